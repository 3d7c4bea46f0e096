/- A -/
import Derived.Test.YthillkfmdndedaaGreatDoorM43
set_option maxRecDepth 100000
set_option maxHeartbeats 64000000
set_option linter.all false
namespace Go.Proofs.YthillkfmdndedaaGreatDoor
open Go.ChangeShapes Go.WideShapes Go.ChangeAt Go.RowKit
theorem Nf{b S Z:I8}(h:b.length=S.length+Z.length):splice (splice b 0 S) S.length Z=S++Z:=by
 have m:splice b 0 S=S++b.drop S.length:=by
  unfold splice;rw[List.take_zero,List.nil_append,Nat.zero_add]
 rw[m];unfold splice;rw[List.take_left,aay (by rw[List.length_append,List.length_drop];omega),aaz]
theorem Zv{n:Nat}(C:1<=n){b m id:I8}(A:b.length=n*128)(u:m.length=n*128)(y:(iP n id).length=128):Qo n b id=Qo n m id:=by
 have e:∀c:I8,c.length=n*128->splice (splice c (0*128) (iP n id)) (1*128) (List.replicate ((n-1)*128) 0)=iP n id++List.replicate ((n-1)*128) 0:=λ c B=>by
  have z:=Nf (b:=c) (S:=iP n id) (Z:=List.replicate ((n-1)*128) 0) (by rw[y,aaZ];omega);rw[y]at z;exact z
 unfold Qo;rw[e b A,e m u]
theorem G5{α:Type}{l u:List α}{k:Nat}{x y:α}(m:l[k]? =some x)(z:u[k]? =some y)(h:x≠y):l≠u:=by
 intro e;rw[e,z]at m;exact h (aat m).symm
theorem Kg{α:Type}{l m:List α}{k:Nat}{x:α}(h:l.take k=m.take k)(y:l[k]? =some x)(u:m[k]? =some x):l.take (k+1)=m.take (k+1):=by
 rw[abu,abu,h,y,u]
theorem Vj{x y:ByteArray}(h:x≠y):(x.toList==y.toList)=false:=by
 rw[beq_eq_false_iff_ne,abD,abD];intro e;exact h (WideShapes.bytes_inj e)
theorem Zw{S S':Nat->Prop}(a O:Mx)(m M u E:Nat)(ss z:List ByteArray)(w:World)(h:aW S w a m ss)(H:aW S' w O u z):
  Dy 43 #[.slice a m M,.slice O u E] w λ e w'=>e= .returned (.bool (decide (ss=z)))/\Below w.heap.size w w':=by
 have I:=h.length;have B:=H.length;have Y:=h.row.small;have N:=H.row.small;unfold maxLen at Y N;by_cases D:m=u
 ·subst D;have HL:=acp I;have K:=acp B;clear I B;go_enter Tryz.func43,Tryz.ntmps43;go_wp2
  go_loopw [5] (λ i wr=>∃k:Nat,k<=m/\i= .int .i64 k/\ss.take k=z.take k/\Below w.heap.size w wr) (λ i _=>m-(intOf i).toNat)
  case atStart=>exact⟨0,by omega,rfl,rfl,Below.refl _ _⟩
  case round=>
   obtain⟨k,hk,rfl,P,F⟩:=hrel;have X:=acp P;clear P;by_cases G:k<m
   ·obtain⟨b,Z,x,rfl,_,_,R,_,hc⟩:=(h.below F acs).cell k G;obtain⟨b',Q,y,rfl,_,_,U,_,ak⟩:=(H.below F acs).cell k G;have W:=acp R;have V:=acp U;clear R U h H;have aC:(0:Int)<=(k:Int):=by omega
    have av:(k:Int)<(m:Int):=by omega
    by_cases A:x=y
    ·subst A;go_wp2
     go_quiet (fail)
     go_wp2;go_roundw
     case rel=>exact⟨k+1,by omega,by go_num,Kg X.o W.o V.o,F.trans ⟨rfl,rfl,rfl,Nat.le_refl _,λ _ _=>rfl⟩⟩
     case measure=>simp[intOf];omega
    ·have aB:=Vj A;have J:=acp A;clear A;go_wp2
     go_quiet (fail)
     go_wp2;go_ret;exact⟨iW (by simp[G5 W.o V.o J.o]),F.trans ⟨rfl,rfl,rfl,Nat.le_refl _,λ _ _=>rfl⟩⟩
   ·go_wp2;go_ret;refine⟨iW ?_,F⟩;have:=X.o;rw[List.take_of_length_le (by have:=HL.o;omega),List.take_of_length_le (by have:=K.o;omega)]at this;simp[this]
 ·have C:ss≠z:=λ e=>D (by rw[<-I,<-B,e]);have J:=acp C;have aA:((m:Int) !=(u:Int))=true:=by simp;omega
  clear I B D C;go_enter Tryz.func43,Tryz.ntmps43;go_wp2;go_ret;exact⟨iW (by simp[J.o]),Below.refl _ _⟩
abbrev Kh(e n:Int)(z:Mx)(u E:Nat)(A:Mx)(B m:Nat)(D k1 k2 k3 C:Int)(y:Bool):Array Value:= #[.int .i64 e,.int .i64 n,.slice z u E,.slice A B m,.int .i64 D,.int .i64 k1,.int .i64 k2,.int .i64 k3,.int .u64 C,.bool y]
theorem QC{S1 S2 S3 S4:Nat->Prop}(e n:Int)(X:I8)(ss:List ByteArray)(m y:Nat)(E k1 k2 k3 D:Int)(C:Bool)(J I O u:Mx)(M N Q z:Nat)(w:World)
  (h1:ah S1 w J m (X.map bv))(h2:ah S2 w O m (X.map bv))(h3:aW S3 w I y ss)(h4:aW S4 w u y ss):
  Dy 12 #[.agg (Kh e n J m M I y N E k1 k2 k3 D C),.agg (Kh e n O m Q u y z E k1 k2 k3 D C)] w λ en w'=>en= .returned (.bool true)/\Below w.heap.size w w':=by
 obtain⟨F,B⟩:∃F,F=(w.alloc (.cells (Kh e n J m M I y N E k1 k2 k3 D C) 38)).alloc (.cells (Kh e n O m Q u y z E k1 k2 k3 D C) 38):=⟨_,rfl⟩;have A:Below w.heap.size w F:=by rw[B];exact(wall w _).trans ((wall _ _).mono (by simp))
 have Z:F.heap[w.heap.size]? =some (.cells (Kh e n J m M I y N E k1 k2 k3 D C) 38 (0,0)):=by
  rw[B];exact((MapKept.heap_alloc (w.alloc (.cells (Kh e n J m M I y N E k1 k2 k3 D C) 38)) _).2 w.heap.size (by simp)).trans (MapKept.heap_alloc w _).1
 have Y:F.heap[w.heap.size+1]? =some (.cells (Kh e n O m Q u y z E k1 k2 k3 D C) 38 (0,0)):=by
  rw[B];have:=(MapKept.heap_alloc (w.alloc (.cells (Kh e n J m M I y N E k1 k2 k3 D C) 38)) (.cells (Kh e n O m Q u y z E k1 k2 k3 D C) 38)).1;simpa using this
 have HK:acr (∀w',Below F.heap.size F w'->w'.cell? ⟨w.heap.size,0,none⟩=some (.int .i64 e)/\w'.cell? ⟨w.heap.size,1,none⟩=some (.int .i64 n)/\w'.cell? ⟨w.heap.size,2,none⟩=some (.slice J m M)/\w'.cell? ⟨w.heap.size,3,none⟩=some (.slice I y N)/\w'.cell? ⟨w.heap.size,4,none⟩=some (.int .i64 E)/\w'.cell? ⟨w.heap.size,5,none⟩=some (.int .i64 k1)/\w'.cell? ⟨w.heap.size,6,none⟩=some (.int .i64 k2)/\w'.cell? ⟨w.heap.size,7,none⟩=some (.int .i64 k3)/\w'.cell? ⟨w.heap.size,8,none⟩=some (.int .u64 D)/\w'.cell? ⟨w.heap.size,9,none⟩=some (.bool C)/\w'.cell? ⟨w.heap.size+1,0,none⟩=some (.int .i64 e)/\w'.cell? ⟨w.heap.size+1,1,none⟩=some (.int .i64 n)/\w'.cell? ⟨w.heap.size+1,2,none⟩=some (.slice O m Q)/\w'.cell? ⟨w.heap.size+1,3,none⟩=some (.slice u y z)/\w'.cell? ⟨w.heap.size+1,4,none⟩=some (.int .i64 E)/\w'.cell? ⟨w.heap.size+1,5,none⟩=some (.int .i64 k1)/\w'.cell? ⟨w.heap.size+1,6,none⟩=some (.int .i64 k2)/\w'.cell? ⟨w.heap.size+1,7,none⟩=some (.int .i64 k3)/\w'.cell? ⟨w.heap.size+1,8,none⟩=some (.int .u64 D)/\w'.cell? ⟨w.heap.size+1,9,none⟩=some (.bool C)/\(convert 30 9 (.slice J m M)).run Tryz.prog w'= .ok (.string (strOf X)) w'/\(convert 30 9 (.slice O m Q)).run Tryz.prog w'= .ok (.string (strOf X)) w'):=λ w' P=>by
  have G:=(P.block w.heap.size (qW.1 Z).1).trans Z;have H:=(P.block (w.heap.size+1) (qW.1 Y).1).trans Y;refine⟨?_,?_,?_,?_,?_,?_,?_,?_,?_,?_,?_,?_,?_,?_,?_,?_,?_,?_,?_,?_,?_,?_⟩
  ·simp[World.cell?,G]
  ·simp[World.cell?,G]
  ·simp[World.cell?,G]
  ·simp[World.cell?,G]
  ·simp[World.cell?,G]
  ·simp[World.cell?,G]
  ·simp[World.cell?,G]
  ·simp[World.cell?,G]
  ·simp[World.cell?,G]
  ·simp[World.cell?,G]
  ·simp[World.cell?,H]
  ·simp[World.cell?,H]
  ·simp[World.cell?,H]
  ·simp[World.cell?,H]
  ·simp[World.cell?,H]
  ·simp[World.cell?,H]
  ·simp[World.cell?,H]
  ·simp[World.cell?,H]
  ·simp[World.cell?,H]
  ·simp[World.cell?,H]
  ·exact gQ ((h1.below A acs).below P acs)
  ·exact gQ ((h2.below A acs).below P acs)
 have K:=(λ w' (P:Below F.heap.size F w')=>Zw I u y N y z ss ss w' ((h3.below A acs).below P acs) ((h4.below A acs).below P acs));rw[aak (rfl:ss=ss)]at K;have zF:=acp K;clear K;have U:=acp A;have V:=acp B;have W:=HK.o _ acu;rw[B]at W;obtain⟨p0,p1,p2,p3,-,-,-,-,-,-,z0,z1,z2,z3,-,-,-,-,-,-,av,ak⟩:=W;clear h1 h2 h3 h4 Z Y A B;go_enter Tryz.func12,Tryz.ntmps12;go_wp2_with fail;refine(zF.o _ (by rw[V.o];exact Below.refl _ _)).mono ?_;rintro en w3 ⟨rfl,S⟩;have R:acr (Below F.heap.size F w3):=by rw[V.o];exact acp S
 have W:=HK.o _ R.o;obtain⟨-,-,-,-,q4,q5,q6,q7,q8,q9,-,-,-,-,r4,r5,r6,r7,r8,r9,-,-⟩:=W;clear S;go_wp2_with fail;go_ret;exact⟨rfl,U.o.trans (R.o.mono U.o.size)⟩
def bH(n m u:Int):Int:=m+n%(u-m+1)
theorem kU(n m u:Int)(h:m<=u):m<=bH n m u/\bH n m u<=u:=by
 unfold bH;have z:=Int.emod_nonneg n (show u-m+1≠0 by omega);have y:=Int.emod_lt_of_pos n (show 0<u-m+1 by omega);omega
theorem Vk{n:Int}(h:(Lit.int .i64 n).wf=true): -9223372036854775808<=n/\n<=9223372036854775807:=by
 simp[Lit.wf,IntKind.min,IntKind.max,IntKind.signed,IntKind.bits]at h;omega
theorem qG(n u m:Int)(w:World)(y:(Lit.int .i64 n).wf=true)(I:0<=u)(H:u<=m)(M:m<=1099511627776):
  Dy 49 #[.int .i64 n,.int .i64 u,.int .i64 m] w λ e w'=>e= .returned (.int .i64 (bH n u m))/\w=w':=by
 obtain⟨E,D⟩:=Vk y;clear y;have t1:=Int.tmod_lt_of_pos n (show 0<m-u+1 by omega);have t2:=Int.lt_tmod_of_pos n (show 0<m-u+1 by omega);have t3:=Int.emod_nonneg n (show m-u+1≠0 by omega);have t4:=Int.emod_lt_of_pos n (show 0<m-u+1 by omega);by_cases y:0<=n
 ·have G:¬n%(m-u+1)<0:=by omega
  go_enter Tryz.func49,Tryz.ntmps49;go_wp2;go_ret;exact⟨dX (by unfold bH;rfl),rfl⟩
 ·have A:n%(m-u+1)=if n.tmod (m-u+1)<0 then n.tmod (m-u+1)+(m-u+1)else n.tmod (m-u+1):=by
   have K:=Int.emod_add_mul_ediv n (m-u+1);have J:=Int.tmod_add_mul_tdiv n (m-u+1);have z:(n.tmod (m-u+1))%(m-u+1)=n%(m-u+1):=by
    have C:n=n.tmod (m-u+1)+(m-u+1)*n.tdiv (m-u+1):=by omega
    rw[<-Int.add_mul_emod_self_left (n.tmod (m-u+1)) (m-u+1) (n.tdiv (m-u+1)),<-C]
   split
   ·rw[<-z,<-Int.add_emod_right,Int.emod_eq_of_lt (by omega) (by omega)]
   ·rw[<-z,Int.emod_eq_of_lt (by omega) (by omega)]
  have B:=acp A;clear A;by_cases F:n.tmod (m-u+1)<0
  ·go_enter Tryz.func49,Tryz.ntmps49;go_wp2;go_ret;exact⟨dX (by unfold bH;rw[B.o,if_pos F];omega),rfl⟩
  ·go_enter Tryz.func49,Tryz.ntmps49;go_wp2;go_ret;exact⟨dX (by unfold bH;rw[B.o,if_neg (by omega)]),rfl⟩
def gD:List (I8):=[[47,97],[47,98],[47,99],[47,97,47,97],[47,97,47,98],[47,98,47,97],[47,98,47,98,47,97],[47],[47,99,47,97],[47,98,47,98],[47,65],[97],[47,97,47,47,98],[47,97,47]]
def NameRet(w:World)(e:Ending)(w':World):Prop:=∃s,s∈gD/\e= .returned (.string (strOf s))/\Below w.heap.size w w'
theorem Ng(z:Int)(B:(Lit.int .i64 z).wf=true)(w:World):Dy 48 #[.int .i64 z] w (NameRet w):=by
 obtain⟨v,A⟩:∃v,v=bH z 0 1048576:=⟨_,rfl⟩;have D:=kU z 0 1048576 (by omega);have m:=acp (qG z 0 1048576 (w.alloc (.cells #[.string ⟨#[47,97]⟩,.string ⟨#[47,98]⟩,.string ⟨#[47,99]⟩,.string ⟨#[47,97,47,97]⟩,.string ⟨#[47,97,47,98]⟩,.string ⟨#[47,98,47,97]⟩,.string ⟨#[47,98,47,98,47,97]⟩,.string ⟨#[47]⟩,.string ⟨#[47,99,47,97]⟩,.string ⟨#[47,98,47,98]⟩,.string ⟨#[47,65]⟩,.string ⟨#[97]⟩,.string ⟨#[47,97,47,47,98]⟩,.string ⟨#[47,97,47]⟩] 9)) B (by omega) (by omega) (by omega));rw[<-A]at D m;clear A;obtain⟨k,rfl⟩:∃k:Nat,v=k:=⟨v.toNat,by omega⟩;obtain⟨q,y⟩:∃q,q=k%14:=⟨_,rfl⟩;have E:(k:Int)%14=(q:Int):=by rw[y];omega
 have F:(k:Int).tmod 14=(q:Int):=by rw[Int.tmod_eq_emod_of_nonneg (by omega)];exact E
 have C:q<14:=by rw[y];omega
 clear y;rcases (show q=0\/q=1\/q=2\/q=3\/q=4\/q=5\/q=6\/q=7\/q=8\/q=9\/q=10\/q=11\/q=12\/q=13 by omega)with rfl|rfl|rfl|rfl|rfl|rfl|rfl|rfl|rfl|rfl|rfl|rfl|rfl|rfl
 ·go_enter aa5,aa0;go_wp2_with fail;refine m.o.mono ?_;rintro e u ⟨rfl,rfl⟩;clear m;go_wp2_with fail;go_ret;exact⟨[47,97],by simp[gD],rfl,acu.alloc acs _⟩
 ·go_enter aa5,aa0;go_wp2_with fail;refine m.o.mono ?_;rintro e u ⟨rfl,rfl⟩;clear m;go_wp2_with fail;go_ret;exact⟨[47,98],by simp[gD],rfl,acu.alloc acs _⟩
 ·go_enter aa5,aa0;go_wp2_with fail;refine m.o.mono ?_;rintro e u ⟨rfl,rfl⟩;clear m;go_wp2_with fail;go_ret;exact⟨[47,99],by simp[gD],rfl,acu.alloc acs _⟩
 ·go_enter aa5,aa0;go_wp2_with fail;refine m.o.mono ?_;rintro e u ⟨rfl,rfl⟩;clear m;go_wp2_with fail;go_ret;exact⟨[47,97,47,97],by simp[gD],rfl,acu.alloc acs _⟩
 ·go_enter aa5,aa0;go_wp2_with fail;refine m.o.mono ?_;rintro e u ⟨rfl,rfl⟩;clear m;go_wp2_with fail;go_ret;exact⟨[47,97,47,98],by simp[gD],rfl,acu.alloc acs _⟩
 ·go_enter aa5,aa0;go_wp2_with fail;refine m.o.mono ?_;rintro e u ⟨rfl,rfl⟩;clear m;go_wp2_with fail;go_ret;exact⟨[47,98,47,97],by simp[gD],rfl,acu.alloc acs _⟩
 ·go_enter aa5,aa0;go_wp2_with fail;refine m.o.mono ?_;rintro e u ⟨rfl,rfl⟩;clear m;go_wp2_with fail;go_ret;exact⟨[47,98,47,98,47,97],by simp[gD],rfl,acu.alloc acs _⟩
 ·go_enter aa5,aa0;go_wp2_with fail;refine m.o.mono ?_;rintro e u ⟨rfl,rfl⟩;clear m;go_wp2_with fail;go_ret;exact⟨[47],by simp[gD],rfl,acu.alloc acs _⟩
 ·go_enter aa5,aa0;go_wp2_with fail;refine m.o.mono ?_;rintro e u ⟨rfl,rfl⟩;clear m;go_wp2_with fail;go_ret;exact⟨[47,99,47,97],by simp[gD],rfl,acu.alloc acs _⟩
 ·go_enter aa5,aa0;go_wp2_with fail;refine m.o.mono ?_;rintro e u ⟨rfl,rfl⟩;clear m;go_wp2_with fail;go_ret;exact⟨[47,98,47,98],by simp[gD],rfl,acu.alloc acs _⟩
 ·go_enter aa5,aa0;go_wp2_with fail;refine m.o.mono ?_;rintro e u ⟨rfl,rfl⟩;clear m;go_wp2_with fail;go_ret;exact⟨[47,65],by simp[gD],rfl,acu.alloc acs _⟩
 ·go_enter aa5,aa0;go_wp2_with fail;refine m.o.mono ?_;rintro e u ⟨rfl,rfl⟩;clear m;go_wp2_with fail;go_ret;exact⟨[97],by simp[gD],rfl,acu.alloc acs _⟩
 ·go_enter aa5,aa0;go_wp2_with fail;refine m.o.mono ?_;rintro e u ⟨rfl,rfl⟩;clear m;go_wp2_with fail;go_ret;exact⟨[47,97,47,47,98],by simp[gD],rfl,acu.alloc acs _⟩
 ·go_enter aa5,aa0;go_wp2_with fail;refine m.o.mono ?_;rintro e u ⟨rfl,rfl⟩;clear m;go_wp2_with fail;go_ret;exact⟨[47,97,47],by simp[gD],rfl,acu.alloc acs _⟩
theorem rD{s:I8}(h:s∈gD):s.length<=6:=by
 have:∀s∈gD,s.length<=6:=by decide
 exact this s h
theorem cut_any(a:Mx)(m u n:Nat)(A:m<=u)(B:n<=1048576)(y:m<=maxLen)(w:World):
  Dy 50 #[.slice a m u,.int .i64 n] w λ e w'=>e= .returned (.slice a (min m n) u)/\w=w':=by
 unfold maxLen at y;by_cases h:n<m
 ·have z:n<=u:=by omega
  go_enter Tryz.func50,Tryz.ntmps50;go_wp2;go_ret;rw[show min m n=n by omega];exact⟨rfl,rfl⟩
 ·go_enter Tryz.func50,Tryz.ntmps50;go_wp2;go_ret;rw[show min m n=m by omega];exact⟨rfl,rfl⟩
