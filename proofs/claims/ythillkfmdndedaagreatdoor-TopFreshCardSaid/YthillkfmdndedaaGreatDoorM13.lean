/- DERIVED -/
import Derived.Shelf.Spec.SlicesGrow
import Derived.Lib.SliceRun
import Derived.Test.YthillkfmdndedaaGreatDoorM12
set_option maxRecDepth 100000
set_option maxHeartbeats 64000000
set_option linter.all false
namespace Go.Proofs
open Go.Shelf
def Tryz.Bp:Go.Shelf.Ren:=⟨λ|4=>165|n=>n,λ|22=>30|25=>5|3=>3|4=>4|9=>9|20=>20|0=>0|n=>n,λ|n=>n⟩
theorem Tryz.growL:Go.Proofs.Lays8.n4 Tryz.prog Tryz.Bp:={
 mixed:=by kernel_rfl
 f4:=⟨Tryz.f165.name,by decide,FR Tryz.func165 (by kernel_rfl)⟩
 t0:=Tryz.underlying0
 a0:=Tryz.isAgg0
 z0:=Tryz.sizeOf0
 v0:=Tryz.zeroValue0
 t3:=Tryz.underlying3
 a3:=Tryz.isAgg3
 z3:=Tryz.sizeOf3
 v3:=Tryz.zeroValue3
 t4:=Tryz.underlying4
 a4:=Tryz.isAgg4
 z4:=Tryz.sizeOf4
 v4:=Tryz.zeroValue4
 t9:=Tryz.underlying9
 a9:=Tryz.isAgg9
 z9:=Tryz.sizeOf9
 v9:=Tryz.zeroValue9
 t20:=Tryz.underlying20
 a20:=Tryz.isAgg20
 z20:=Tryz.sizeOf20
 v20:=Tryz.zeroValue20
 t22:=Tryz.underlying30
 a22:=Tryz.isAgg30
 z22:=Tryz.sizeOf30
 v22:=Tryz.zeroValue30}
end Go.Proofs
namespace Go.Proofs.YthillkfmdndedaaGreatDoor
open Go.ChangeShapes Go.WideShapes Go.ChangeAt Go.RowKit
theorem V8(n:Nat)(w:World)(F:n<=1000000000):
  Dy 165 #[.slice none 0 0,.int .i64 n] w λ e w'=>∃v,e= .returned v/\w'.ownsRow w.heap.size 5 1 v 0 []/\Below w.heap.size w w':=by
 obtain⟨A,D,m,y,u⟩:=aaq Tryz.vL;by_cases C:n=0
 ·subst C;refine(Any8.slices_Grow_room Tryz.growL none 0 0 0 w (by omega) (by omega) (by omega) (by omega)).mono ?_;rintro e w' ⟨rfl,rfl⟩;exact⟨_,rfl,⟨rfl,.inl ⟨rfl,rfl⟩⟩,Below.refl _ _⟩
 ·refine(Any8.slices_Grow_grow Tryz.growL A (.int .u8 0) D m (by rw[y];omega) none 0 0 n [] w (by omega) (by omega) (by rw[u];omega) (by omega) (by simp) (λ _=>rfl) (λ a h=>by cases h)).mono ?_;rintro e w' ⟨rfl,rfl⟩;have E:=grownCap_ge w (0+n) 0 (Tryz.Bp.t 25);have z:=grownCap_le_maxLen w (0+n) 0 (Tryz.Bp.t 25) (by unfold maxLen;omega);refine⟨_,rfl,⟨rfl,.inr ⟨w.heap.size,_,_,rfl,Nat.le_refl _,(MapKept.heap_alloc w.drew _).1,Nat.zero_le _,z,?_,rfl⟩⟩,(acu.drew).alloc acs _⟩;have B:(Value.cells (.int .u8 0)).size=1:=rfl;simp only[Array.size_append,size_zeroCells,abR,List.length_nil,B];omega
theorem Hu{w:World}{m:Nat}{e:TypeId}{u:Nat}{v:Value}{n:Nat}{xs:List Value}(h:w.ownsRow m e u v n xs):∃a c,v= .slice a n c/\n<=c/\c<=maxLen:=by
 rcases h.2 with⟨rfl,rfl⟩|⟨g,A,z,rfl,_,_,h,y,_⟩
 ·exact⟨_,_,rfl,Nat.le_refl _,Nat.zero_le _⟩
 ·exact⟨_,_,rfl,h,y⟩
theorem Hw(m:List (I8))(k:Nat)(u:I8)(h:m[k]? =some u):(m.take (k+1)).flatten=(m.take k).flatten++u:=by
 obtain⟨y,e⟩:=aaj.1 h;rw[aai y,abE,e];simp
theorem flat_le(m:List (I8))(k:Nat):(m.take k).flatten.length<=m.flatten.length:=by
 conv=>rhs;rw[<-aaT k m,abE]
 simp
def sZ(m:List (I8))(k:Nat):List UInt8:=(m.take k).flatten
def qX(m:List (I8))(k:Nat):Nat:=(sZ m k).length
theorem Ei{S:Nat->Prop}(B I cp n:Nat)(m:List (I8))(w:World)(hn:n=m.length)(aF:n<=1000)(hB:B<w.heap.size)(F:m.flatten.length<=1000000000)
  (hc:∀k,k<n->∃a l c y,w.cell? ⟨B,I+k,none⟩=some (.slice a l c)/\ah S w a l (y.map bv)/\m[k]? =some y):
  Dy 96 #[.slice (some ⟨B,I,none⟩) n cp] w λ e w'=>∃a c,e= .returned (.slice a m.flatten.length c)/\(m.flatten.length<=c/\c<=maxLen)/\ah (λ x=>w.heap.size<=x/\x<w'.heap.size) w' a m.flatten.length (m.flatten.map bv)/\Below w.heap.size w w':=by
 obtain⟨i0,hi,Y,aC,aB⟩:=aaq Tryz.vL;have HN:=acp hn;have HC:=acp hc;have J:∀k,qX m k<=m.flatten.length:=λ k=>flat_le m k;obtain⟨N,hN⟩:∃N,N=m.flatten.length:=⟨_,rfl⟩;obtain⟨fl,N_⟩:∃fl,fl=m.flatten:=⟨_,rfl⟩;rw[<-hN]at F J⊢;rw[<-N_];have CB:=acp hN;have ak:=acp N_;clear hN N_;have W:=acp J;have hG:=V8 N w F;have HG:=acp hG;clear hn hc J hG;go_enter Tryz.func96,Tryz.ntmps96;go_wp2
 go_loop [3,11] (λ s i=>∃k:Nat,k<=n/\i= .int .i64 k/\s= .int .i64 (qX m k)) (λ _ i=>n-(intOf i).toNat)
 case atStart=>exact⟨0,by omega,rfl,rfl⟩
 case round=>
  obtain⟨k,hk,rfl,rfl⟩:=hrel;have aA:=W.o k;by_cases K:k<n
  ·obtain⟨a,l,c,y,G,P,R⟩:=HC.o k K;have H:l=y.length:=by have:=P.length;simpa using this.symm
   subst H;have O:acr (qX m (k+1)=qX m k+y.length):=by unfold qX sZ;rw[Hw m k y R,List.length_append];exact rfl
   have U:qX m k+y.length<=1000000000:=by have:=O.o;have:=W.o (k+1);omega
   clear R P;go_wp2
   go_round
   case rel=>exact⟨k+1,by omega,by go_num,by rw[O.o];go_num⟩
   case measure=>simp[intOf];omega
  ·obtain rfl:n=k:=by omega
   have Z:acr (sZ m n=fl/\qX m n=N):=by
    have:m.take n=m:=List.take_of_length_le (by have:=HN.o;omega);unfold qX sZ;rw[this];exact⟨ak.o.symm,CB.o.symm⟩
   rw[Z.o.2];go_wp2_with fail;refine HG.o.mono ?_;rintro e w1 ⟨v,rfl,u,V⟩;have aD:=acp V;have C:w1.ownsRow w.heap.size 5 1 v (qX m 0) ((sZ m 0).map bv):=u;have HO:=acp C;clear V u C HG;go_wp2_with fail
   go_loopw [6,27] (λ v i wr=>∃k:Nat,k<=n/\i= .int .i64 k/\wr.ownsRow w.heap.size 5 1 v (qX m k) ((sZ m k).map bv)/\Below w.heap.size w wr) (λ _ i _=>n-(intOf i).toNat)
   case atStart=>exact⟨0,by omega,rfl,HO.o,aD.o⟩
   case round=>
    obtain⟨k,hk,rfl,u,M⟩:=hrel;have Q:=M.size;by_cases K:k<n
    ·obtain⟨a,l,c,y,z,P,R⟩:=HC.o k K;have G:=(M.cell (p:=⟨B,I+k,none⟩) hB).trans z;have O:acr (sZ m (k+1)=sZ m k++y/\qX m (k+1)=qX m k+y.length):=by unfold qX sZ;rw[Hw m k y R,List.length_append];exact⟨rfl,rfl⟩
     have H:l=y.length:=by have:=P.length;simpa using this.symm
     subst H;have U:qX m k+y.length<=1000000000:=by have:=O.o.2;have:=W.o (k+1);omega
     have HS:=acp (P.below M acs);have E:=acp u;have HB:=acp M;clear R P u M z aA;go_wp2_with (at_builtin;refine bU (by rfl) _ _ 30 (by rfl) w.heap.size 5 i0 (.int .u8 0) 1 Tryz.underlying30 hi Y aC aB rfl _ _ _ (by rfl) E.o a y.length c (y.map bv) (by rfl) HS.o (jA y) (by unfold maxLen;omega) (by omega) Q ?_;intro A' c' w2 D A _ _);have Nr:=acp D;have av:=acp A;clear D A;go_roundw
     case rel=>
      refine⟨k+1,by omega,by go_num,?_,HB.o.grown av.o Q (aZ E.o)⟩;rw[O.o.1,O.o.2,aas];exact Nr.o
     case measure=>simp[intOf];omega
    ·obtain rfl:n=k:=by omega
     rw[Z.o.1,Z.o.2]at u;obtain⟨a,c,rfl,X⟩:=Hu u;have E:=acp u;have HB:=acp M;clear u M;go_wp2;go_ret;exact⟨a,c,rfl,X,(ah.mU E.o).2,HB.o⟩
theorem Ej{S:Nat->Prop}(B n:Nat)(m:List (I8))(w:World)(E:n=m.length)(y:n<=1000)(D:B<w.heap.size)(u:m.flatten.length<=1000000000)
  (C:∀k,k<n->∃a l c z,w.cell? ⟨B,k,none⟩=some (.slice a l c)/\ah S w a l (z.map bv)/\m[k]? =some z):
  Dy 96 #[.slice (some ⟨B,0,none⟩) n n] w λ e w'=>∃a c,e= .returned (.slice a m.flatten.length c)/\(m.flatten.length<=c/\c<=maxLen)/\ah (λ x=>w.heap.size<=x/\x<w'.heap.size) w' a m.flatten.length (m.flatten.map bv)/\Below w.heap.size w w':=
 Ei B 0 n n m w E y D u λ k A=>by rw[Nat.zero_add];exact C k A
theorem tu(b y n A:Nat)(C:I8)(w:World)(hn:0<n)(N:C.length=n)(hm:n<=1048576)(R:∀j u,(C.map bv)[j]? =some u->w.cell? ((⟨b,y,none⟩:Addr).add j)=some u)(Z:b<w.heap.size):
  Dy 44 #[.slice (some ⟨b,y,none⟩) n A] w λ e w'=>∃v,e= .returned v/\Je (λ x=>w.heap.size<=x/\x<w'.heap.size) w' n v C/\Below w.heap.size w w':=by
 obtain⟨i0,U,H,M,K⟩:=aaq Tryz.vL;have S:=λ w=>Lib.run_eql_slice_nil (P:=Tryz.prog) w 30 5 (some ⟨b,y,none⟩) n A 0 0 Tryz.underlying30;go_enter abL,abz;go_wp2_with ((at_builtin;refine wpList_append_own _ rfl _ _ 30 rfl w.heap.size 5 i0 (.int .u8 0) 1 1 Tryz.underlying30 U H M K rfl (by omega) _ 0 [] rfl ⟨rfl,.inr ⟨w.heap.size,0,#[],rfl,Nat.le_refl _,(MapKept.heap_alloc w _).1,Nat.le_refl _,Nat.zero_le _,rfl,rfl⟩⟩ ⟨b,y,none⟩ n A (C.map bv) rfl (by simp[N]) (λ j u E=>(World.cell?_of_block (w:=w) (w':=w.alloc _) (a:=(⟨b,y,none⟩:Addr).add j) (by rw[add_plain];exact Below.heap_alloc w _ b Z)).trans (R j u E)) (by intro u E;obtain⟨x,_,rfl⟩:=List.mem_map.1 E;rfl) (by unfold maxLen;omega) (by omega) (by simp) ?_;intro v W B m F));go_ret;have I:=m.size;rw[Pe]at I;have D:Below w.heap.size w W:=(acu.alloc acs _).grown m (by simp) (λ k V=>by cases V;exact Nat.le_refl _);obtain⟨O,h⟩:=B;rcases h with⟨rfl,h0⟩|⟨g,Q,J,rfl,G,z,h1,Y,h3,X⟩
 ·omega
 ·refine⟨_,rfl,⟨N,g,Q,J,by simp,⟨G,(qW.1 z).1⟩,z,by simpa using X,by omega,Y,by simpa using h3⟩,D⟩
section
variable{g:Nat->Own}{D:Nat->Prop}{p mb:Nat}{ib nb:Int->Nat}{T:aS}
theorem Turn.of{w w':World}{u m:Int->Nat}{y:aS}{v:Value}{e:Ending}(A:e= .returned v)(h:aK g D w' p mb u m y)(z:Keeps (λ b=>g b≠ .none) w w'):Turn g D w p mb y v e w':=
 ⟨A,g,D,u,m,h,λ b h=> .inl h,λ b h=> .inl h,z⟩
theorem qm{id:Int}(h:fQ T id=0):∃x,au id T=some x/\x.kind≠2:=by
 unfold fQ at h;cases u:au id T with
 |none=>rw[u]at h;cases h
 |some x=>
  rw[u]at h;by_cases m:x.kind=2
  ·simp only[if_pos m]at h;cases h
  ·exact⟨x,rfl,m⟩
theorem Sy{id y:Int}(h:fQ T id≠0):Cx T id y=fQ T id:=by
 unfold fQ at h⊢;unfold Cx;cases u:au id T with
 |none=>rfl
 |some x=>
  rw[u]at h;by_cases m:x.kind=2
  ·simp only[if_pos m]
  ·simp only[if_neg m]at h;exact absurd rfl h
theorem Sz{id y:Int}(h:fQ T id≠0):Cy T id y=fQ T id:=by
 unfold fQ at h⊢;unfold Cy;cases u:au id T with
 |none=>rfl
 |some x=>
  rw[u]at h;by_cases m:x.kind=2
  ·simp only[if_pos m]
  ·simp only[if_neg m]at h;exact absurd rfl h
theorem K4{id:Int}{b:I8}(h:fQ T id≠0):qR T id b=fQ T id:=by
 unfold fQ at h⊢;unfold qR;cases u:au id T with
 |none=>rfl
 |some x=>
  rw[u]at h;by_cases m:x.kind=2
  ·simp only[if_pos m]
  ·simp only[if_neg m]at h;exact absurd rfl h
theorem SA{id:Int}(h:fQ T id≠0):lF T id=fQ T id:=by
 unfold fQ at h⊢;unfold lF;cases u:au id T with
 |none=>rfl
 |some x=>
  rw[u]at h;by_cases m:x.kind=2
  ·simp only[if_pos m]
  ·simp only[if_neg m]at h;exact absurd rfl h
theorem SB{id at_ n:Int}(h:fQ T id≠0):G_ T id at_ n=fQ T id/\qV T id at_ n=[]:=by
 unfold fQ at h⊢;unfold G_ qV;cases u:au id T with
 |none=>exact⟨rfl,rfl⟩
 |some x=>
  rw[u]at h;by_cases m:x.kind=2
  ·simp only[if_pos m,and_self]
  ·simp only[if_neg m]at h;exact absurd rfl h
theorem seal_at(id m:Int)(w:World)(h:aK g D w p mb ib nb T)(C:(Lit.int .i64 id).wf=true)(aA:0<=m)(av:m<=18446744073709551615):
  Dy 131 #[ptr p,.int .i64 id,.int .u64 m] w (Turn g D w p mb (gu T id m).2 (.int .i64 (gu T id m).1)):=by
 have S:=acp h;by_cases z:fQ T id=0
 ·obtain⟨x,y,A⟩:=qm z;have E:=acp (xg id y A w h C);obtain⟨c0,c1,c2,c3,c4,X,R,ak⟩:=(h.item id x y).cell;have HX:=acp y;have Q:Cx T id m=if x.closed then 27 else if 1099511627776<m then 1 else 0:=by unfold Cx;rw[y];simp only[if_neg A]
  have V:=acp Q;cases u:x.closed with
  |true=>
   have B:acr (gu T id m=(27,T)):=by
    unfold gu;rw[V.o,u];simp only[if_pos];exact rfl
   rw[u]at X;clear Q u y A z h R;go_enter Tryz.func131,Tryz.ntmps131;go_wp2_with fail;refine E.o.mono ?_;rintro e P ⟨rfl,rfl⟩;go_wp2_with fail;go_ret;rw[B.o];exact Turn.same S.o acu rfl
  |false=>
   rw[u]at X;by_cases N:1099511627776<m
   ·have B:acr (gu T id m=(1,T)):=by
     unfold gu;rw[V.o,u];simp only[Bool.false_eq_true,if_false,if_pos N];exact rfl
    clear Q u y A z h R;go_enter Tryz.func131,Tryz.ntmps131;go_wp2_with fail;refine E.o.mono ?_;rintro e P ⟨rfl,rfl⟩;go_wp2_with fail;go_ret;rw[B.o];exact Turn.same S.o acu rfl
   ·have B:acr (gu T id m=(0,iQ (cZ id (λ x=>{x with closed:=true,aL:=m}) T) id)):=by
     unfold gu;rw[V.o,u];simp only[Bool.false_eq_true,if_false,if_neg N];exact rfl
    have Y:=(h.item id x y).frozen 4;have Z:=(h.item id x y).frozen 5;have J:aK g D ((w.setCell ⟨ib id,5,none⟩ (.bool true)).setCell ⟨ib id,4,none⟩ (.int .u64 m)) p mb ib nb (cZ id (λ x=>{x with closed:=true,aL:=m}) T):=by
     refine h.fields y (λ x=>{x with closed:=true,aL:=m}) rfl rfl rfl (Keeps.set2 w _ _ _ _ _) (by rw[size_set,size_set]) λ a c hc=> ?_;rw[aG (aG hc)];rfl
    have K:au id (cZ id (λ x=>{x with closed:=true,aL:=m}) T)=some {x with closed:=true,aL:=m}:=by rw[bB,if_pos rfl,y];rfl
    have HS:=acp (Eh id K C _ J);have H:=h.qL id x y;have F:=h.lI;have I:acr (∀b,(b=ib id\/b=mb)->g b≠ .none):=λ b M=>by
     rcases M with rfl|rfl
     ·rw[H];simp
     ·rw[F];simp
    clear Q u y A z h R J K H F;go_enter Tryz.func131,Tryz.ntmps131;go_wp2_with fail;refine E.o.mono ?_;rintro e P ⟨rfl,rfl⟩;go_wp2_with fail;refine HS.o.mono ?_;rintro e P ⟨rfl,O,G,aB⟩;have W:=acp O;have Di:=acp G;clear O G;go_wp2_with fail;go_ret;rw[B.o];exact Turn.of rfl W.o (((Keeps.set2 w (ib id) 5 4 _ _).mono λ b _ M=>I.o b (.inl M)).trans (Di.o.mono λ b _ M=>I.o b (.inr M)) (λ _ _ h=>h))
 ·have U:(fQ T id==0)=false:=by simpa using z
  have E:=acp (vT id _ rfl z w h C);have B:acr (gu T id m=(fQ T id,T)):=by
   unfold gu;rw[Sy z,if_neg z];exact rfl
  obtain⟨k,A⟩:∃k,k=fQ T id:=⟨_,rfl⟩;rw[<-A]at E U B;clear z h A;go_enter Tryz.func131,Tryz.ntmps131;go_wp2_with fail;refine E.o.mono ?_;rintro e P ⟨rfl,rfl⟩;go_wp2_with fail;go_ret;rw[B.o];exact Turn.same S.o acu rfl
theorem keep_at(id u:Int)(w:World)(h:aK g D w p mb ib nb T)(I:(Lit.int .i64 id).wf=true)(Y:0<=u)(X:u<=18446744073709551615)(y:∀x,au id T=some x->0<=x.aL/\x.aL<=1099511627776):
  Dy 140 #[ptr p,.int .i64 id,.int .u64 u] w (Turn g D w p mb (iX T id u).2 (.int .i64 (iX T id u).1)):=by
 have N:=acp h;by_cases A:fQ T id=0
 ·obtain⟨x,z,C⟩:=qm A;have E:=acp (xg id z C w h I);obtain⟨c0,c1,c2,c3,c4,S,M,W⟩:=(h.item id x z).cell;obtain⟨ak,Z⟩:=y x z;have G:Cy T id u=if x.closed=false then 25 else if u<x.aL then 28 else if 1099511627776<u then 1 else 0:=by unfold Cy;rw[z];simp only[if_neg C]
  have O:=acp G;cases m:x.closed with
  |false=>
   have B:acr (iX T id u=(25,T)):=by
    unfold iX;rw[O.o,m];simp only[if_pos];exact rfl
   rw[m]at S;clear G m z C A h M y;go_enter Tryz.func140,Tryz.ntmps140;go_wp2_with fail;refine E.o.mono ?_;rintro e K ⟨rfl,rfl⟩;go_wp2_with fail;go_ret;rw[B.o];exact Turn.same N.o acu rfl
  |true=>
   rw[m]at S;by_cases F:u<x.aL
   ·have B:acr (iX T id u=(28,T)):=by
     unfold iX;rw[O.o,m];simp only[abJ,if_false,if_pos F];exact rfl
    clear G m z C A h M y;go_enter Tryz.func140,Tryz.ntmps140;go_wp2_with fail;refine E.o.mono ?_;rintro e K ⟨rfl,rfl⟩;go_wp2_with fail;go_ret;rw[B.o];exact Turn.same N.o acu rfl
   ·by_cases J:1099511627776<u
    ·have B:acr (iX T id u=(1,T)):=by
      unfold iX;rw[O.o,m];simp only[abJ,if_false,if_neg F,if_pos J];exact rfl
     clear G m z C A h M y;go_enter Tryz.func140,Tryz.ntmps140;go_wp2_with fail;refine E.o.mono ?_;rintro e K ⟨rfl,rfl⟩;go_wp2_with fail;go_ret;rw[B.o];exact Turn.same N.o acu rfl
    ·have B:acr (iX T id u=(0,cZ id (λ x=>{x with aL:=u}) T)):=by
      unfold iX;rw[O.o,m];simp only[abJ,if_false,if_neg F,if_neg J];exact rfl
     have U:=(h.item id x z).frozen 4;have H:aK g D (w.setCell ⟨ib id,4,none⟩ (.int .u64 u)) p mb ib nb (cZ id (λ x=>{x with aL:=u}) T):=by
      refine h.fields z (λ x=>{x with aL:=u}) rfl rfl rfl (Keeps.jy w ⟨ib id,4,none⟩ _) (by rw[size_set]) λ a c V=> ?_;rw[aG V];rfl
     have Q:=acp H;have P:acr (g (ib id)≠ .none):=by rw[h.qL id x z];exact λ e=>by cases e
     clear G m z C A h M H y;go_enter Tryz.func140,Tryz.ntmps140;go_wp2_with fail;refine E.o.mono ?_;rintro e K ⟨rfl,rfl⟩;go_wp2_with fail;go_ret;rw[B.o];exact Turn.of rfl Q.o ((Keeps.jy w ⟨ib id,4,none⟩ _).mono λ b _ hb=>by rw[show b=ib id from hb];exact P.o)
 ·have R:(fQ T id==0)=false:=by simpa using A
  have E:=acp (vT id _ rfl A w h I);have B:acr (iX T id u=(fQ T id,T)):=by
   unfold iX;rw[Sz A,if_neg A];exact rfl
  obtain⟨k,C⟩:∃k,k=fQ T id:=⟨_,rfl⟩;rw[<-C]at E R B;clear A h C y;go_enter Tryz.func140,Tryz.ntmps140;go_wp2_with fail;refine E.o.mono ?_;rintro e K ⟨rfl,rfl⟩;go_wp2_with fail;go_ret;rw[B.o];exact Turn.same N.o acu rfl
end
def gH(w:World)(m:I8)(e:Ending)(w':World):Prop:=
 ∃a n c,e= .returned (.slice a n c)/\n<=c/\ah (λ x=>w.heap.size<=x/\x<w'.heap.size) w' a n (m.map bv)/\Below w.heap.size w w'
def El(w:World)(m:I8)(e:Ending)(w':World):Prop:=
 ∃a c,e= .returned (.slice a m.length c)/\w'.ownsRow w.heap.size 5 1 (.slice a m.length c) m.length (m.map bv)/\Below w.heap.size w w'
theorem SC{w:World}{B B':Nat}{e:TypeId}{s:Nat}{v:Value}{n:Nat}{xs:List Value}(h:w.ownsRow B e s v n xs)(A:B'<=B):w.ownsRow B' e s v n xs:=by
 refine⟨h.1,?_⟩;rcases h.2 with z|⟨g,m,u,C,y,r⟩
 ·exact .inl z
 ·exact .inr ⟨g,m,u,C,Nat.le_trans A y,r⟩
theorem El.ret{w w':World}{m:I8}{e:Ending}(h:El w m e w'):gH w m e w':=by
 obtain⟨a,c,rfl,u,A⟩:=h;obtain⟨B,C,y,z⟩:=bg u;cases y;exact⟨a,_,c,rfl,z,(ah.mU u).2,A⟩
theorem gP{S:Nat->Prop}(a:Mx)(n y:Nat)(z:I8)(w:World)(Z:n<=1000000000)(E:ah S w a n (z.map bv)):
  Dy 44 #[.slice a n y] w (gH w z):=by
 obtain⟨Y,Q,G,I,H⟩:=aaq Tryz.vL;have A:z.length=n:=by have:=E.length;simpa using this
 have M:=λ w=>Lib.run_eql_slice_nil (P:=Tryz.prog) w 30 5 a n y 0 0 Tryz.underlying30;have J:=acp E;have V:=acp A;clear E A;cases a with
 |none=>
  have B:n=0:=by
   rcases aaI n with B|B
   ·exact B
   ·obtain⟨_,_,e,_⟩:=J.o.at_ B;cases e
  subst B;have F:z=[]:=aac V.o;subst F;go_enter abL,abz;go_wp2;go_ret;exact⟨none,0,_,rfl,Nat.zero_le _,ah.nil _ _ _,Below.refl _ _⟩
 |some R=>
  have K:(w.alloc (.cells #[] 5)).heap.size=w.heap.size+1:=by simp
  have O:=acp (J.o.below (wall w (.cells #[] 5)) acs);go_enter abL,abz;go_wp2_with ((at_builtin;refine bU (by rfl) _ _ 30 (by rfl) w.heap.size 5 Y (.int .u8 0) 1 Tryz.underlying30 Q G I H rfl _ 0 [] (by rfl) ⟨rfl,.inr ⟨w.heap.size,0,#[],rfl,Nat.le_refl _,(MapKept.heap_alloc w _).1,Nat.le_refl _,Nat.zero_le _,rfl,rfl⟩⟩ (some R) n y (z.map bv) (by rfl) O.o (jA z) (by unfold maxLen;omega) (by omega) (by simp) ?_;intro A' c' W m u _ _));go_ret;have D:Below w.heap.size w W:=(wall w _).grown u (by simp) (λ k U=>by cases U;exact Nat.le_refl _);obtain⟨a3,c3,N,X⟩:=bg m;cases N;refine⟨_,n,_,rfl,by omega,?_,D⟩;have C:=(ah.mU m).2;rw[List.nil_append]at C;simpa only[Nat.zero_add]using C
theorem K5{S:Nat->Prop}(a:Mx)(n y:Nat)(z:I8)(w:World)(C:0<n)(X:n<=1000000000)(E:ah S w a n (z.map bv)):
  Dy 44 #[.slice a n y] w (El w z):=by
 obtain⟨W,N,F,H,G⟩:=aaq Tryz.vL;have A:z.length=n:=by have:=E.length;simpa using this
 have K:=λ w=>Lib.run_eql_slice_nil (P:=Tryz.prog) w 30 5 a n y 0 0 Tryz.underlying30;have I:=acp E;have U:=acp A;clear E A;obtain⟨D,rfl⟩:∃D,a=some D:=by
  obtain⟨b,Q,e,_⟩:=I.o.at_ C;exact⟨_,e⟩
 have J:(w.alloc (.cells #[] 5)).heap.size=w.heap.size+1:=by simp
 have M:=acp (I.o.below (wall w (.cells #[] 5)) acs);go_enter abL,abz;go_wp2_with ((at_builtin;refine bU (by rfl) _ _ 30 (by rfl) w.heap.size 5 W (.int .u8 0) 1 Tryz.underlying30 N F H G rfl _ 0 [] (by rfl) ⟨rfl,.inr ⟨w.heap.size,0,#[],rfl,Nat.le_refl _,(MapKept.heap_alloc w _).1,Nat.le_refl _,Nat.zero_le _,rfl,rfl⟩⟩ (some D) n y (z.map bv) (by rfl) M.o (jA z) (by unfold maxLen;omega) (by omega) (by simp) ?_;intro A' c' V m u _ _));go_ret;have B:Below w.heap.size w V:=(wall w _).grown u (by simp) (λ k R=>by cases R;exact Nat.le_refl _);have O:=U.o;subst O;rw[Nat.zero_add]at m;exact⟨A',c',rfl,by simpa using m,B⟩
theorem K6{S:Nat->Prop}{a:Mx}{l k n:Nat}{u:I8}{w:World}(A N:Nat)(m:ah S w a l (u.map bv))(G:k=min A l)(F:n=min N (l-A)):ah S w (a.map λ x=>x.add k) n (((u.drop A).take N).map bv):=by
 have E:u.length=l:=by have:=m.length;simpa using this
 have H:=m.small;subst F;refine⟨by simp[E],by omega,λ I=> ?_⟩;obtain⟨b,y,rfl,z,C,B⟩:=m.at_ (by omega);have D:k=A:=by omega
 refine⟨b,y+A,by simp[D,add_plain],z,C,λ i J=> ?_⟩;rw[Nat.add_assoc,B (A+i) (by omega),List.getElem?_map,List.getElem?_map,aaB,if_pos (by omega),abG]
theorem Hy{S:Nat->Prop}{m:Addr}{l k n:Nat}{u:I8}{w:World}(A N:Nat)(z:ah S w (some m) l (u.map bv))(y:k=min A l)(B:n=min N (l-A)):ah S w (some (m.add k)) n (((u.drop A).take N).map bv):=K6 (a:=some m) A N z y B
theorem Hz{S:Nat->Prop}{l n:Nat}{m:I8}{w:World}(A N:Nat)(u:ah S w none l (m.map bv))(y:n=min N (l-A)):ah S w none n (((m.drop A).take N).map bv):=K6 (a:=none) A N u rfl y
theorem H6{S:Nat->Prop}(a:Mx){l n:Nat}{m:I8}{w:World}(A N:Nat)(u:m.length=l)(h:l<=A)(y:n=min N (l-A)):ah S w a n (((m.drop A).take N).map bv):=by
 refine ah.zero a _ _ (by omega) ?_;rw[List.drop_of_length_le (by omega),List.take_nil];rfl
def tC(w:World)(m:I8)(k:Int)(e:Ending)(w':World):Prop:=
 ∃a n c,e= .returned (.tuple #[.slice a n c,.int .i64 k])/\n<=c/\ah (λ x=>w.heap.size<=x/\x<w'.heap.size) w' a n (m.map bv)/\Below w.heap.size w w'
theorem part_ok{S:Nat->Prop}(a:Mx)(l c:Nat)(C:I8)(A N:Nat)(w:World)(R:l<=1000000000)(O:l<=c)(M:c<=maxLen)(Q:A<=9223372036854775807)(X:N<=9223372036854775807)(H:ah S w a l (C.map bv)):
  Dy 129 #[.slice a l c,.int .i64 A,.int .i64 N] w (tC w ((C.drop A).take N) 0):=by
 unfold maxLen at M;have W:(0:Int)<=(A:Int):=by omega
 have V:(0:Int)<=(N:Int):=by omega
 have z3:decide ((A:Int)<0)=false:=by simp
 have z4:decide ((N:Int)<0)=false:=by simp
 have K:=acp H;have J:C.length=l:=by have:=H.length;simpa using this
 have P:=acp J;clear H J;by_cases G:c=min A l
 ·subst G;go_enter abA,abt;go_wp2_with fail;refine(gP (S:=S) _ _ _ ((C.drop A).take N) _ (by omega) (H6 _ A N P.o (by omega) (by omega))).mono ?_;rintro e I ⟨E,F,D,rfl,y,u,m⟩;have z:=acp u;have B:=acp m;clear u m;go_wp2_with fail
  go_ret2
  exact⟨E,F,D,rfl,y,z.o,B.o⟩
 ·cases a with
  |none=>
   go_enter abA,abt;go_wp2_with fail;refine(gP (S:=S) _ _ _ ((C.drop A).take N) _ (by omega) (Hz A N K.o (by omega))).mono ?_;rintro e I ⟨E,F,D,rfl,y,u,m⟩;have z:=acp u;have B:=acp m;clear u m;go_wp2_with fail
   go_ret2
   exact⟨E,F,D,rfl,y,z.o,B.o⟩
  |some U=>
   go_enter abA,abt;go_wp2_with fail;refine(gP (S:=S) _ _ _ ((C.drop A).take N) _ (by omega) (Hy A N K.o (by omega) (by omega))).mono ?_;rintro e I ⟨E,F,D,rfl,y,u,m⟩;have z:=acp u;have B:=acp m;clear u m;go_wp2_with fail
   go_ret2
   exact⟨E,F,D,rfl,y,z.o,B.o⟩
theorem fG(w:World):Dy 73 #[] w λ e w'=>e= .returned (ptr w.heap.size)/\bV w.heap.size w' w.heap.size (.slice none 0 0) []/\Below w.heap.size w w':=by
 go_enter Tryz.func73,Tryz.ntmps73;go_wp2;go_ret;exact⟨rfl,⟨(MapKept.heap_alloc w _).1,⟨rfl,.inl ⟨rfl,rfl⟩⟩,Nat.le_refl _,by simp[Value.ownBlock]⟩,wall w _⟩
section
variable{B x:Nat}{w:World}{v:Value}{bs:I8}
theorem lG.low{u:I8}{A:Value}{w':World}(h:lG B w x v u A w')(m:bV B w x v bs):Below B w w':=
 h.2.1.bS (Nat.le_of_lt (Nat.lt_of_le_of_lt m.low m.lt)) λ b C z=>by
  rcases z with y|y
  ·have:=m.low;omega
  ·have:=aZ m.own b y;omega
theorem dH(h:bV B w x v bs)(n:Int)(u:0<=n)(E:n<=1000000000)(z:bs.length<=100000000):Dy 76 #[ptr x,.int .i64 n] w (pz B w x v (bs++bF n 2)):=by
 have y:acr (Dy 146 #[ptr x,.int .u64 n,.int .i64 2] w (pz B w x v (bs++bF n 2))):=DI h n 2 (by omega) (by omega) (by omega) z;have D:IntKind.u64.wrap n=n:=by simp[IntKind.wrap,IntKind.bits,IntKind.signed];omega
 clear h;go_enter Tryz.func76,Tryz.ntmps76;go_wp2_with fail;refine y.o.mono ?_;rintro e C ⟨rfl,A,m⟩;go_wp2_with fail
 go_end0
 exact⟨rfl,A,m⟩
theorem qo(h:bV B w x v bs)(n:Int)(u:0<=n)(E:n<=1000000000)(z:bs.length<=100000000):Dy 74 #[ptr x,.int .i64 n] w (pz B w x v (bs++bF n 1)):=by
 have y:acr (Dy 146 #[ptr x,.int .u64 n,.int .i64 1] w (pz B w x v (bs++bF n 1))):=DI h n 1 (by omega) (by omega) (by omega) z;have D:IntKind.u64.wrap n=n:=by simp[IntKind.wrap,IntKind.bits,IntKind.signed];omega
 clear h;go_enter Tryz.func74,Tryz.ntmps74;go_wp2_with fail;refine y.o.mono ?_;rintro e C ⟨rfl,A,m⟩;go_wp2_with fail
 go_end0
 exact⟨rfl,A,m⟩
theorem jB(h:bV B w x v bs)(n:Int)(A:0<=n)(m:n<=18446744073709551615)(z:bs.length<=100000000):Dy 77 #[ptr x,.int .u64 n] w (pz B w x v (bs++bF n 8)):=by
 have y:acr (Dy 146 #[ptr x,.int .u64 n,.int .i64 8] w (pz B w x v (bs++bF n 8))):=DI h n 8 A m (by omega) z;clear h;go_enter Tryz.func77,Tryz.ntmps77;go_wp2_with fail;refine y.o.mono ?_;rintro e D ⟨rfl,C,u⟩;go_wp2_with fail
 go_end0
 exact⟨rfl,C,u⟩
def H7(f:Bool):List UInt8:=bF (if f then 1 else 0) 1
theorem V9(h:bV B w x v bs)(f:Bool)(C:bs.length<=100000000):Dy 216 #[ptr x,.bool f] w (pz B w x v (bs++H7 f)):=by
 have y:=acp (qo h 1 (by omega) (by omega) C);have u:=acp (qo h 0 (by omega) (by omega) C);clear h;cases f
 ·have z:acr (Dy 74 #[ptr x,.int .i64 0] w (pz B w x v (bs++H7 false))):=u.o;go_enter Tryz.func216,Tryz.ntmps216;go_wp2_with fail;refine z.o.mono ?_;rintro e D ⟨rfl,A,m⟩;go_wp2_with fail
  go_end0
  exact⟨rfl,A,m⟩
 ·have z:acr (Dy 74 #[ptr x,.int .i64 1] w (pz B w x v (bs++H7 true))):=y.o;go_enter Tryz.func216,Tryz.ntmps216;go_wp2_with fail;refine z.o.mono ?_;rintro e D ⟨rfl,A,m⟩;go_wp2_with fail
  (try simp only[Exit.inBlock,Exit.then])
  refine aav (results_none rfl _ _ _) rfl ?_;exact⟨rfl,A,m⟩
theorem Oa{u:World}(h:bV B w x v bs)(y:w.grownBy u v.ownBlock):u.cell? ⟨x,0,none⟩=some v/\u.frozen? ⟨x,0,none⟩=false:=by
 have m:=(y.block x h.lt (λ e=>h.apart e.symm)).trans h.head;exact⟨by simp[World.cell?,m],by simp[World.frozen?,m]⟩
theorem gZ{S:Nat->Prop}(h:bV B w x v bs)(a:Mx)(m c:Nat)(l:I8)(I:ah S w a m (l.map bv))(O:bs.length<=100000000)(hm:m<=100000000):Dy 89 #[ptr x,.slice a m c] w (pz B w x v (bs++l)):=by
 obtain⟨R,K⟩:∃i,Tryz.prog.info? 5=some i/\i.zero=some (.int .u8 0)/\i.size=1/\i.bytes=1:=aaq (by kernel_rfl);have D:=acp K;have E:=acp h;have Q:=acp I;have X:=h.cell;have Y:=h.frozen;have G:B<=w.heap.size:=Nat.le_of_lt (Nat.lt_of_le_of_lt h.low h.lt);have z:l.length=m:=by simpa using I.length
 have H:=acp z;clear h K I z;obtain⟨N,F⟩:∃N,N=bs.length:=⟨_,rfl⟩;have J:acr (w.ownsRow B 5 1 v N (bs.map bv)):=by rw[F];exact E.o.own
 have M:=acp F;rw[<-F]at O;clear F;have P:=E.o.lt;go_enter Tryz.func89,Tryz.ntmps89;go_wp2_with (at_builtin;refine bU rfl _ _ 30 rfl B 5 R _ 1 Tryz.underlying30 D.o.1 D.o.2.1 D.o.2.2.1 D.o.2.2.2 rfl v N (bs.map bv) rfl J.o a m c (l.map bv) rfl Q.o (jA l) (by unfold maxLen;omega) (by omega) G ?_;intro A1 Z u1 y C _ A;have u:=Oa E.o C;have U:=u.1;have W:=u.2;clear u)
 go_end0
 refine⟨rfl,_,QK (wa:=w) E.o acu ?_ C A⟩;have V:(bs++l).length=N+m:=by rw[List.length_append,<-M.o,H.o]
 rw[V,aas];exact y
theorem pJ{S:Nat->Prop}(h:bV B w x v bs)(a:Mx)(m c:Nat)(l:I8)(G:ah S w a m (l.map bv))(F:∀b,S b->b≠x/\v.ownBlock≠some b)(Q:m<=c)(V:bs.length<=90000000)(R:m<=65535):Dy 75 #[ptr x,.slice a m c] w (pz B w x v (bs++(bF m 2++l))):=by
 have K:=acp (dH h (m:Int) (by omega) (by omega) (by omega));have P:=acp h;have A:=acp G;have I:=acp F;have Z:min (m:Int) 65535=(m:Int):=by omega
 have U:(0:Int)<=(m:Int):=by omega
 have Y:(m:Int)<=(c:Int):=by omega
 clear h G F;go_enter Tryz.func75,Tryz.ntmps75;go_wp2_with fail;refine K.o.mono ?_;rintro e J ⟨rfl,W,u⟩;have O:=acp u;have y:ah S J a m (l.map bv):=A.o.kept u.2.1.size λ b H E=>u.2.1.block b E λ N=>by
  rcases N with D|D
  ·exact(I.o b H).1 D
  ·exact(I.o b H).2 D
 have C:=acp (gZ u.1 a m c l y (by rw[List.length_append];have:(bF (m:Int) 2).length=2:=rfl;omega) (by omega));clear u y;go_wp2_with fail;refine C.o.mono ?_;rintro e X ⟨rfl,M,z⟩;go_wp2_with fail
 go_end0
 refine⟨rfl,M,?_⟩;have:=O.o.trans z;rw[List.append_assoc]at this;exact this
theorem iZ(h:bV B w x v bs)(I:bs.length<=100000000):Dy 78 #[ptr x] w (gH w bs):=by
 obtain⟨a,c,rfl,G⟩:=bg h.own;obtain⟨_,z⟩:=ah.mU h.own;have D:=acp (gP a bs.length c bs w (by omega) z);have H:=h.cell;clear h z;go_enter Tryz.func78,Tryz.ntmps78;go_wp2_with fail;refine D.o.mono ?_;rintro e F ⟨E,C,A,rfl,y,u,m⟩;go_wp2_with fail;go_ret;exact⟨E,C,A,rfl,y,u,m⟩
theorem V_(h:bV B w x v bs)(H:bs.length<=100000000)(A:0<bs.length):Dy 78 #[ptr x] w (El w bs):=by
 obtain⟨a,c,rfl,F⟩:=bg h.own;obtain⟨_,y⟩:=ah.mU h.own;have C:=acp (K5 a bs.length c bs w A (by omega) y);have G:=h.cell;clear h y;go_enter Tryz.func78,Tryz.ntmps78;go_wp2_with fail;refine C.o.mono ?_;rintro e E ⟨D,z,rfl,u,m⟩;go_wp2_with fail;go_ret;exact⟨D,z,rfl,u,m⟩
end
def dx(w:World)(x:Nat)(m:I8)(wr:World):Prop:=∃v,bV w.heap.size wr x v m/\Below w.heap.size w wr
theorem dx.more{w:World}{x:Nat}{y m:I8}{wr w':World}{v:Value}{e:Ending}(h:bV w.heap.size wr x v y)(z:Below w.heap.size w wr)(A:pz w.heap.size wr x v m e w'):e= .returned (.tuple #[])/\dx w x m w':=by
 obtain⟨rfl,B,u⟩:=A;exact⟨rfl,B,u.1,z.trans (u.low h)⟩
theorem ay(n:Int):∀s,(bF n s).length=s
 |0=>rfl
 |s+1=>by unfold bF;rw[List.length_cons,ay n s]
theorem Ob(k:Int)(x:fI)(u:NT x)(F:0<=k)(E:k<=65535)(w:World):Dy 215 #[vU k x] w λ e w'=>e= .returned (.bool true)/\Below w.heap.size w w':=by
 obtain⟨I,P⟩:=u.links;obtain⟨t0,t1⟩:=u.aL;have H:=u.size;obtain⟨n,C⟩:∃n,n=x.b.length:=⟨_,rfl⟩;rw[<-C]at H;have M:decide (k<0)=false:=by simpa using F
 have J:decide (65535<k)=false:=by simpa using E
 have Q:decide (x.links<0)=false:=by simpa using I
 have N:decide (65535<x.links)=false:=by simp;omega
 have O:decide ((n:Int)<=4096)=true:=by simp;omega
 have G:decide (x.aL<=1099511627776)=true:=by simpa using t1
 have K:decide ((0:Int)<=(n:Int))=true:=by simp
 unfold vU;rw[<-C];by_cases m:x.kind=2
 ·obtain⟨_,A,B,y⟩:=u.dir m;have D:n=0:=by rw[C,B];rfl
  subst D;rw[m,A,y];clear C u m A B y G;go_enter Tryz.func215,Tryz.ntmps215;go_wp2
  all_goals (first|(go_ret;exact⟨rfl,wall w _⟩)|((try simp only[Exit.inBlock,Exit.then]);refine aav (by rfl) rfl ?_;exact⟨rfl,wall w _⟩))
 ·have z:=u.kind.resolve_right m;rw[z];clear C u m z;go_enter Tryz.func215,Tryz.ntmps215;go_wp2
  all_goals (first|(go_ret;exact⟨rfl,wall w _⟩)|((try simp only[Exit.inBlock,Exit.then]);refine aav (by rfl) rfl ?_;exact⟨rfl,wall w _⟩))
def zP(k:Int)(x:fI):List UInt8:=bF k 2++bF x.kind 1++bF x.links 2++bF x.b.length 2++bF x.aL 8++H7 x.closed
theorem mZ(k:Int)(x:fI):(zP k x).length=16:=by
 unfold zP H7;simp only[List.length_append,ay]
theorem Oc(k:Int)(x:fI)(D:NT x)(hk:0<=k)(N:k<=65535)(w:World):Dy 168 #[vU k x] w λ e w'=>∃a n c,e= .returned (.tuple #[.slice a n c,.int .i64 0])/\n<=c/\ah (λ b=>w.heap.size<=b/\b<w'.heap.size) w' a n ((zP k x).map bv)/\Below w.heap.size w w':=by
 have J:=acp (λ w'=>Ob k x D hk N w');obtain⟨l0,l1⟩:=D.links;obtain⟨t0,t1⟩:=D.aL;have G:=D.size;have Y:0<=x.kind/\x.kind<=2:=by rcases D.kind with h|h<;>omega
 obtain⟨ak,av⟩:=Y;unfold zP;obtain⟨n,U⟩:∃n:Nat,n=x.b.length:=⟨_,rfl⟩;rw[<-U]at G;unfold vU at J⊢;rw[<-U]at J⊢;clear D U;go_enter Tryz.func168,Tryz.ntmps168;go_wp2_with fail;refine(J.o _).mono ?_;rintro e V ⟨rfl,m⟩;have aA:(w.alloc (.cells #[.int .i64 k,.int .i64 x.kind,.int .i64 x.links,.int .i64 n,.int .u64 x.aL,.bool x.closed] 36)).heap.size=w.heap.size+1:=by simp
 have aB:=m.size;have C:acr (∀w',Below V.heap.size V w'->∀j,w'.cell? ⟨w.heap.size,j,none⟩=(#[.int .i64 k,.int .i64 x.kind,.int .i64 x.links,.int .i64 n,.int .u64 x.aL,.bool x.closed]:Array Value)[j]?):=λ w' G j=>by
  rw[G.cell (p:=⟨w.heap.size,j,none⟩) (by simp only;omega),m.cell (p:=⟨w.heap.size,j,none⟩) (by simp)];exact iL (MapKept.heap_alloc w _).1 j
 have B:=acp ((wall w (.cells #[.int .i64 k,.int .i64 x.kind,.int .i64 x.links,.int .i64 n,.int .u64 x.aL,.bool x.closed] 36)).trans (m.mono (by omega)));clear m J;go_wp2_with fail;refine(fG V).mono ?_;rintro e w2 ⟨rfl,F,E⟩;have A:=acp F;have y:=acp E;clear F E;have q0:w2.cell? ⟨w.heap.size,0,none⟩=some (.int .i64 k):=C.o _ y.o 0;have Wd:=acp (dH A.o k (by omega) (by omega) (by simp only[List.length_append,List.length_nil,ay];omega));go_wp2_with fail;refine Wd.o.mono ?_;rintro e w3 ⟨rfl,v3,K⟩;have z:=acp K.1;have u:=acp (y.o.trans (K.low A.o));clear q0 K Wd A y;have q1:w3.cell? ⟨w.heap.size,1,none⟩=some (.int .i64 x.kind):=C.o _ u.o 1;have mo:=acp (qo z.o x.kind (by omega) (by omega) (by simp only[List.length_append,List.length_nil,ay];omega));go_wp2_with fail;refine mo.o.mono ?_;rintro e w4 ⟨rfl,v4,S⟩;have Z:=acp S.1;have X:=acp (u.o.trans (S.low z.o));clear q1 S mo z u;have q2:w4.cell? ⟨w.heap.size,2,none⟩=some (.int .i64 x.links):=C.o _ X.o 2;have I:=acp (dH Z.o x.links (by omega) (by omega) (by simp only[List.length_append,List.length_nil,ay];omega));go_wp2_with fail;refine I.o.mono ?_;rintro e w5 ⟨rfl,v5,M⟩;have Q:=acp M.1;have O:=acp (X.o.trans (M.low Z.o));clear q2 M I Z X;have q3:w5.cell? ⟨w.heap.size,3,none⟩=some (.int .i64 n):=C.o _ O.o 3;have xR:=acp (dH Q.o (n:Int) (by omega) (by omega) (by simp only[List.length_append,List.length_nil,ay];omega));go_wp2_with fail;refine xR.o.mono ?_;rintro e w6 ⟨rfl,v6,Gu⟩;have Bq:=acp Gu.1;have P:=acp (O.o.trans (Gu.low Q.o));clear q3 Gu xR Q O;have q4:w6.cell? ⟨w.heap.size,4,none⟩=some (.int .u64 x.aL):=C.o _ P.o 4;have jl:=acp (jB Bq.o x.aL (by omega) (by omega) (by simp only[List.length_append,List.length_nil,ay];omega));go_wp2_with fail;refine jl.o.mono ?_;rintro e w7 ⟨rfl,v7,W⟩;have CG:=acp W.1;have nE:=acp (P.o.trans (W.low Bq.o));clear q4 W jl Bq P;have q5:w7.cell? ⟨w.heap.size,5,none⟩=some (.bool x.closed):=C.o _ nE.o 5;have gL:=acp (V9 CG.o x.closed (by simp only[List.length_append,List.length_nil,ay];omega));go_wp2_with fail;refine gL.o.mono ?_;rintro e w8 ⟨rfl,v8,R⟩;have Gv:=acp R.1;have qY:=acp (nE.o.trans (R.low CG.o));clear q5 R gL CG nE;have HD:=acp (iZ Gv.o (by simp only[List.length_append,List.length_nil,ay,H7];omega));go_wp2_with fail;refine HD.o.mono ?_;rintro e w9 ⟨a9,n9,c9,rfl,Dj,lX,dG⟩;have Dk:=acp lX;have pK:=acp (qY.o.trans (dG.mono qY.o.size));have vV:=qY.o.size;have H:=Dj;clear lX dG HD;go_wp2_with fail
 go_ret2
 refine⟨a9,n9,c9,rfl,H,?_,B.o.trans (pK.o.mono B.o.size)⟩;have h9:=Dk.o.mono (S':=λ b=>w.heap.size<=b/\b<w9.heap.size) λ b G=>⟨by have:=B.o.size;omega,G.2⟩;simpa using h9
theorem K7(a:Mx)(l c:Nat)(at_ n:Int)(w:World)(h:at_<0\/n<0):
  Dy 129 #[.slice a l c,.int .i64 at_,.int .i64 n] w (tC w [] 1):=by
 by_cases m:at_<0
 ·go_enter abA,abt;go_wp2
  go_ret2
  exact⟨none,0,0,rfl,Nat.le_refl _,ah.nil _ _ _,Below.refl _ _⟩
 ·have y:n<0:=by omega
  have u:decide (at_<0)=false:=by simpa using m
  clear h;go_enter abA,abt;go_wp2
  go_ret2
  exact⟨none,0,0,rfl,Nat.le_refl _,ah.nil _ _ _,Below.refl _ _⟩
theorem Wi{S:Nat->Prop}(a:Mx)(l c:Nat)(u:I8)(at_ n:Int)(w:World)(B:l<=1000000000)(m:qj l c)(y:(Lit.int .i64 at_).wf=true)(z:(Lit.int .i64 n).wf=true)(A:ah S w a l (u.map bv)):
  Dy 129 #[.slice a l c,.int .i64 at_,.int .i64 n] w (tC w (qU u at_ n) (vP at_ n)):=by
 simp only[Lit.wf,IntKind.min,IntKind.max,IntKind.signed,IntKind.bits,aaW,aap]at y z;by_cases h:at_<0\/n<0
 ·unfold qU vP;rw[if_pos h,if_pos h];exact K7 a l c at_ n w h
 ·unfold qU vP;rw[if_neg h,if_neg h];have:=part_ok (S:=S) a l c u at_.toNat n.toNat w B m.1 m.2 (by simp at y;omega) (by simp at z;omega) A;rw[show((at_.toNat:Nat):Int)=at_ by omega,show((n.toNat:Nat):Int)=n by omega]at this;exact this
section
variable{g:Nat->Own}{D:Nat->Prop}{p mb:Nat}{ib nb:Int->Nat}{T:aS}
theorem Wj(id at_ n:Int)(w:World)(h:aK g D w p mb ib nb T)(y:∀x,au id T=some x->x.b.length<=4096)(m:(Lit.int .i64 id).wf=true)(H:(Lit.int .i64 at_).wf=true)(M:(Lit.int .i64 n).wf=true):
  Dy 128 #[ptr p,.int .i64 id,.int .i64 at_,.int .i64 n] w (tC w (qV T id at_ n) (G_ T id at_ n)):=by
 by_cases z:fQ T id=0
 ·obtain⟨x,B,A⟩:=qm z;have F:=acp (xg id B A w h m);obtain⟨a,c,X,u,O,_⟩:=(h.item id x B).row;have R:=acp (Wi (S:=D) a x.b.length c x.b at_ n w (by have:=y x B;omega) u H M O);have e:qV T id at_ n=qU x.b at_ n/\G_ T id at_ n=vP at_ n:=by
   unfold qV G_;rw[B];simp only[if_neg A,and_self]
  rw[e.1,e.2];clear h B y H M m z A e O u;go_enter Tryz.func128,Tryz.ntmps128;go_wp2_with fail;refine F.o.mono ?_;rintro e N ⟨rfl,rfl⟩;go_wp2_with fail;refine R.o.mono ?_;rintro e N ⟨V,W,U,rfl,I,E,C⟩;have J:=acp E;have G:=acp C;clear E C;go_wp2_with fail
  go_ret2
  exact⟨V,W,U,rfl,I,J.o,G.o⟩
 ·have K:(fQ T id==0)=false:=by simpa using z
  have F:=acp (vT id _ rfl z w h m);obtain⟨P,Q⟩:=SB (at_:=at_) (n:=n) z;rw[P,Q];obtain⟨k,A⟩:∃k,k=fQ T id:=⟨_,rfl⟩;rw[<-A]at F K⊢;clear z h A y P Q H M m;go_enter Tryz.func128,Tryz.ntmps128;go_wp2_with fail;refine F.o.mono ?_;rintro e N ⟨rfl,rfl⟩;go_wp2_with fail
  go_ret2
  exact⟨none,0,0,rfl,Nat.le_refl _,ah.nil _ _ _,Below.refl _ _⟩
theorem Em{S S':Nat->Prop}(a:Mx)(l c:Nat)(x:I8)(D:Mx)(m c':Nat)(y:I8)(w:World)(G:ah S w a l (x.map bv))(H:ah S' w D m (y.map bv))(J:l+m<=1000000000):
  Dy 96 #[.slice (some ⟨w.heap.size,0,none⟩) 2 2] (w.alloc (.cells #[.slice a l c,.slice D m c'] 30)) λ e w'=>∃B z,e= .returned (.slice B (l+m) z)/\qj (l+m) z/\ah (λ b=>w.heap.size<=b/\b<w'.heap.size) w' B (l+m) ((x++y).map bv)/\Below w.heap.size w w':=by
 have I:x.length=l:=by have:=G.length;simpa using this
 have K:y.length=m:=by have:=H.length;simpa using this
 have C:([x,y]:List (I8)).flatten=x++y:=by simp
 have E:(x++y).length=l+m:=by rw[List.length_append,I,K]
 refine(Ej (S:=λ b=>S b\/S' b) w.heap.size 2 [x,y] _ rfl (by omega) (by simp) (by rw[C,E];exact J) (λ k M=> ?_)).mono ?_
 ·rcases (show k=0\/k=1 by omega)with rfl|rfl
  ·exact⟨a,l,c,x,pI.1,(G.below (wall w _) acs).mono λ _=> .inl,rfl⟩
  ·exact⟨D,m,c',y,pI.2,(H.below (wall w _) acs).mono λ _=> .inr,rfl⟩
 ·rintro e w' ⟨B,z,rfl,u,F,A⟩;rw[C,E]at F u;rw[C,E];exact⟨B,z,rfl,u,F.mono λ b A=>⟨by simp at A;omega,A.2⟩,(wall w _).trans (A.mono (by simp))⟩
theorem Oh{w B:World}{id:Int}{x:fI}{C:I8}{I:Mx}{l G:Nat}{v3 v:Value}(h:aK g D w p mb ib nb T)(m:Below w.heap.size w B)(E:au id T=some x)(P:C.length=l)(F:qj (x.b.length+l) G)
  (Q:ah (λ b=>w.heap.size<=b/\b<B.heap.size) B I (x.b.length+l) ((x.b++C).map bv))(V:v3= .int .i64 ((x.b.length+l:Nat):Int)):
  Turn g D w p mb (cZ id (λ x=>{x with b:=x.b++C}) T) v (.returned v) ((B.setCell ⟨ib id,6,none⟩ (.slice I (x.b.length+l) G)).setCell ⟨ib id,3,none⟩ v3):=by
 subst V;have u:=h.below m acs;have H:=h.qL id x E;have R:=m.size;have A:=Keeps.set2 B (ib id) 6 3 (.slice I (x.b.length+l) G) (.int .i64 ((x.b.length+l:Nat):Int));obtain⟨X,W,_,_,_,O⟩:=(u.item id x E).row;have z:(x.b++C).length=x.b.length+l:=by rw[List.length_append,P]
 refine⟨rfl,g,λ b=>D b\/(w.heap.size<=b/\b<B.heap.size),ib,nb,?_,λ b h=> .inl h,λ b m=>m.imp (λ h=>h) λ h=>h.1,?_⟩
 ·refine u.cZ E rfl (λ _ h=> .inl h) (λ b m=> ?_) (by rw[size_set,size_set];exact Nat.le_refl _) (λ b y U _=>A.block b y (λ e=>U (by rw[e];exact H))) ?_
  ·rw[size_set,size_set];rcases m with m|m
   ·exact⟨u.data b m,u.qM b m⟩
   ·refine⟨?_,m.2⟩;cases S:g b with
    |none=>rfl
    |_=>have:=h.low b (by rw[S];simp);omega
  ·refine⟨⟨I,G,?_,by rw[z];exact F,?_⟩,λ N=> ?_⟩
   ·rw[aG (aG O)];simp only[jW,z];rfl
   ·rw[z];refine Q.move A.size λ b m y=>⟨.inr m,A.block b y ?_⟩;have:=h.low (ib id) (by rw[H];simp);omega
   ·have M:=h.oO id x E N;have e:bJ {x with b:=x.b++C}=bJ x:=rfl;rw[e];exact((u.item id x E).names N).kept (A.block _ (u.low _ (by rw[M];simp)) (λ e=>by rw[e,H]at M;cases M))
 ·have J:g (ib id)≠ .none:=by rw[H];simp
  exact⟨A.os.trans m.os,A.tape.trans m.tape,A.output.trans m.output,Nat.le_trans R A.size,λ b y K=>(A.block b (by omega) (λ e=>K (by rw[e];exact J))).trans (m.block b y)⟩
theorem SE{S:Nat->Prop}(id:Int)(a:Mx)(l c:Nat)(B:I8)(w:World)(h:aK g D w p mb ib nb T)(A:∀x,au id T=some x->x.b.length<=4096)(R:(Lit.int .i64 id).wf=true)(M:ah S w a l (B.map bv))(hl:l<=1000000000):
  Dy 130 #[ptr p,.int .i64 id,.slice a l c] w (Turn g D w p mb (dP T id B).2 (.int .i64 (dP T id B).1)):=by
 have O:=acp h;have z:B.length=l:=by have:=M.length;simpa using this
 by_cases E:fQ T id=0
 ·obtain⟨x,F,H⟩:=qm E;have N:=acp (xg id F H w h R);obtain⟨c0,c1,c2,c3,c4,c5,Z,aH⟩:=(h.item id x F).cell;have aD:=A x F;have W:qR T id B=if x.closed then 27 else if 4096<x.b.length+l then 15 else 0:=by unfold qR;rw[F,z];simp only[if_neg H]
  have X:=acp W;cases m:x.closed with
  |true=>
   have I:acr (dP T id B=(27,T)):=by
    unfold dP;rw[X.o,m];simp only[if_pos];exact rfl
   rw[m]at c5;clear W m F H E h Z A M z;go_enter Tryz.func130,Tryz.ntmps130;go_wp2_with fail;refine N.o.mono ?_;rintro e V ⟨rfl,rfl⟩;go_wp2_with fail;go_ret;rw[I.o];exact Turn.same O.o acu rfl
  |false=>
   rw[m]at c5;by_cases G:4096<x.b.length+l
   ·have I:acr (dP T id B=(15,T)):=by
     unfold dP;rw[X.o,m];simp only[Bool.false_eq_true,if_false,if_pos G];exact rfl
    have hd:decide ((4096:Int)-(x.b.length:Int)<(l:Int))=true:=by simp;omega
    clear W m F H E h Z A M z;go_enter Tryz.func130,Tryz.ntmps130;go_wp2_with fail;refine N.o.mono ?_;rintro e V ⟨rfl,rfl⟩;go_wp2_with fail;go_ret;rw[I.o];exact Turn.same O.o acu rfl
   ·have I:acr (dP T id B=(0,cZ id (λ x=>{x with b:=x.b++B}) T)):=by
     unfold dP;rw[X.o,m];simp only[Bool.false_eq_true,if_false,if_neg G];exact rfl
    have hd:decide ((4096:Int)-(x.b.length:Int)<(l:Int))=false:=by simp;omega
    obtain⟨ax,cx,c6,U,Q,u⟩:=(h.item id x F).row;have HC:=acp (Em ax x.b.length cx x.b a l c B w Q M (by omega));have HX:=acp F;have aF:=acp u;have uU:=acp z;clear W m F H E h Z A M z Q u U;go_enter Tryz.func130,Tryz.ntmps130;go_wp2_with fail;refine N.o.mono ?_;rintro e V ⟨rfl,rfl⟩;go_wp2_with fail;refine HC.o.mono ?_;rintro e V ⟨a2,aL,rfl,C,P,J⟩;have K:=O.o.below J acs;have y:=K.item id x HX.o;have aB:=y.frozen 6;have aA:=y.frozen 3;have aC:=y.cell.2.2.2.2.2.2.2;obtain⟨_,_,d6,_,_,_⟩:=y.row;obtain⟨_,_,_,d3,_,_,_,_⟩:=y.cell;have aJ:=acp K;have ak:=acp P;have Y:=acp J;have K8:=acp C;clear K P J C y;go_wp2_with fail;go_ret;rw[I.o];exact Oh O.o Y.o HX.o uU.o K8.o ak.o (by simp)
 ·have av:(fQ T id==0)=false:=by simpa using E
  have N:=acp (vT id _ rfl E w h R);have I:acr (dP T id B=(fQ T id,T)):=by
   unfold dP;rw[K4 E,if_neg E];exact rfl
  obtain⟨k,H⟩:∃k,k=fQ T id:=⟨_,rfl⟩;rw[<-H]at N av I;clear E h H A M z;go_enter Tryz.func130,Tryz.ntmps130;go_wp2_with fail;refine N.o.mono ?_;rintro e V ⟨rfl,rfl⟩;go_wp2_with fail;go_ret;rw[I.o];exact Turn.same O.o acu rfl
end
