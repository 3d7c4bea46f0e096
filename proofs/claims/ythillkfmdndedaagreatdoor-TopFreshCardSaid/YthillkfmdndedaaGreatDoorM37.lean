/- slices -/
import Derived.Test.YthillkfmdndedaaGreatDoorM36
import Derived.Shelf.SlIterI.Nil
import Derived.Shelf.SlIterI.Sorted
import Derived.Ground.GgzProg
set_option maxRecDepth 100000
set_option maxHeartbeats 64000000
set_option linter.all false
namespace Go.Proofs
open Go.RowKit Go.Maps Go.Sort Go.Shelf
end Go.Proofs
namespace Go.Proofs.YthillkfmdndedaaGreatDoor
open Go.ChangeShapes Go.WideShapes Go.ChangeAt Go.RowKit
structure fF where
 safe:List UInt8
 dirty:List (Int×List UInt8)
 writes:Int
structure dB(F:Nat->Prop)(w:World)(d sb mb:Nat)(l:List (Int×Value))(M:fF):Prop where
 head:w.heap[d]? =some (.cells #[.slice (some ⟨sb,0,none⟩) M.safe.length M.safe.length,.map (some mb),.int .i64 M.writes] 94 (0,0))
 safe:w.heap[sb]? =some (.cells (M.safe.map bv).toArray 5 (0,0))
 len:M.safe.length<=524288/\8192<=M.safe.length/\M.safe.length%128=0
 map:MapAt aY w mb l
 sorted:bA (λ a b:Int=>decide (a<b)) M.dirty
 rows:∀k:Int,AY (Je (λ x=>F x/\x≠d/\x≠sb/\x≠mb) w 128) (au k l) (au k M.dirty)
 range:∀q∈M.dirty,0<=q.1/\q.1*128<M.safe.length
 own:F d/\F sb/\F mb
 apart:d≠sb/\d≠mb/\sb≠mb
 low:∀x,F x->x<w.heap.size
 writes: -9223372036854775808<=M.writes/\M.writes<=4611686018427387904
def RetNew(w:World)(n:Nat)(e:Ending)(w':World):Prop:=
 ∃F d m u,e= .returned (.tuple #[.pointer (some ⟨d,0,none⟩),.int .i64 0])/\dB F w' d m u [] ⟨List.replicate (n*128) 0,[],0⟩/\(∀x,F x->w.heap.size<=x)/\Below w.heap.size w w'
theorem Yx(n:Nat)(W:64<=n)(V:n<=4096)(w:World):
  Dy 15 #[.int .i64 n] w (RetNew w n):=by
 obtain⟨P,D,G,J,I⟩:=aaq Tryz.vL;have X:decide ((n:Int)<64)=false:=by simp;omega
 have Y:decide ((4096:Int)<n)=false:=by simp;omega
 have S:IntKind.i64.wrap ((n:Int)*128)=(n:Int)*128:=aaf _ (by omega);have M:= @ab3 Tryz.prog;go_enter Tryz.func15,Tryz.ntmps15;go_wp2_with (at_make;refine wpList_make_full _ rfl _ _ 30 rfl w.heap.size 5 P (.int .u8 0) 1 Tryz.underlying30 D G J .i64 .i64 ((n:Int)*128) ((n:Int)*128) (n*128) rfl rfl (by omega) (by omega) (by rw[I];omega) (by unfold maxLen;omega) acs ?_;intro A u m)
 go_ret2
 have U:=u.1;rw[show Value.cells (.int .u8 0)= #[.int .u8 0]from rfl,toList_madeCells_one]at u;obtain⟨_,u⟩:=u;rcases u with⟨B,_⟩|⟨g,K,H,B,N,z,_,_,O,y⟩
 ·cases B
 ·simp only[aaH,aae,Addr.mk.injEq,abK,true_and]at B;obtain⟨rfl,_,rfl⟩:=B;have E:H=((List.replicate (n*128) (0:UInt8)).map bv).toArray:=by
   rw[List.take_of_length_le (by simp;omega)]at y;apply Array.toList_inj.1;rw[y];simp
  have R:=m.size;have C:Below w.heap.size w A:=⟨m.os,m.tape,m.output,m.size,λ i D=>m.block i D (by simp)⟩;have Q:w.heap.size<A.heap.size:=(qW.1 z).1;refine⟨λ x=>w.heap.size<=x/\x<A.heap.size+2,A.heap.size+1,w.heap.size,A.heap.size,by simp,?_,λ x B=>B.1,?_⟩
  ·constructor
   ·have h:=(MapKept.heap_alloc (A.alloc (.map #[] 0)) (.cells #[.slice (some ⟨w.heap.size,0,none⟩) (n*128) (n*128),.map (some A.heap.size),.int .i64 0] 94)).1;rw[Pe]at h;simpa only[aaZ]using h
   ·rw[Below.heap_alloc _ _ _ (by simp;omega),Below.heap_alloc _ _ _ (by omega),z,E]
   ·simp;omega
   ·exact(MapAt.made (F:=aY) A).kept (Below.heap_alloc _ _ _ (by simp))
   ·simp[bA]
   ·intro k;simp[au,AY]
   ·simp
   ·exact⟨by omega,by omega,by omega⟩
   ·exact⟨by omega,by omega,by omega⟩
   ·intro x B;simp;omega
   ·simp
  ·exact(C.alloc (by omega) _).alloc (by simp;omega) _
theorem nV{F:Nat->Prop}{w:World}{d m u:Nat}{l:List (Int×Value)}{M:fF}(h:dB F w d m u l M):
  w.cell? ⟨d,0,none⟩=some (.slice (some ⟨m,0,none⟩) M.safe.length M.safe.length)/\w.cell? ⟨d,1,none⟩=some (.map (some u))/\w.cell? ⟨d,2,none⟩=some (.int .i64 M.writes):=by
 have:=h.head;simp[World.cell?,this]
theorem Au{F:Nat->Prop}{d y z:Nat}{l:List (Int×Value)}{M:fF}(w:World)(h:dB F w d y z l M):
  Dy 32 #[.pointer (some ⟨d,0,none⟩)] w λ e w'=>e= .returned (.int .i64 ((M.safe.length/128:Nat):Int))/\w=w':=by
 obtain⟨m,_,_⟩:=nV h;have A:=h.len;obtain⟨N,u⟩:∃N,N=M.safe.length:=⟨_,rfl⟩;rw[<-u]at m A⊢;have B:IntKind.i64.wrap (Int.tdiv (N:Int) 128)=((N/128:Nat):Int):=by rw[Int.tdiv_eq_ediv_of_nonneg (by omega)];exact aaf _ (by omega)
 clear h u;go_enter Tryz.func32,Tryz.ntmps32;go_wp2;go_ret;exact⟨dX (by omega),rfl⟩
theorem DY{F:Nat->Prop}{d u y:Nat}{l:List (Int×Value)}{M:fF}(i:Int)(w:World)(h:dB F w d u y l M):
  Dy 160 #[.pointer (some ⟨d,0,none⟩),.int .i64 i] w λ e w'=>e= .returned (.bool (decide (0<=i/\i<((M.safe.length/128:Nat):Int))))/\w=w':=by
 by_cases m:0<=i
 ·go_enter Tryz.func160,Tryz.ntmps160;go_wp2_with (go_at_call 32;refine(Au _ h).mono ?_;rintro e w' ⟨rfl,rfl⟩);go_ret;exact⟨iW (by simp[m]),rfl⟩
 ·have z:decide (0<=i)=false:=by simpa using m
  go_enter Tryz.func160,Tryz.ntmps160;go_wp2;go_ret;exact⟨iW (by simp),rfl⟩
theorem dat_any{F:Nat->Prop}{d m z:Nat}{l:List (Int×Value)}{M:fF}(i:Nat)(A:i*128<M.safe.length)(w:World)(h:dB F w d m z l M):
  Dy 102 #[.pointer (some ⟨d,0,none⟩),.int .i64 i] w λ e w'=>e= .returned (.slice (some ⟨m,i*128,none⟩) 128 (M.safe.length-i*128))/\w=w':=by
 obtain⟨u,_,_⟩:=nV h;have B:=h.len;obtain⟨N,y⟩:∃N,N=M.safe.length:=⟨_,rfl⟩;rw[<-y]at u B A⊢;have D:IntKind.i64.wrap ((i:Int)*128)=(i:Int)*128:=aaf _ (by omega);have E:IntKind.i64.wrap ((i:Int)+1)=(i:Int)+1:=aaf _ (by omega);have C:IntKind.i64.wrap (((i:Int)+1)*128)=((i:Int)+1)*128:=aaf _ (by omega);clear h y;go_enter Tryz.func102,Tryz.ntmps102;go_wp2;go_ret;refine⟨?_,rfl⟩;show Ending.returned (Value.slice (some ⟨m,i*128,none⟩) ((i+1)*128-i*128) (N-i*128))=_;rw[show(i+1)*128-i*128=128 by omega]
def rowsOf(s:I8)(i:Nat):List UInt8:=(s.drop (i*128)).take 128
def eZ(M:fF)(i:Int):List UInt8:=(au i M.dirty).getD (rowsOf M.safe i.toNat)
def pG(M:fF)(i:Int):Prop:=0<=i/\i<((M.safe.length/128:Nat):Int)
theorem Tryz.Yy(w:World):(zeroValue 30).run Tryz.prog w= .ok (.slice none 0 0) w:=by kernel_rfl
theorem P_{F:Nat->Prop}{d z A:Nat}{l:List (Int×Value)}{M:fF}(i:Int)(y:¬pG M i)(w:World)(h:dB F w d z A l M):
  Dy 171 #[.pointer (some ⟨d,0,none⟩),.int .i64 i] w λ e w'=>e= .returned (.tuple #[.slice none 0 0,.int .i64 1])/\w=w':=by
 have u:decide (0<=i/\i<((M.safe.length/128:Nat):Int))=false:=aad y;have m:=DY i w h;rw[u]at m;clear h u y;go_enter Tryz.func171,Tryz.ntmps171;go_wp2_with (go_at_call 160;refine m.mono ?_;rintro e w' ⟨rfl,rfl⟩)
 go_ret2
 exact⟨rfl,rfl⟩
theorem Qa{F:Nat->Prop}{d V Z:Nat}{l:List (Int×Value)}{M:fF}(i:Nat)(U:pG M i)(w:World)(h:dB F w d V Z l M):
  Dy 171 #[.pointer (some ⟨d,0,none⟩),.int .i64 i] w λ e w'=>∃v,e= .returned (.tuple #[v,.int .i64 0])/\Je (λ x=>w.heap.size<=x/\x<w'.heap.size) w' 128 v (eZ M i)/\Below w.heap.size w w':=by
 have e1:decide (0<=(i:Int)/\(i:Int)<((M.safe.length/128:Nat):Int))=true:=aak U;have K:=DY (i:Int) w h;rw[e1]at K;have X:=h.len;have O:i*128<M.safe.length:=by
  have:=U.2;omega
 have R:=dat_any i O w h;obtain⟨_,av,_⟩:=nV h;have H:(Lit.int .i64 (i:Int)).wf=true:=by simp[Lit.wf,IntKind.min,IntKind.max,IntKind.signed,IntKind.bits];omega
 have hrel:=h.rows (i:Int);rcases acg (au (i:Int) M.dirty)with C|⟨B,C⟩
 ·have h1:=Sb hrel C;clear hrel;have P:eZ M i=rowsOf M.safe i:=by simp[eZ,C]
  rw[P];have J:=acp h;clear h;have m:=J.o.map;go_enter Tryz.func171,Tryz.ntmps171;go_wp2_with (first|(go_at_call 160;refine K.mono ?_;rintro e w' ⟨rfl,rfl⟩)|(at_lookup;refine aR aY rfl _ _ 92 30 rfl Tryz.underlying92 (Tryz.Yy _) rfl m (i:Int) rfl H ?_;rw[h1])|(go_at_call 102;refine R.mono ?_;rintro e w' ⟨rfl,rfl⟩));refine(tu V (i*128) 128 _ (rowsOf M.safe i) w (by omega) (by simp[rowsOf];omega) (by omega) ?_ ?_).mono ?_
  ·intro j u y;rw[add_plain];have hs:=J.o.safe;simp only[World.cell?,hs];simp only[rowsOf,List.getElem?_map,aaB,abG]at y;split at y
   ·simpa using y
   ·simp at y
  ·exact J.o.low _ J.o.own.2.1
  rintro e Y ⟨v,rfl,S,N⟩;go_wp2
  go_ret2
  exact⟨v,rfl,S,N⟩
 ·obtain⟨p2,h3,hR⟩:=G7 hrel C;clear hrel;have P:eZ M i=B:=by simp[eZ,C]
  rw[P];obtain⟨hl,b,ak,aA,rfl,W,z,I,D,G,Q⟩:=hR;have E:=h.low _ W.1;have A:∀j u,(B.map bv)[j]? =some u->w.cell? ((⟨b,0,none⟩:Addr).add j)=some u:=by
   intro j u y;rw[add_plain,<-I]at*;simp only[World.cell?,z,Nat.zero_add];rw[aaB]at y;split at y
   ·simpa using y
   ·simp at y
  have m:=h.map;clear h I z D G Q W C;go_enter Tryz.func171,Tryz.ntmps171;go_wp2_with (first|(go_at_call 160;refine K.mono ?_;rintro e w' ⟨rfl,rfl⟩)|(at_lookup;refine aR aY rfl _ _ 92 30 rfl Tryz.underlying92 (Tryz.Yy _) rfl m (i:Int) rfl H ?_;rw[h3]));refine(tu b 0 128 _ B w (by omega) hl (by omega) A E).mono ?_;rintro e Y ⟨v,rfl,S,N⟩;go_wp2
  go_ret2
  exact⟨v,rfl,S,N⟩
theorem MH{F:Nat->Prop}{d B C:Nat}{l:List (Int×Value)}{M:fF}(i:Int)(a:Mx)(n z:Nat)(A:¬(pG M i/\n=128))(w:World)(h:dB F w d B C l M):
  Dy 92 #[.pointer (some ⟨d,0,none⟩),.int .i64 i,.slice a n z] w λ e w'=>e= .returned (.int .i64 1)/\w=w':=by
 have y:=DY i w h;clear h;by_cases m:pG M i
 ·have u:decide (0<=i/\i<((M.safe.length/128:Nat):Int))=true:=aak m;rw[u]at y;have D:((n:Int) !=128)=true:=by simp;intro h;exact A ⟨m,by omega⟩
  clear A m u;go_enter Tryz.func92,Tryz.ntmps92;go_wp2_with (go_at_call 160;refine y.mono ?_;rintro e w' ⟨rfl,rfl⟩);go_ret;exact⟨rfl,rfl⟩
 ·have u:decide (0<=i/\i<((M.safe.length/128:Nat):Int))=false:=aad m;rw[u]at y;clear A m u;go_enter Tryz.func92,Tryz.ntmps92;go_wp2_with (go_at_call 160;refine y.mono ?_;rintro e w' ⟨rfl,rfl⟩);go_ret;exact⟨rfl,rfl⟩
