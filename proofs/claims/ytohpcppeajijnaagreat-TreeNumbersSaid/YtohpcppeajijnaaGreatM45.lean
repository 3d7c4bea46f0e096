/- TreeNumbers: the walk. -/
import Derived.Test.YtohpcppeajijnaaGreatM43
import Derived.Test.YtohpcppeajijnaaGreatM44
import Derived.Test.YtohpcppeajijnaaGreatM36
import Derived.Test.YtohpcppeajijnaaGreatM03
namespace Go.Proofs.YtohpcppeajijnaaGreat.treeNumbers
open Go.ChangeShapes Go.WideShapes Go.ChangeAt Go.RowKit
set_option linter.unusedVariables false
set_option linter.unusedSimpArgs false
theorem zU (T:aH):∀(p:List Nm) (id:Int),(aF T id p).2≠99
 |[],id=>by simp[aF]
 |n::r,id=>by
  unfold aF
  split
  ·simp
  ·split
   ·split
    ·simp
    ·exact zU T r _
   ·simp
theorem I5 (T:aH) (p:List Nm) (kind:Int):iH T p kind≠99:=by
 have h1:=zU T p.dropLast 0
 have h2:bO p≠99:=by
  unfold bO
  split
  ·decide
  ·split<;>decide
 have h3:(aC T p).2.2≠99:=by
  unfold aC
  split
  ·simp
  ·split
   ·exact h1
   ·split<;>simp
 unfold iH
 split
 ·exact h2
 ·split
  ·decide
  ·split
   ·exact h3
   ·split
    ·decide
    ·split<;>decide
theorem BZ (T:aH) (p:List Nm) (kind:Int):(aL T p kind).1.2≠99∧0≤(aL T p kind).1.1:=by
 unfold aL
 split
 ·refine⟨by simp,?_⟩
  show 0≤qx T
  unfold qx
  cases h:List.find? (fun n=>(aj n T).isNone) ((List.range (T.length+1)).map fun n:Nat=>(n:Int)+1)with
  |none=>simp
  |some v=>
   obtain⟨n,_,rfl⟩:=List.mem_map.1 (List.mem_of_find?_eq_some h)
   simp only[Option.getD_some]
   omega
 ·exact⟨I5 T p kind,by simp⟩
theorem rA {o o':Mark} {I:Nat→Prop} {w w':World} {a:Option Addr} {n:Nat} {ls:List Nm} (h:aG (Free o w) w a n (ls.map strOf)) (hi:¬I 0) (hs:Step o I w o' w'):aG (Free o' w') w' a n (ls.map strOf):=
 (pG h hi hs).mono fun b hb'=>⟨(hs.old b hb'.2).trans hb'.1,Nat.lt_of_lt_of_le hb'.2 hs.keep.size⟩
theorem vX {o:Mark} {w w':World} {a:Option Addr} {n:Nat} {ls:List Nm} (h:aG (Free o w) w a n (ls.map strOf)) (hb:Below w.heap.size w w'):aG (Free o w') w' a n (ls.map strOf):=
 (h.below hb (Nat.le_refl _)).mono fun b hb'=>⟨hb'.1,Nat.lt_of_lt_of_le hb'.2 hb.size⟩
structure Lx (b1 b2 b3:Nat) (l1 l2 l3:List Nm) (o:Mark) (w:World):Prop where
 p1:aG (Free o w) w (some ⟨b1,0,none⟩) 1 (l1.map strOf)
 p2:aG (Free o w) w (some ⟨b2,0,none⟩) 1 (l2.map strOf)
 p3:aG (Free o w) w (some ⟨b3,0,none⟩) 1 (l3.map strOf)
theorem vY {o:Mark} {w:World} {b:Nat} (h:kH o w (.slice (some ⟨b,0,none⟩) 1 1)):∃l:List Nm,aG (Free o w) w (some ⟨b,0,none⟩) 1 (l.map strOf):=by
 obtain⟨a,n,c,ls,e,-,-,hs⟩:=h
 simp only[Value.slice.injEq]at e
 obtain⟨rfl,rfl,rfl⟩:=e
 exact⟨ls,hs⟩
theorem vZ {o:Mark} {w:World} {b:Nat} {l:List Nm} (h:aG (Free o w) w (some ⟨b,0,none⟩) 1 (l.map strOf)):kH o w (.slice (some ⟨b,0,none⟩) 1 1):=⟨_,1,1,l,rfl,by omega,by omega,h⟩
structure wK (W:World) (t y b1 b2 b3:Nat) (l1 l2 l3:List Nm) (T U:aH) (o:Mark) (w:World):Prop where
 t2:T2 W o w t y T U
 NK:Lx b1 b2 b3 l1 l2 l3 o w
structure I6 (W:World) (t y b1 b2 b3:Nat) (l1 l2 l3:List Nm) (lb:Nat) (a:Option Addr) (n:Nat) (ls:List Nm) (T U:aH) (o:Mark) (w:World):Prop where
 num:wK W t y b1 b2 b3 l1 l2 l3 T U o w
 ps:lC o w lb 11
 str:aG (Free o w) w a n (ls.map strOf)
section
variable {W w w':World} {t y b1 b2 b3 lb n:Nat} {l1 l2 l3 ls:List Nm} {T U T' U':aH} {o o':Mark} {a:Option Addr}
theorem Lx.step (h:Lx b1 b2 b3 l1 l2 l3 o w) (hs:Step o I2 w o' w'):Lx b1 b2 b3 l1 l2 l3 o' w':=⟨rA h.p1 I2.vT hs,rA h.p2 I2.vT hs,rA h.p3 I2.vT hs⟩
theorem Lx.grow (h:Lx b1 b2 b3 l1 l2 l3 o w) (hb:Below w.heap.size w w'):Lx b1 b2 b3 l1 l2 l3 o w':=⟨vX h.p1 hb,vX h.p2 hb,vX h.p3 hb⟩
theorem wK.step (h:wK W t y b1 b2 b3 l1 l2 l3 T U o w) (hs:Step o I2 w o' w') (hT:T2 W o' w' t y T' U'):wK W t y b1 b2 b3 l1 l2 l3 T' U' o' w':=⟨hT,h.NK.step hs⟩
theorem wK.grow (h:wK W t y b1 b2 b3 l1 l2 l3 T U o w) (hb:Below w.heap.size w w'):wK W t y b1 b2 b3 l1 l2 l3 T U o w':=⟨h.t2.grow hb,h.NK.grow hb⟩
theorem I6.step (h:I6 W t y b1 b2 b3 l1 l2 l3 lb a n ls T U o w) (hs:Step o I2 w o' w') (hT:T2 W o' w' t y T' U'):I6 W t y b1 b2 b3 l1 l2 l3 lb a n ls T' U' o' w':=⟨h.num.step hs hT,h.ps.step I2.vT hs,rA h.str I2.vT hs⟩
end
theorem nI.three {o:Mark} {w0 w:World} {b1 b2 b3:Nat} (h:nI o w0 w [.slice (some ⟨b3,0,none⟩) 1 1, .slice (some ⟨b2,0,none⟩) 1 1, .slice (some ⟨b1,0,none⟩) 1 1]):∃l1 l2 l3:List Nm,Lx b1 b2 b3 l1 l2 l3 o w:=by
 obtain⟨l1,h1⟩:=vY (h.p (.slice (some ⟨b1,0,none⟩) 1 1) (by simp))
 obtain⟨l2,h2⟩:=vY (h.p (.slice (some ⟨b2,0,none⟩) 1 1) (by simp))
 obtain⟨l3,h3⟩:=vY (h.p (.slice (some ⟨b3,0,none⟩) 1 1) (by simp))
 exact⟨l1,l2,l3,h1,h2,h3⟩
def rC (o:Mark) (w:World) (lb:Nat):Prop:=Free o w lb∧∀j,j<5→∃z:Int,w.cell? ⟨lb,j,none⟩=some (.int .i64 z)∧-1≤z∧z≤4000
theorem rC.grow {o:Mark} {w w':World} {lb:Nat} (h:rC o w lb) (hb:Below w.heap.size w w'):rC o w' lb:=
 ⟨⟨h.1.1,Nat.lt_of_lt_of_le h.1.2 hb.size⟩,fun j hj=>by
  obtain⟨z,h1,h2⟩:=h.2 j hj
  exact⟨z,(hb.cell (p:=⟨lb,j,none⟩) h.1.2).trans h1,h2⟩⟩
theorem rC.step {o o':Mark} {I:Nat→Prop} {w w':World} {lb:Nat} (h:rC o w lb) (hi:¬I 0) (hs:Step o I w o' w'):rC o' w' lb:=
 ⟨⟨(hs.old lb h.1.2).trans h.1.1,Nat.lt_of_lt_of_le h.1.2 hs.keep.size⟩,fun j hj=>by
  obtain⟨z,h1,h2⟩:=h.2 j hj
  exact⟨z,(World.cell?_of_block (w:=w) (w':=w') (a:=⟨lb,j,none⟩) (hs.same hi h.1)).trans h1,h2⟩⟩
theorem I7 {o:Mark} {w:World} {t:TypeId} (hz:o w.heap.size=0):rC o (w.alloc (.cells #[.int .i64 (-1), .int .i64 0, .int .i64 1, .int .i64 4000, .int .i64 97] t)) w.heap.size:=by
 have h:=(MapKept.heap_alloc w (.cells #[.int .i64 (-1), .int .i64 0, .int .i64 1, .int .i64 4000, .int .i64 97] t)).1
 refine⟨⟨hz,by simp⟩,fun j hj=> ?_⟩
 have hc:∀v,(#[Value.int .i64 (-1), .int .i64 0, .int .i64 1, .int .i64 4000, .int .i64 97]:Array Value)[j]? =some v→(w.alloc (.cells #[.int .i64 (-1), .int .i64 0, .int .i64 1, .int .i64 4000, .int .i64 97] t)).cell? ⟨w.heap.size,j,none⟩=some v:=fun v hv=>by
  simp only[World.cell?,h]
  exact hv
 match j,hj with
 |0,_=>exact⟨-1,hc _ rfl,by omega,by omega⟩
 |1,_=>exact⟨0,hc _ rfl,by omega,by omega⟩
 |2,_=>exact⟨1,hc _ rfl,by omega,by omega⟩
 |3,_=>exact⟨4000,hc _ rfl,by omega,by omega⟩
 |4,_=>exact⟨97,hc _ rfl,by omega,by omega⟩
 |n+5,h=>omega
theorem wh {w w2:World} {n:Nat} (hn:n≤maxLen) (hown:w2.ownsRow w.heap.size 5 1 (.slice (some ⟨w.heap.size,0,none⟩) n n) n (madeCells (Value.int .u8 0).cells (n*1)).toList) (hg:w.grownBy w2 none):ak (fun b=>b=w.heap.size) w2 (some ⟨w.heap.size,0,none⟩) n ((List.replicate n (0:UInt8)).map bv)∧Below w.heap.size w w2:=by
 have hB:Below w.heap.size w w2:=⟨hg.os,hg.tape,hg.output,hg.size,fun i hi=>hg.block i hi (by simp)⟩
 have h1:w2.heap[w.heap.size]? =some (.cells ((List.replicate n (0:UInt8)).map bv).toArray 5 (0,0)):=by
  rw[show Value.cells (.int .u8 0)= #[.int .u8 0]from rfl,toList_madeCells_one]at hown
  obtain⟨_,hown⟩:=hown
  rcases hown with⟨hx,_⟩|⟨g,cap,cur,hx,_,hcur,_,_,hcs,htake⟩
  ·cases hx
  ·simp only[Value.slice.injEq,Option.some.injEq,Addr.mk.injEq,and_true,true_and]at hx
   obtain⟨rfl,_,rfl⟩:=hx
   show _=_
   rw[hcur]
   congr 2
   rw[List.take_of_length_le (by simp;omega)]at htake
   apply Array.toList_inj.1
   rw[htake]
   simp[bv]
 have h2:=gV h1 (by simpa using hn)
 simp only[List.length_map,List.length_replicate]at h2
 exact⟨h2,hB⟩
theorem B_ (z:Int):∃m:Nat,kQ z 0 4097=(m:Int)∧m≤4097:=by
 have:=BF z 0 4097 (by omega)
 exact⟨(kQ z 0 4097).toNat,by omega,by omega⟩
structure zV (W:World) (t y lb:Nat) (T U:aH) (o:Mark) (w:World):Prop where
 t2:T2 W o w t y T U
 i:rC o w lb
theorem zV.step {W w w':World} {t y lb:Nat} {T U T' U':aH} {o o':Mark} (h:zV W t y lb T U o w) (hs:Step o I2 w o' w') (hT:T2 W o' w' t y T' U'):zV W t y lb T' U' o' w':=⟨hT,h.i.step I2.vT hs⟩
theorem zV.grow {W w w':World} {t y lb:Nat} {T U:aH} {o:Mark} (h:zV W t y lb T U o w) (hb:Below w.heap.size w w'):zV W t y lb T U o w':=⟨h.t2.grow hb,h.i.grow hb⟩
set_option maxRecDepth 100000 in
set_option maxHeartbeats 32000000 in
theorem walk (W:World):Calls Tryz.prog 3 #[] W (Rb W):=by
 obtain⟨iU,hU⟩:∃i,Tryz.prog.info? 5=some i∧i.zero=some (.int .u8 0)∧i.size=1∧i.bytes=1:=info_parts (by kernel_rfl)
 have LA:=Lib.hid hU
 clear hU
 go_enter Tryz.func3,Tryz.ntmps3
 go_wp2_with fail
 (with_reducible refine(II W).mono ?_)
 rintro e w1 ⟨t,o1,rfl,hM1,hT1⟩
 have DV:=Lib.hid hM1
 have HT1:=Lib.hid hT1
 clear hM1 hT1
 go_wp2_with fail
 (with_reducible refine(IJ DV.out HT1.out).mono ?_)
 rintro e w2 ⟨y,o,rfl,hT⟩
 have HT:=Lib.hid hT
 have HL:=Lib.hid (nI.start (fun b hb=>hT.zero hb) [] (fun v hv=>by cases hv):nI o w2 w2 [])
 clear hT DV HT1
 go_wp2_with ((first|(have _:Hid (nI o _ _ []):=HL;refine j_ rfl 26 _ _ rfl rfl HL.out (by kernel_rfl) (by omega) (by kernel_rfl) ?_;intro b1 q1 hL)|(have _:Hid (nI o _ _ [_]):=HL;refine j_ rfl 26 _ _ rfl rfl HL.out (by kernel_rfl) (by omega) (by kernel_rfl) ?_;intro b2 q2 hL)|(have _:Hid (nI o _ _ [_,_]):=HL;refine j_ rfl 26 _ _ rfl rfl HL.out (by kernel_rfl) (by omega) (by kernel_rfl) ?_;intro b3 q3 hL));clear HL;have HL:=Lib.hid hL;clear hL)
 obtain⟨l1,l2,l3,h3⟩:=nI.three HL.out
 have NR:Hid (wK W t y b1 b2 b3 l1 l2 l3 jE jE o q3):=⟨HT.out.grow HL.out.b,h3⟩
 clear HL HT h3
 go_loopw [6] (fun i wr=>∃k:Nat,i= .int .i64 k∧k≤3∧∃o T,wK W t y b1 b2 b3 l1 l2 l3 T T o wr) (fun i _=>3-(intOf i).toNat)
 case atStart=>exact⟨0,rfl,by omega,_,_,NR.out⟩
 case round=>
  obtain⟨k,rfl,hk,o,T,hS⟩:=hrel
  have HS:=Lib.hid hS
  by_cases hlt:k<3
  ·have hd:decide ((k:Int)<3)=true:=by simp;omega
   have HL:=Lib.hid (nI.start (fun b hb=>hS.t2.zero hb) [.slice (some ⟨b3,0,none⟩) 1 1, .slice (some ⟨b2,0,none⟩) 1 1, .slice (some ⟨b1,0,none⟩) 1 1] (fun v hv=>by
    simp only[List.mem_cons,List.not_mem_nil,or_false]at hv
    rcases hv with rfl|rfl|rfl
    ·exact vZ hS.NK.p3
    ·exact vZ hS.NK.p2
    ·exact vZ hS.NK.p1):nI o wr wr _)
   clear hS
   go_wp2_with (refine j_ rfl 26 _ _ rfl rfl HL.out (by kernel_rfl) (by omega) (by kernel_rfl) ?_;intro bn wn hL;clear HL;have HL:=Lib.hid hL;clear hL)
   have HS2:=Lib.hid (HS.out.grow HL.out.b)
   obtain⟨lb,hlb⟩:∃lb,lb=wn.heap.size:=⟨_,rfl⟩
   rw[←hlb]
   have NC:=Lib.hid hlb
   clear hlb
   go_loopw [46] (fun i wr=>∃j:Nat,i= .int .i64 j∧j≤11∧∃o T,wK W t y b1 b2 b3 l1 l2 l3 T T o wr∧lC o wr lb 11) (fun i _=>11-(intOf i).toNat)
   case atStart=>
    refine⟨0,rfl,by omega,o,T,HS2.out.grow (wall wn _),?_⟩
    rw[NC.out]
    refine HL.out.table _ _ 11 (Nat.le_refl _) fun v hv=> ?_
    simp only[List.mem_toArray,List.mem_cons,List.not_mem_nil,or_false]at hv⊢
    rcases hv with rfl|rfl|rfl|rfl|rfl|rfl|rfl|rfl|rfl|rfl|rfl<;>simp
   case round=>
    obtain⟨j,rfl,hj,o,T,hS,hP⟩:=hrel
    by_cases hjl:j<11
    ·have hd2:decide ((j:Int)<11)=true:=by simp;omega
     obtain⟨v1,d1,a,n,c,ls,rfl,g1,g2,s1⟩:=hP.2 j hjl
     have i0:(0:Int)≤(j:Int):=by omega
     have i1:(j:Int)<11:=by omega
     have HNP:Hid (∃o T,I6 W t y b1 b2 b3 l1 l2 l3 lb a n ls T T o wr):=⟨o,T,hS,hP,s1⟩
     clear hS hP s1
     go_wp2_with fail
     clear d1
     go_loopw [9] (fun i wr=>∃m:Nat,i= .int .i64 m∧m≤4∧∃o T,I6 W t y b1 b2 b3 l1 l2 l3 lb a n ls T T o wr) (fun i _=>4-(intOf i).toNat)
     case atStart=>exact⟨0,rfl,by omega,HNP.out⟩
     case round=>
      obtain⟨m,rfl,hm,o,T,hN⟩:=hrel
      have HN:=Lib.hid hN
      clear hN
      by_cases hml:m<4
      ·as_aux_lemma=>
       have hd3:decide ((m:Int)<4)=true:=by simp;omega
       go_wp2_with fail
       (with_reducible refine(HN.out.num.t2.make a n c ls _ HN.out.str g1 (by omega)).mono ?_)
       rintro e wc1 ⟨rfl,oc1,hs,hT⟩
       have HX:=Lib.hid (HN.out.step hs hT)
       clear hs hT HN
       have HN:=Lib.hid HX.out
       clear HX
       go_wp2_with fail
       (with_reducible refine(HN.out.num.t2.IC a n c ls _ HN.out.str g1 (by omega)).mono ?_)
       rintro e wc2 ⟨rfl,oc2,hs,hT⟩
       have HX:=Lib.hid (HN.out.step hs hT)
       clear hs hT HN
       have HN:=Lib.hid HX.out
       clear HX
       generalize (aL T ls (m:Int)).1.1=vx at*
       generalize (aL T ls (m:Int)).1.2=vy at*
       have hvx:(vx !=vx)=false:=by simp
       have hvy:(vy !=vy)=false:=by simp
       obtain⟨T1,hTe⟩:∃T1,T1=(aL T ls (m:Int)).2:=⟨_,rfl⟩
       rw[←hTe]at HN
       clear hTe
       go_wp2_with fail
       (with_reducible refine(HN.out.num.t2.rmdir a n c ls HN.out.str g1 (by omega)).mono ?_)
       rintro e wc3 ⟨rfl,oc3,hs,hT⟩
       have HX:=Lib.hid (HN.out.step hs hT)
       clear hs hT HN
       have HN:=Lib.hid HX.out
       clear HX
       go_wp2_with fail
       (with_reducible refine(HN.out.num.t2.NA a n c ls HN.out.str g1 (by omega)).mono ?_)
       rintro e wc4 ⟨rfl,oc4,hs,hT⟩
       have HX:=Lib.hid (HN.out.step hs hT)
       clear hs hT HN
       have HN:=Lib.hid HX.out
       clear HX
       generalize (cO T1 ls).1=v5 at*
       have hv5:(v5 !=v5)=false:=by simp
       obtain⟨T5,hTe⟩:∃T5,T5=(cO T1 ls).2:=⟨_,rfl⟩
       rw[←hTe]at HN
       clear hTe
       go_wp2_with fail
       (with_reducible refine(HN.out.num.t2.link a n c ls _ 1 1 l3 HN.out.str g1 (by omega) HN.out.num.NK.p3 (by omega) (by omega)).mono ?_)
       rintro e wc6 ⟨rfl,oc6,hs,hT⟩
       have HX:=Lib.hid (HN.out.step hs hT)
       clear hs hT HN
       have HN:=Lib.hid HX.out
       clear HX
       go_wp2_with fail
       (with_reducible refine(HN.out.num.t2.Qk a n c ls _ 1 1 l3 HN.out.str g1 (by omega) HN.out.num.NK.p3 (by omega) (by omega)).mono ?_)
       rintro e wc7 ⟨rfl,oc7,hs,hT⟩
       have HX:=Lib.hid (HN.out.step hs hT)
       clear hs hT HN
       have HN:=Lib.hid HX.out
       clear HX
       generalize (aO T5 ls l3).1=v8 at*
       have hv8:(v8 !=v8)=false:=by simp
       obtain⟨T8,hTe⟩:∃T8,T8=(aO T5 ls l3).2:=⟨_,rfl⟩
       rw[←hTe]at HN
       clear hTe
       go_wp2_with fail
       (with_reducible refine(HN.out.num.t2.unlink a n c ls HN.out.str g1 (by omega)).mono ?_)
       rintro e wc9 ⟨rfl,oc9,hs,hT⟩
       have HX:=Lib.hid (HN.out.step hs hT)
       clear hs hT HN
       have HN:=Lib.hid HX.out
       clear HX
       go_wp2_with fail
       (with_reducible refine(HN.out.num.t2.KL a n c ls HN.out.str g1 (by omega)).mono ?_)
       rintro e wc10 ⟨rfl,oc10,hs,hT⟩
       have HX:=Lib.hid (HN.out.step hs hT)
       clear hs hT HN
       have HN:=Lib.hid HX.out
       clear HX
       generalize (bQ T8 ls).1=v11 at*
       have hv11:(v11 !=v11)=false:=by simp
       obtain⟨XY,hTe⟩:∃XY,XY=(bQ T8 ls).2:=⟨_,rfl⟩
       rw[←hTe]at HN
       clear hTe
       go_wp2_with fail
       go_roundw
       case rel=>exact⟨m+1,by go_num,by omega,_,_,HN.out⟩
       case measure=>simp[intOf];omega
      ·as_aux_lemma=>
       have hd3:decide ((m:Int)<4)=false:=by simp;omega
       clear hm hml
       go_wp2_with fail
       obtain⟨kd,hkd⟩:∃kd,kd=1+(k:Int)%2:=⟨_,rfl⟩
       rw[←hkd]
       (with_reducible refine(HN.out.num.t2.make a n c ls kd HN.out.str g1 (by omega)).mono ?_)
       rintro e wc12 ⟨rfl,oc12,hs,hT⟩
       have HX:=Lib.hid (HN.out.step hs hT)
       clear hs hT HN
       have HN:=Lib.hid HX.out
       clear HX
       obtain⟨J8,hg0⟩:=BZ T ls kd
       generalize (aL T ls kd).1.1=ix at*
       generalize (aL T ls kd).1.2=ex at*
       have hn9:(ex==99)=false:=by simpa using J8
       have hm9:decide (ex=99)=false:=by simpa using J8
       have hn0:decide (ix<0)=false:=by simpa using hg0
       have hm0:¬ix<0:=by omega
       go_wp2_with fail
       rw[←hkd]
       (with_reducible refine(HN.out.num.t2.IC a n c ls kd HN.out.str g1 (by omega)).mono ?_)
       rintro e wc13 ⟨rfl,oc13,hs,hT⟩
       have HX:=Lib.hid (HN.out.step hs hT)
       clear hs hT HN
       have HN:=Lib.hid HX.out
       clear HX
       go_wp2_with fail
       go_roundw
       case rel=>exact⟨j+1,by go_num,by omega,_,_,HN.out.num,HN.out.ps⟩
       case measure=>simp[intOf];omega
    ·as_aux_lemma=>
     have hd2:decide ((j:Int)<11)=false:=by simp;omega
     have HSN:=Lib.hid hS
     clear hS hP
     go_wp2_with fail
     go_roundw
     case rel=>exact⟨k+1,by go_num,by omega,_,_,HSN.out⟩
     case measure=>simp[intOf];omega
  ·have hd:decide ((k:Int)<3)=false:=by simp;omega
   have HT:=Lib.hid hS.t2
   clear hS HS
   go_wp2_with fail
   go_loopw [16] (fun i wr=>∃k:Int,i= .int .i64 k∧-1≤k∧k≤8∧∃o T,T2 W o wr t y T T) (fun i _=>(8-intOf i).toNat)
   case atStart=>exact⟨-1,rfl,by omega,by omega,_,_,HT.out⟩
   case round=>
    obtain⟨q,rfl,hq1,hq2,o,T,hT⟩:=hrel
    have HT:=Lib.hid hT
    by_cases Oi:q<8
    ·have hdq:decide (q<8)=true:=by simpa using Oi
     have hwf:(Lit.int .i64 q).wf=true:=Dh (by omega)
     have HZ:=Lib.hid (hT.zero (Nat.le_refl _):o wr.heap.size=0)
     clear hT
     go_wp2_with fail
     obtain⟨lb,hlb⟩:∃lb,lb=wr.heap.size:=⟨_,rfl⟩
     rw[←hlb]
     have NC:=Lib.hid hlb
     clear hlb
     go_loopw [133] (fun i wr=>∃j:Nat,i= .int .i64 j∧j≤5∧∃o T,T2 W o wr t y T T∧rC o wr lb) (fun i _=>5-(intOf i).toNat)
     case atStart=>
      refine⟨0,rfl,by omega,o,T,HT.out.grow (wall _ _),?_⟩
      rw[NC.out]
      exact I7 HZ.out
     case round=>
      obtain⟨j,rfl,hj,o,T,hT,hI⟩:=hrel
      by_cases hjl:j<5
      ·as_aux_lemma=>
       obtain⟨z,dz,hz1,hz2⟩:=hI.2 j hjl
       obtain⟨m,hm,KU⟩:=B_ z
       have WA:(Lit.int .i64 z).wf=true:=Dh (by omega)
       have Q0:=Lib.hid WA
       have yG:=Lib.hid hwf
       have Fb:Hid (∀w,Calls Tryz.prog 21 #[.int .i64 z, .int .i64 0, .int .i64 4097] w fun e w'=>e= .returned (.int .i64 (m:Int))∧w=w'):=Lib.hid fun w=>by
        have h:=BG z 0 4097 w WA (by omega) (by omega) (by omega)
        rw[hm]at h
        exact h
       have hd2:decide ((j:Int)<5)=true:=by simp;omega
       have i0:(0:Int)≤(j:Int):=by omega
       have i1:(j:Int)<5:=by omega
       have HN:Hid (zV W t y lb T T o wr):=⟨hT,hI⟩
       clear hT hI hm WA hwf
       go_wp2_with fail
       (with_reducible refine(Fb.out _).mono ?_)
       rintro e wi14 ⟨rfl,rfl⟩
       go_wp2_with (at_make;refine wpList_make_full _ rfl _ _ 39 rfl wr.heap.size 5 iU (.int .u8 0) 1 Tryz.underlying39 LA.out.1 LA.out.2.1 LA.out.2.2.1 .i64 .i64 (m:Int) (m:Int) m rfl rfl rfl rfl (by rw[LA.out.2.2.2];omega) (by unfold maxLen;omega) (Nat.le_refl _) ?_;intro wz14 hown hgrow;have NM:=Lib.hid (wh (by unfold maxLen;omega) hown hgrow);clear hown hgrow)
       have Qs:=Lib.hid (HN.out.t2.zero (Nat.le_refl _))
       have HX:=Lib.hid (HN.out.grow NM.out.2)
       clear HN
       have HN:=Lib.hid HX.out
       clear HX
       (with_reducible refine(HN.out.t2.append q _ m m (List.replicate m 0) yG.out NM.out.1 (fun b hb=>by rw[hb];exact Qs.out) (by omega)).mono ?_)
       rintro e WB ⟨rfl,oc15,hs,hT⟩
       have HX:=Lib.hid (HN.out.step hs hT)
       clear hs hT HN
       have HN:=Lib.hid HX.out
       clear HX
       clear NM Qs
       go_wp2_with fail
       (with_reducible refine(Fb.out _).mono ?_)
       rintro e wi16 ⟨rfl,rfl⟩
       go_wp2_with (at_make;refine wpList_make_full _ rfl _ _ 39 rfl WB.heap.size 5 iU (.int .u8 0) 1 Tryz.underlying39 LA.out.1 LA.out.2.1 LA.out.2.2.1 .i64 .i64 (m:Int) (m:Int) m rfl rfl rfl rfl (by rw[LA.out.2.2.2];omega) (by unfold maxLen;omega) (Nat.le_refl _) ?_;intro wz16 hown hgrow;have NM:=Lib.hid (wh (by unfold maxLen;omega) hown hgrow);clear hown hgrow)
       have Qs:=Lib.hid (HN.out.t2.zero (Nat.le_refl _))
       have HX:=Lib.hid (HN.out.grow NM.out.2)
       clear HN
       have HN:=Lib.hid HX.out
       clear HX
       (with_reducible refine(HN.out.t2.Dg q _ m m (List.replicate m 0) yG.out NM.out.1 (fun b hb=>by rw[hb];exact Qs.out) (by omega)).mono ?_)
       rintro e wc17 ⟨rfl,oc17,hs,hT⟩
       have HX:=Lib.hid (HN.out.step hs hT)
       clear hs hT HN
       have HN:=Lib.hid HX.out
       clear HX
       clear NM Qs
       generalize (bT T q (List.replicate m 0)).1=v18 at*
       have hv18:(v18 !=v18)=false:=by simp
       obtain⟨Q5,hTe⟩:∃Q5,Q5=(bT T q (List.replicate m 0)).2:=⟨_,rfl⟩
       rw[←hTe]at HN
       clear hTe
       go_wp2_with fail
       (with_reducible refine(HN.out.t2.Ls q 1099511627777 yG.out ⟨by omega,by omega⟩).mono ?_)
       rintro e wc19 ⟨rfl,oc19,hs,hT⟩
       have HX:=Lib.hid (HN.out.step hs hT)
       clear hs hT HN
       have HN:=Lib.hid HX.out
       clear HX
       go_wp2_with fail
       (with_reducible refine(HN.out.t2.IE q 1099511627777 yG.out ⟨by omega,by omega⟩).mono ?_)
       rintro e wc20 ⟨rfl,oc20,hs,hT⟩
       have HX:=Lib.hid (HN.out.step hs hT)
       clear hs hT HN
       have HN:=Lib.hid HX.out
       clear HX
       generalize (eF Q5 q 1099511627777).1=v21 at*
       have hv21:(v21 !=v21)=false:=by simp
       obtain⟨Q6,hTe⟩:∃Q6,Q6=(eF Q5 q 1099511627777).2:=⟨_,rfl⟩
       rw[←hTe]at HN
       clear hTe
       go_wp2_with fail
       (with_reducible refine(HN.out.t2.keep q 5 yG.out ⟨by omega,by omega⟩).mono ?_)
       rintro e wc22 ⟨rfl,oc22,hs,hT⟩
       have HX:=Lib.hid (HN.out.step hs hT)
       clear hs hT HN
       have HN:=Lib.hid HX.out
       clear HX
       go_wp2_with fail
       (with_reducible refine(HN.out.t2.IG q 5 yG.out ⟨by omega,by omega⟩).mono ?_)
       rintro e wc23 ⟨rfl,oc23,hs,hT⟩
       have HX:=Lib.hid (HN.out.step hs hT)
       clear hs hT HN
       have HN:=Lib.hid HX.out
       clear HX
       generalize (dO Q6 q 5).1=v24 at*
       have hv24:(v24 !=v24)=false:=by simp
       obtain⟨Q7,hTe⟩:∃Q7,Q7=(dO Q6 q 5).2:=⟨_,rfl⟩
       rw[←hTe]at HN
       clear hTe
       go_wp2_with fail
       (with_reducible refine(HN.out.t2.read q z z yG.out Q0.out Q0.out).mono ?_)
       rintro e w6 ⟨a6,n6,k6,rfl,-,XZ,hb6⟩
       have WC:=Lib.hid (HN.out.grow hb6)
       have QZ:=Lib.hid XZ
       clear XZ hb6 HN
       obtain⟨SR,hRR⟩:=WC.out.t2.Qm q z z Q0.out Q0.out
       have HRR:=Lib.hid hRR
       clear hRR
       generalize mh Q7 q z z=rb at*
       generalize mg Q7 q z z=re at*
       go_wp2_with fail
       (with_reducible refine HRR.out.mono ?_)
       rintro e w7 ⟨a7,n7,k7,rfl,X0,rfl⟩
       have hcv1:(convert 39 9 (.slice a6 n6 k6)).run Tryz.prog w6= .ok (.string (strOf rb)) w6:=jW QZ.out
       have hcv2:(convert 39 9 (.slice a7 n7 k7)).run Tryz.prog w6= .ok (.string (strOf rb)) w6:=jW X0
       clear X0
       go_wp2_with fail
       go_roundw
       case rel=>exact⟨j+1,by go_num,by omega,_,_,WC.out.t2,WC.out.i⟩
       case measure=>simp[intOf];omega
      ·as_aux_lemma=>
       have hd2:decide ((j:Int)<5)=false:=by simp;omega
       have yG:=Lib.hid hwf
       have HN:Hid (zV W t y lb T T o wr):=⟨hT,hI⟩
       clear hT hI hwf
       go_wp2_with fail
       (with_reducible refine(HN.out.t2.Ls q 9 yG.out ⟨by omega,by omega⟩).mono ?_)
       rintro e wc25 ⟨rfl,oc25,hs,hT⟩
       have HX:=Lib.hid (HN.out.step hs hT)
       clear hs hT HN
       have HN:=Lib.hid HX.out
       clear HX
       go_wp2_with fail
       (with_reducible refine(HN.out.t2.IE q 9 yG.out ⟨by omega,by omega⟩).mono ?_)
       rintro e wc26 ⟨rfl,oc26,hs,hT⟩
       have HX:=Lib.hid (HN.out.step hs hT)
       clear hs hT HN
       have HN:=Lib.hid HX.out
       clear HX
       generalize (eF T q 9).1=v27 at*
       have hv27:(v27 !=v27)=false:=by simp
       obtain⟨Q8,hTe⟩:∃Q8,Q8=(eF T q 9).2:=⟨_,rfl⟩
       rw[←hTe]at HN
       clear hTe
       go_wp2_with fail
       (with_reducible refine(HN.out.t2.keep q 8 yG.out ⟨by omega,by omega⟩).mono ?_)
       rintro e wc28 ⟨rfl,oc28,hs,hT⟩
       have HX:=Lib.hid (HN.out.step hs hT)
       clear hs hT HN
       have HN:=Lib.hid HX.out
       clear HX
       go_wp2_with fail
       (with_reducible refine(HN.out.t2.IG q 8 yG.out ⟨by omega,by omega⟩).mono ?_)
       rintro e wc29 ⟨rfl,oc29,hs,hT⟩
       have HX:=Lib.hid (HN.out.step hs hT)
       clear hs hT HN
       have HN:=Lib.hid HX.out
       clear HX
       generalize (dO Q8 q 8).1=v30 at*
       have hv30:(v30 !=v30)=false:=by simp
       obtain⟨Q9,hTe⟩:∃Q9,Q9=(dO Q8 q 8).2:=⟨_,rfl⟩
       rw[←hTe]at HN
       clear hTe
       go_wp2_with fail
       (with_reducible refine(HN.out.t2.keep q 1099511627777 yG.out ⟨by omega,by omega⟩).mono ?_)
       rintro e wc31 ⟨rfl,oc31,hs,hT⟩
       have HX:=Lib.hid (HN.out.step hs hT)
       clear hs hT HN
       have HN:=Lib.hid HX.out
       clear HX
       go_wp2_with fail
       (with_reducible refine(HN.out.t2.IG q 1099511627777 yG.out ⟨by omega,by omega⟩).mono ?_)
       rintro e wc32 ⟨rfl,oc32,hs,hT⟩
       have HX:=Lib.hid (HN.out.step hs hT)
       clear hs hT HN
       have HN:=Lib.hid HX.out
       clear HX
       generalize (dO Q9 q 1099511627777).1=v33 at*
       have hv33:(v33 !=v33)=false:=by simp
       obtain⟨Q_,hTe⟩:∃Q_,Q_=(dO Q9 q 1099511627777).2:=⟨_,rfl⟩
       rw[←hTe]at HN
       clear hTe
       go_wp2_with fail
       (with_reducible refine(HN.out.t2.drop q yG.out).mono ?_)
       rintro e wc34 ⟨rfl,oc34,hs,hT⟩
       have HX:=Lib.hid (HN.out.step hs hT)
       clear hs hT HN
       have HN:=Lib.hid HX.out
       clear HX
       go_wp2_with fail
       (with_reducible refine(HN.out.t2.Ql q yG.out).mono ?_)
       rintro e wc35 ⟨rfl,oc35,hs,hT⟩
       have HX:=Lib.hid (HN.out.step hs hT)
       clear hs hT HN
       have HN:=Lib.hid HX.out
       clear HX
       generalize (dH Q_ q).1=v36 at*
       have hv36:(v36 !=v36)=false:=by simp
       obtain⟨Ra,hTe⟩:∃Ra,Ra=(dH Q_ q).2:=⟨_,rfl⟩
       rw[←hTe]at HN
       clear hTe
       go_wp2_with fail
       (with_reducible refine(HN.out.t2.append q none 0 0 [] yG.out (ak.nil (fun _=>False) _ _) (fun b hb=>hb.elim) (by omega)).mono ?_)
       rintro e wc37 ⟨rfl,oc37,hs,hT⟩
       have HX:=Lib.hid (HN.out.step hs hT)
       clear hs hT HN
       have HN:=Lib.hid HX.out
       clear HX
       go_wp2_with fail
       (with_reducible refine(HN.out.t2.Dg q none 0 0 [] yG.out (ak.nil (fun _=>False) _ _) (fun b hb=>hb.elim) (by omega)).mono ?_)
       rintro e wc38 ⟨rfl,oc38,hs,hT⟩
       have HX:=Lib.hid (HN.out.step hs hT)
       clear hs hT HN
       have HN:=Lib.hid HX.out
       clear HX
       generalize (bT Ra q []).1=v39 at*
       have hv39:(v39 !=v39)=false:=by simp
       obtain⟨X3,hTe⟩:∃X3,X3=(bT Ra q []).2:=⟨_,rfl⟩
       rw[←hTe]at HN
       clear hTe
       go_wp2_with fail
       go_roundw
       case rel=>exact⟨q+1,by go_num,by omega,by omega,_,_,HN.out.t2⟩
       case measure=>simp[intOf];omega
    ·as_aux_lemma=>
     have hdq:decide (q<8)=false:=by simpa using Oi
     have N_:=Lib.hid (HT.out.grow (Below.refl _ _).drew)
     have QE:=Lib.hid (yx N_.out.tr N_.out.wJ)
     clear hT HT
     go_wp2_with fail
     refine wp_region_noPanic ?_
     refine wp_region_held_drew (S:=(fun _=>True)) (by kernel_rfl) ?_ (fun hS=> ?_)
     ·exact trivial
     refine iV 0 (hS:=hS) (h:= ?_)
     refine iV 3 (hS:=hS) (h:= ?_)
     refine wm 1 (h:=fun K hK=> ?_)
     go_simp
     (with_reducible refine QE.out.mono ?_)
     rintro e w4 ⟨ra,rn,rc,rfl,hrc,hrr,hb4⟩
     have HRR:=Lib.hid hrr
     have Qt:=Lib.hid (N_.out.grow hb4)
     clear hrr hb4 QE N_
     go_wp2_with fail
     refine hK.out _ _ (trivial) (fun hS=> ?_)
     clear hK K
     try simp only[Act.put,List.setIfInBounds_toArray,List.set_cons_zero,List.set_cons_succ]
     refine jX (S':=fun w'=>True∧(convert 39 9 (.slice ra rn rc)).run Tryz.prog w'= .ok (.string (strOf (gT T))) w') (fun _ h=>h.1) _ _ _ _ ?_
     have IQ:=And.intro hS (jW (c:=rc) HRR.out)
     clear hS
     have hS:=IQ
     clear IQ
     refine iV 2 (hS:=hS) (h:= ?_)
     have X4:=Lib.hid (Dj (W:=W) Qt.out.rt Qt.out.vU)
     refine wm 4 (h:=fun K hK=> ?_)
     go_simp
     (with_reducible refine X4.out.mono ?_)
     rintro e w5 ⟨ua,uc,rfl,hur,hb5⟩
     have X5:=Lib.hid (fI hur)
     have WE:=Lib.hid (HRR.out.kept hb5.size (fun b hb _=>hb5.block b hb.2))
     have Qu:=Lib.hid (Qt.out.marks.below.trans (hb5.mono Qt.out.marks.below.size))
     obtain⟨un,hun⟩:∃un,un=(gT T).length:=⟨_,rfl⟩
     rw[←hun]at X5⊢
     clear hur hb5 hun X4 Qt HRR
     go_wp2_with fail
     refine hK.out _ _ (⟨trivial,jW (c:=rc) WE.out⟩) (fun hS=> ?_)
     clear hK K
     try simp only[Act.put,List.setIfInBounds_toArray,List.set_cons_zero,List.set_cons_succ]
     refine jX (S':=fun w'=>(True∧(convert 39 9 (.slice ra rn rc)).run Tryz.prog w'= .ok (.string (strOf (gT T))) w')∧(convert 39 9 (.slice ua un uc)).run Tryz.prog w'= .ok (.string (strOf (gT T))) w') (fun _ h=>h.1) _ _ _ _ ?_
     have IU:=And.intro hS (jW (c:=uc) X5.out)
     clear hS
     have hS:=IU
     clear IU
     refine iV 5 (hS:=hS) (h:= ?_)
     refine iV 6 (hS:=hS) (h:= ?_)
     refine wpAnyH_done (by kernel_rfl) ?_ _
     refine NoPanic.normal ?_
     clear hS
     go_wp2_with fail
     (with_reducible refine(deep_law _).mono ?_)
     rintro e w7 ⟨rfl,X6⟩
     have yD:=Lib.hid (Qu.out.trans (X6.mono Qu.out.size))
     clear X6
     go_wp2_with fail
     (with_reducible refine(IX _).mono ?_)
     rintro e w8 ⟨rfl,vv⟩
     have tH:=Lib.hid (yD.out.trans (vv.mono yD.out.size))
     clear vv
     go_wp2_with fail
     (with_reducible refine(zT _).mono ?_)
     rintro e w9 ⟨rfl,AJ⟩
     have LQ:=Lib.hid (tH.out.trans (AJ.mono tH.out.size))
     clear AJ
     go_wp2_with fail
     go_ret
     exact⟨rfl,LQ.out⟩
end Go.Proofs.YtohpcppeajijnaaGreat.treeNumbers
