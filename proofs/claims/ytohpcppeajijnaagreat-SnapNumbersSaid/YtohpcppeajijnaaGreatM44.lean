/- permafrostlaw13: do, over the snapshots and the reference's. package snap: Get. package snap: Hash. -/
import Derived.Test.YtohpcppeajijnaaGreatM43
import Derived.Test.YtohpcppeajijnaaGreatM35
import Derived.Test.YtohpcppeajijnaaGreatM36
import Derived.Test.YtohpcppeajijnaaGreatM20
import Derived.Test.YtohpcppeajijnaaGreatM17
import Derived.Test.YtohpcppeajijnaaGreatM22
import Derived.Test.YtohpcppeajijnaaGreatM41
namespace Go.Proofs.YtohpcppeajijnaaGreat
open Go.ChangeShapes Go.WideShapes Go.ChangeAt Go.RowKit
set_option linter.unusedVariables false
set_option linter.unusedSimpArgs false
def uJ (x:pW) (T:aI):aI:=
 if x.kind=1∨x.kind=2 then(dw T (kE x.P) (3-x.kind)).2 else
 if x.kind=3 then(bI T x.id (x.b.take 60)).2 else
 if x.kind=4 then(dZ T x.id (x.aS%20)).2 else
 if x.kind=5 then(bg T (kE x.P)).2 else T
theorem Lv {x:pW} (h:x.kind=1∨x.kind=2) (T:aI):uJ x T=(dw T (kE x.P) (3-x.kind)).2:=by unfold uJ;rw[if_pos h]
theorem Rk {x:pW} (h:x.kind=3) (T:aI):uJ x T=(bI T x.id (x.b.take 60)).2:=by unfold uJ;rw[if_neg (by omega),if_pos h]
theorem Rl {x:pW} (h:x.kind=4) (T:aI):uJ x T=(dZ T x.id (x.aS%20)).2:=by unfold uJ;rw[if_neg (by omega),if_neg (by omega),if_pos h]
theorem Rm {x:pW} (h:x.kind=5) (T:aI):uJ x T=(bg T (kE x.P)).2:=by unfold uJ;rw[if_neg (by omega),if_neg (by omega),if_neg (by omega),if_pos h]
theorem BF {x:pW} (h:x.kind<1∨5<x.kind) (T:aI):uJ x T=T:=by unfold uJ;rw[if_neg (by omega),if_neg (by omega),if_neg (by omega),if_neg (by omega)]
def BG (x:pW) (T:aI) (A A':iC):Prop:=
 (x.kind=6∧A'=(bW A T).2)∨((x.kind<1∨6<x.kind)∧∃er,iq A x.id (x.aS%20) er A')∨((1≤x.kind∧x.kind≤5)∧A'=A)
def DK (W:World) (o:Mark) (w:World) (p s t x y:Nat) (q:pW) (A:iC) (T:aI) (B:iC) (e:Ending) (w':World):Prop:=
 ∃b A' B',e= .returned (.bool b)∧(A=B→b=true∧A'=B')∧BG q T A A'∧BG q T B B'∧pX W o w p s t x y A' (uJ q T) B' (uJ q T) w'
def nW (ba:Option Addr) (bn bc:Nat) (x:pW):Array Value:= #[.int .i64 x.kind, .int .i64 x.P, .int .i64 x.id, .slice ba bn bc, .int .u64 x.aS]
theorem qJ {w:World} {q bn bc:Nat} {ba:Option Addr} {x:pW} (h:w.heap[q]? =some (.cells (nW ba bn bc x) 57 (0,0))):w.cell? ⟨q,0,none⟩=some (.int .i64 x.kind)∧w.cell? ⟨q,1,none⟩=some (.int .i64 x.P)∧w.cell? ⟨q,2,none⟩=some (.int .i64 x.id)∧w.cell? ⟨q,3,none⟩=some (.slice ba bn bc)∧w.cell? ⟨q,4,none⟩=some (.int .u64 x.aS):=by
 unfold nW at h
 refine⟨?_,?_,?_,?_,?_⟩<;>simp[World.cell?,h]
section
variable {W w:World} {o:Mark} {p s t x y:Nat} {A B:iC} {T:aI}
theorem pX.behind {U:aI} {w1 w2:World} {o1:Mark} (hs:Step o I4 w o1 w1) (h:pX W o1 w1 p s t x y A T B U w2):pX W o w p s t x y A T B U w2:=by
 obtain⟨o2,h1,h2⟩:=h
 exact⟨o2,hs.trans h1,h2⟩
theorem BH (h:gY W o w p s t x y A T B T) {b:Nat} (hb:b<W.heap.size):Free o w b:=⟨Decidable.byContradiction fun h0=>by have:=(h.marks.new b h0).1;omega,Nat.lt_of_lt_of_le hb h.marks.below.size⟩
theorem NU {b:Nat} (h:Free o w b):b<w.heap.size:=h.2
theorem gY.zero {U:aI} (h:gY W o w p s t x y A T B U) {b:Nat} (hb:w.heap.size≤b):o b=0:=Decidable.byContradiction fun h0=>by have:=(h.marks.new b h0).2;omega
set_option maxRecDepth 100000 in
set_option maxHeartbeats 32000000 in
theorem rR (q:pW) (ba:Option Addr) (bn bc:Nat) (h:gY W o w p s t x y A T B T) (hA:A.next≤1000000000) (hB:B.next≤1000000000) (hwp:(Lit.int .i64 q.P).wf=true) (hwi:(Lit.int .i64 q.id).wf=true) (hwk:(Lit.int .i64 q.kind).wf=true) (VU:0≤q.aS∧q.aS≤18446744073709551615) (hbr:ak (fun b=>b<W.heap.size) w ba bn (q.b.map bv)) (hbc:bn≤bc) (hbl:bn≤140737488351232):
  Calls Tryz.prog 37 #[ptr p, .agg (nW ba bn bc q)] w (DK W o w p s t x y q A T B):=by
 have HH:=Lib.hid h
 have yt:=Lib.hid hbr
 have HWP:=Lib.hid hwp
 have HWI:=Lib.hid hwi
 have RA:=Lib.hid hwk
 have HNA:=Lib.hid hA
 have HNB:=Lib.hid hB
 have HWU:=Lib.hid VU
 clear h hbr hwp hwi hwk hA hB VU
 unfold nW
 go_enter Tryz.func37,Tryz.ntmps37
 go_upto_region 1 with(fail)
 have VX:(w.alloc (.cells (nW ba bn bc q) 57)).heap[w.heap.size]? =some (.cells (nW ba bn bc q) 57):=(MapKept.heap_alloc w _).1
 have hBa:Below w.heap.size w (w.alloc (.cells (nW ba bn bc q) 57)):=wall w _
 have hza:(w.alloc (.cells (nW ba bn bc q) 57)).heap.size=w.heap.size+1:=by simp
 unfold nW at VX hBa hza
 generalize (w.alloc (.cells #[.int .i64 q.kind, .int .i64 q.P, .int .i64 q.id, .slice ba bn bc, .int .u64 q.aS] 57))=w1 at*
 obtain⟨z,hz⟩:∃z,z=w.heap.size:=⟨_,rfl⟩
 rw[←hz]at VX⊢
 have HHA:Hid (w1.heap[z]? =some (.cells (nW ba bn bc q) 57 (0,0))):=VX
 obtain⟨c0,c1,c2,c3,c4⟩:=qJ HHA.out
 have xC:=Lib.hid hBa
 have HZE:=Lib.hid hz
 have hzw:z<w1.heap.size:=by omega
 clear VX hBa hz c0 c2 c3 c4
 go_wp2_with fail
 (with_reducible refine(Gg _ HWP.out _).mono ?_)
 rintro e w2 ⟨a1,k1,rfl,hk1,hs1,hb2⟩
 have VY:=Lib.hid ((hb2.block z hzw).trans HHA.out)
 have HB2:=Lib.hid (xC.out.trans (hb2.mono (by have:=xC.out.size;omega)))
 have HW2:=Lib.hid (HH.out.grow HB2.out)
 have hz2:z<w2.heap.size:=by have:=hb2.size;omega
 have HF:Hid (Free o w2 z):=⟨HH.out.zero (by have:=HZE.out;omega),hz2⟩
 have kR:Hid (aW (Free o w2) w2 a1 (kE q.P).length ((kE q.P).map strOf)):=hs1.mono fun b hb=>⟨HH.out.zero (by have:=xC.out.size;omega),hb.2⟩
 have HRW:Hid (ak (Free o w2) w2 ba bn (q.b.map bv)):=(yt.out.below HB2.out (Nat.le_refl _)).mono fun b hb=>⟨(BH HH.out hb).1,Nat.lt_of_lt_of_le (BH HH.out hb).2 HB2.out.size⟩
 have hn1:=zJ q.P
 obtain⟨l1,hl1⟩:∃l,l=kE q.P:=⟨_,rfl⟩
 rw[←hl1]at kR hk1 hn1⊢
 have AY:=Lib.hid hl1
 obtain⟨m1,hm1⟩:∃m,m=l1.length:=⟨_,rfl⟩
 rw[←hm1]at kR hk1 hn1⊢
 obtain⟨c0,c1',c2,c3,c4⟩:=qJ VY.out
 clear hs1 hb2 c1 hl1 hm1
 go_wp2_with fail
 have Tx:Hid (∀wz:World,Calls Tryz.prog 54 #[.slice ba bn bc, .int .i64 60] wz fun e w'=>e= .returned (.slice ba (min bn 60) bc)∧wz=w'):=fun wz=>Nc ba bn bc 60 hbc (by omega) (by unfold maxLen;omega) wz
 (with_reducible refine(Tx.out _).mono ?_)
 rintro e w3 ⟨rfl,rfl⟩
 have gZ:Hid (ak (Free o w2) w2 ba (min bn 60) ((q.b.take 60).map bv)):=by
  have:=HRW.out.take 60
  rwa [←List.map_take]at this
 have hbn60:min bn 60≤60:=Nat.min_le_right _ _
 generalize min bn 60=bm at*
 obtain⟨q0,q1,q2,q3⟩:=HW2.out.cells
 have Lx:Hid (∀w':World,w'.heap[z]? =w2.heap[z]? →w'.cell? ⟨z,0,none⟩=some (.int .i64 q.kind)∧w'.cell? ⟨z,2,none⟩=some (.int .i64 q.id)∧w'.cell? ⟨z,4,none⟩=some (.int .u64 q.aS)):=fun w' hw=>by
  obtain⟨e0,e1,e2,e3,e4⟩:=qJ (hw.trans VY.out)
  exact⟨e0,e2,e4⟩
 have HST:Hid (Step o I4 w o w2):=Step.grow HH.out.marks HB2.out
 have eu0:0≤q.aS:=HWU.out.1
 have hum:0≤q.aS%20∧q.aS%20≤18446744073709551615:=by have:=HWU.out;omega
 have eut:q.aS.tmod 20=q.aS%20:=Int.tmod_eq_emod_of_nonneg eu0
 have Y8:=Lib.hid hum
 obtain⟨um,Rn⟩:∃um,um=q.aS%20:=⟨_,rfl⟩
 rw[←Rn]at eut Y8
 have Y9:=Lib.hid Rn
 have ZU:=Lib.hid (fun h:A=B=>h)
 clear c1' c3 Rn hum eu0
 by_cases xD:q.kind=1∨q.kind=2
 ·as_aux_lemma=>
  have hw3:IntKind.i64.wrap (3-q.kind)=3-q.kind:=IntWalk.i64_in _ (by omega)
  obtain⟨kd,hkd⟩:∃kd,kd=3-q.kind:=⟨_,rfl⟩
  have hkk:q.kind=3-kd:=by omega
  have hkr:kd=1∨kd=2:=by omega
  have U5:IntKind.i64.wrap (3-(3-kd))=kd:=by rw[show 3-(3-kd)=kd by omega];exact IntWalk.i64_in _ (by omega)
  have HKD:=Lib.hid hkd
  have OJ:=Lib.hid (And.intro xD hkk)
  clear hkk
  rcases xD with hk1|hk1
  ·have hk:=Lib.hid hk1
   have hkd1:kd=2:=by omega
   rw[hk1]at c0
   have wX:Hid (∀w':World,w'.heap[z]? =w2.heap[z]? →w'.cell? ⟨z,0,none⟩=some (.int .i64 1)):=fun w' hw=>by rw[←hk1];exact(Lx.out w' hw).1
   clear hw3 U5 hkd hk1 hkr
   have ewk:IntKind.i64.wrap 2=2:=by kernel_rfl
   go_wp2_with fail
   refine wp_region_noPanic ?_
   refine aH (last:=8) (S:=(fun w'=>w'.cell? ⟨p,1,none⟩=some (ptr t)∧w'.cell? ⟨z,0,none⟩=some (.int .i64 1))) (by kernel_rfl) ?_ (fun hS=> ?_)
   ·exact⟨q1,c0⟩
   refine aC 0 (hS:=hS) (h:= ?_)
   refine aC 1 (hS:=hS) (h:= ?_)
   refine aC 2 (hS:=hS) (h:= ?_)
   refine aC 3 (hS:=hS) (h:= ?_)
   refine aC 4 (hS:=hS) (h:= ?_)
   refine aC 5 (hS:=hS) (h:= ?_)
   refine aC 6 (hS:=hS) (h:= ?_)
   refine aC 7 (hS:=hS) (h:= ?_)
   refine dh 8 (h:=fun K hK=> ?_)
   go_simp
   (with_reducible refine(gY.make (HW2.out.grow (Below.refl _ _).drew) a1 m1 k1 l1 2 (kR.out.below (Below.refl w2.heap.size w2).drew (Nat.le_refl _)) hk1 (by omega)).mono ?_)
   rintro e w4 ⟨rfl,o4,hs4,sM⟩
   have nY:=Lib.hid (Step.behind HW2.out.marks (Below.refl _ _).drew hs4)
   have n_:=Lib.hid sM
   have H7:=Lib.hid (nY.out.same I4.qI HF.out)
   obtain⟨q0,q1,q2,q3⟩:=n_.out.cells
   have c0:=wX.out w4 H7.out
   clear hs4 sM
   go_wp2_with fail
   refine hK.out _ _ (fun h=>absurd rfl h) (fun hS=> ?_)
   clear hS hK K
   try simp only[Act.put,List.setIfInBounds_toArray,List.set_cons_zero,List.set_cons_succ]
   refine aG (by kernel_rfl) ?_ _
   refine NoPanic.normal ?_
   go_wp2_with fail
   refine wp_region_noPanic ?_
   refine aH (last:=8) (S:=(fun w'=>w'.cell? ⟨p,3,none⟩=some (ptr y)∧w'.cell? ⟨z,0,none⟩=some (.int .i64 1))) (by kernel_rfl) ?_ (fun hS=> ?_)
   ·exact⟨q3,c0⟩
   refine aC 0 (hS:=hS) (h:= ?_)
   refine aC 1 (hS:=hS) (h:= ?_)
   refine aC 2 (hS:=hS) (h:= ?_)
   refine aC 3 (hS:=hS) (h:= ?_)
   refine aC 4 (hS:=hS) (h:= ?_)
   refine aC 5 (hS:=hS) (h:= ?_)
   refine aC 6 (hS:=hS) (h:= ?_)
   refine aC 7 (hS:=hS) (h:= ?_)
   refine dh 8 (h:=fun K hK=> ?_)
   go_simp
   (with_reducible refine(gY.OI (n_.out.grow (Below.refl _ _).drew) a1 m1 k1 l1 2 ((tJ kR.out I4.qI nY.out).below (Below.refl w4.heap.size w4).drew (Nat.le_refl _)) hk1 (by omega)).mono ?_)
   rintro e w5 ⟨rfl,o5,hs5,yQ⟩
   have xu:=Lib.hid (Step.behind n_.out.marks (Below.refl _ _).drew hs5)
   have yX:=Lib.hid yQ
   clear hs5 yQ
   go_wp2_with fail
   refine hK.out _ _ (fun h=>absurd rfl h) (fun hS=> ?_)
   clear hS hK K
   try simp only[Act.put,List.setIfInBounds_toArray,List.set_cons_zero,List.set_cons_succ]
   refine aG (by kernel_rfl) ?_ _
   refine NoPanic.normal ?_
   go_wp2_with fail
   go_ret
   have hkq:=hk.out
   refine⟨true,A,B,rfl,fun h=>⟨rfl,h⟩, .inr (.inr ⟨by omega,rfl⟩), .inr (.inr ⟨by omega,rfl⟩),?_⟩
   rw[Lv OJ.out.1,←AY.out,hkq]
   exact⟨o5,HST.out.trans (nY.out.trans xu.out),yX.out⟩
  ·have hk:=Lib.hid hk1
   have Yq:kd=1:=by omega
   rw[hk1]at c0
   have wX:Hid (∀w':World,w'.heap[z]? =w2.heap[z]? →w'.cell? ⟨z,0,none⟩=some (.int .i64 2)):=fun w' hw=>by rw[←hk1];exact(Lx.out w' hw).1
   clear hw3 U5 hkd hk1 hkr
   have ewk:IntKind.i64.wrap 1=1:=by kernel_rfl
   go_wp2_with fail
   refine wp_region_noPanic ?_
   refine aH (last:=8) (S:=(fun w'=>w'.cell? ⟨p,1,none⟩=some (ptr t)∧w'.cell? ⟨z,0,none⟩=some (.int .i64 2))) (by kernel_rfl) ?_ (fun hS=> ?_)
   ·exact⟨q1,c0⟩
   refine aC 0 (hS:=hS) (h:= ?_)
   refine aC 1 (hS:=hS) (h:= ?_)
   refine aC 2 (hS:=hS) (h:= ?_)
   refine aC 3 (hS:=hS) (h:= ?_)
   refine aC 4 (hS:=hS) (h:= ?_)
   refine aC 5 (hS:=hS) (h:= ?_)
   refine aC 6 (hS:=hS) (h:= ?_)
   refine aC 7 (hS:=hS) (h:= ?_)
   refine dh 8 (h:=fun K hK=> ?_)
   go_simp
   (with_reducible refine(gY.make (HW2.out.grow (Below.refl _ _).drew) a1 m1 k1 l1 1 (kR.out.below (Below.refl w2.heap.size w2).drew (Nat.le_refl _)) hk1 (by omega)).mono ?_)
   rintro e w4 ⟨rfl,o4,hs4,sM⟩
   have nY:=Lib.hid (Step.behind HW2.out.marks (Below.refl _ _).drew hs4)
   have n_:=Lib.hid sM
   have H7:=Lib.hid (nY.out.same I4.qI HF.out)
   obtain⟨q0,q1,q2,q3⟩:=n_.out.cells
   have c0:=wX.out w4 H7.out
   clear hs4 sM
   go_wp2_with fail
   refine hK.out _ _ (fun h=>absurd rfl h) (fun hS=> ?_)
   clear hS hK K
   try simp only[Act.put,List.setIfInBounds_toArray,List.set_cons_zero,List.set_cons_succ]
   refine aG (by kernel_rfl) ?_ _
   refine NoPanic.normal ?_
   go_wp2_with fail
   refine wp_region_noPanic ?_
   refine aH (last:=8) (S:=(fun w'=>w'.cell? ⟨p,3,none⟩=some (ptr y)∧w'.cell? ⟨z,0,none⟩=some (.int .i64 2))) (by kernel_rfl) ?_ (fun hS=> ?_)
   ·exact⟨q3,c0⟩
   refine aC 0 (hS:=hS) (h:= ?_)
   refine aC 1 (hS:=hS) (h:= ?_)
   refine aC 2 (hS:=hS) (h:= ?_)
   refine aC 3 (hS:=hS) (h:= ?_)
   refine aC 4 (hS:=hS) (h:= ?_)
   refine aC 5 (hS:=hS) (h:= ?_)
   refine aC 6 (hS:=hS) (h:= ?_)
   refine aC 7 (hS:=hS) (h:= ?_)
   refine dh 8 (h:=fun K hK=> ?_)
   go_simp
   (with_reducible refine(gY.OI (n_.out.grow (Below.refl _ _).drew) a1 m1 k1 l1 1 ((tJ kR.out I4.qI nY.out).below (Below.refl w4.heap.size w4).drew (Nat.le_refl _)) hk1 (by omega)).mono ?_)
   rintro e w5 ⟨rfl,o5,hs5,yQ⟩
   have xu:=Lib.hid (Step.behind n_.out.marks (Below.refl _ _).drew hs5)
   have yX:=Lib.hid yQ
   clear hs5 yQ
   go_wp2_with fail
   refine hK.out _ _ (fun h=>absurd rfl h) (fun hS=> ?_)
   clear hS hK K
   try simp only[Act.put,List.setIfInBounds_toArray,List.set_cons_zero,List.set_cons_succ]
   refine aG (by kernel_rfl) ?_ _
   refine NoPanic.normal ?_
   go_wp2_with fail
   go_ret
   have hkq:=hk.out
   refine⟨true,A,B,rfl,fun h=>⟨rfl,h⟩, .inr (.inr ⟨by omega,rfl⟩), .inr (.inr ⟨by omega,rfl⟩),?_⟩
   rw[Lv OJ.out.1,←AY.out,hkq]
   exact⟨o5,HST.out.trans (nY.out.trans xu.out),yX.out⟩
 ·have LA:q.kind≠1:=fun h=>xD (.inl h)
  have hkn2:q.kind≠2:=fun h=>xD (.inr h)
  clear xD
  by_cases hk:q.kind=3
  ·as_aux_lemma=>
   have HK:=Lib.hid hk
   have hkq:q.kind=3:=hk
   rw[hk]at c0
   have wX:Hid (∀w':World,w'.heap[z]? =w2.heap[z]? →w'.cell? ⟨z,0,none⟩=some (.int .i64 3)):=fun w' hw=>by rw[←hk];exact(Lx.out w' hw).1
   clear hk hkq LA hkn2
   skip
   go_wp2_with fail
   refine wp_region_noPanic ?_
   refine aH (last:=7) (S:=(fun w'=>w'.cell? ⟨p,1,none⟩=some (ptr t)∧w'.cell? ⟨z,2,none⟩=some (.int .i64 q.id)∧w'.cell? ⟨z,4,none⟩=some (.int .u64 q.aS))) (by kernel_rfl) ?_ (fun hS=> ?_)
   ·exact⟨q1,c2,c4⟩
   refine aC 0 (hS:=hS) (h:= ?_)
   refine aC 1 (hS:=hS) (h:= ?_)
   refine aC 2 (hS:=hS) (h:= ?_)
   refine aC 3 (hS:=hS) (h:= ?_)
   refine aC 4 (hS:=hS) (h:= ?_)
   refine aC 5 (hS:=hS) (h:= ?_)
   refine aC 6 (hS:=hS) (h:= ?_)
   refine dh 7 (h:=fun K hK=> ?_)
   go_simp
   (with_reducible refine(gY.append (HW2.out.grow (Below.refl _ _).drew) q.id ba bm bc (q.b.take 60) HWI.out (gZ.out.below (Below.refl w2.heap.size w2).drew (Nat.le_refl _)) (by omega)).mono ?_)
   rintro e w4 ⟨rfl,o4,hs4,sM⟩
   have nY:=Lib.hid (Step.behind HW2.out.marks (Below.refl _ _).drew hs4)
   have n_:=Lib.hid sM
   have H7:=Lib.hid (nY.out.same I4.qI HF.out)
   obtain⟨q0,q1,q2,q3⟩:=n_.out.cells
   obtain⟨c0,c2,c4⟩:=Lx.out w4 H7.out
   clear hs4 sM
   go_wp2_with fail
   refine hK.out _ _ (fun h=>absurd rfl h) (fun hS=> ?_)
   clear hS hK K
   try simp only[Act.put,List.setIfInBounds_toArray,List.set_cons_zero,List.set_cons_succ]
   refine aG (by kernel_rfl) ?_ _
   refine NoPanic.normal ?_
   go_wp2_with fail
   refine wp_region_noPanic ?_
   refine aH (last:=7) (S:=(fun w'=>w'.cell? ⟨p,3,none⟩=some (ptr y)∧w'.cell? ⟨z,2,none⟩=some (.int .i64 q.id)∧w'.cell? ⟨z,4,none⟩=some (.int .u64 q.aS))) (by kernel_rfl) ?_ (fun hS=> ?_)
   ·exact⟨q3,c2,c4⟩
   refine aC 0 (hS:=hS) (h:= ?_)
   refine aC 1 (hS:=hS) (h:= ?_)
   refine aC 2 (hS:=hS) (h:= ?_)
   refine aC 3 (hS:=hS) (h:= ?_)
   refine aC 4 (hS:=hS) (h:= ?_)
   refine aC 5 (hS:=hS) (h:= ?_)
   refine aC 6 (hS:=hS) (h:= ?_)
   refine dh 7 (h:=fun K hK=> ?_)
   go_simp
   (with_reducible refine(gY.NS (n_.out.grow (Below.refl _ _).drew) q.id ba bm bc (q.b.take 60) ((gZ.out.move (S':=Free o w2) nY.out.keep.size fun b hb hbw=>⟨hb,nY.out.same I4.qI hb⟩).below (Below.refl w4.heap.size w4).drew (Nat.le_refl _)) (fun b hb=>(nY.out.old b (NU hb)).trans (Free.zero hb)) (by omega)).mono ?_)
   rintro e w5 ⟨rfl,o5,hs5,yQ⟩
   have xu:=Lib.hid (Step.behind n_.out.marks (Below.refl _ _).drew hs5)
   have yX:=Lib.hid yQ
   clear hs5 yQ
   go_wp2_with fail
   refine hK.out _ _ (fun h=>absurd rfl h) (fun hS=> ?_)
   clear hS hK K
   try simp only[Act.put,List.setIfInBounds_toArray,List.set_cons_zero,List.set_cons_succ]
   refine aG (by kernel_rfl) ?_ _
   refine NoPanic.normal ?_
   go_wp2_with fail
   go_ret
   have hkq:=HK.out
   refine⟨true,A,B,rfl,fun h=>⟨rfl,h⟩, .inr (.inr ⟨by omega,rfl⟩), .inr (.inr ⟨by omega,rfl⟩),?_⟩
   rw[Rk (by omega)]
   exact⟨o5,HST.out.trans (nY.out.trans xu.out),yX.out⟩
  ·have Y_:q.kind≠3:=hk
   clear hk
   by_cases hk:q.kind=4
   ·as_aux_lemma=>
    have HK:=Lib.hid hk
    have hkq:q.kind=4:=hk
    rw[hk]at c0
    have wX:Hid (∀w':World,w'.heap[z]? =w2.heap[z]? →w'.cell? ⟨z,0,none⟩=some (.int .i64 4)):=fun w' hw=>by rw[←hk];exact(Lx.out w' hw).1
    clear hk hkq LA hkn2
    skip
    go_wp2_with fail
    refine wp_region_noPanic ?_
    refine aH (last:=9) (S:=(fun w'=>w'.cell? ⟨p,1,none⟩=some (ptr t)∧w'.cell? ⟨z,2,none⟩=some (.int .i64 q.id)∧w'.cell? ⟨z,4,none⟩=some (.int .u64 q.aS))) (by kernel_rfl) ?_ (fun hS=> ?_)
    ·exact⟨q1,c2,c4⟩
    refine aC 0 (hS:=hS) (h:= ?_)
    refine aC 1 (hS:=hS) (h:= ?_)
    refine aC 2 (hS:=hS) (h:= ?_)
    refine aC 3 (hS:=hS) (h:= ?_)
    refine aC 4 (hS:=hS) (h:= ?_)
    refine aC 5 (hS:=hS) (h:= ?_)
    refine aC 6 (hS:=hS) (h:= ?_)
    refine aC 7 (hS:=hS) (h:= ?_)
    refine aC 8 (hS:=hS) (h:= ?_)
    refine dh 9 (h:=fun K hK=> ?_)
    go_simp
    (with_reducible refine(gY.U3 (HW2.out.grow (Below.refl _ _).drew) q.id um HWI.out Y8.out).mono ?_)
    rintro e w4 ⟨rfl,o4,hs4,sM⟩
    have nY:=Lib.hid (Step.behind HW2.out.marks (Below.refl _ _).drew hs4)
    have n_:=Lib.hid sM
    have H7:=Lib.hid (nY.out.same I4.qI HF.out)
    obtain⟨q0,q1,q2,q3⟩:=n_.out.cells
    obtain⟨c0,c2,c4⟩:=Lx.out w4 H7.out
    clear hs4 sM
    go_wp2_with fail
    refine hK.out _ _ (fun h=>absurd rfl h) (fun hS=> ?_)
    clear hS hK K
    try simp only[Act.put,List.setIfInBounds_toArray,List.set_cons_zero,List.set_cons_succ]
    refine aG (by kernel_rfl) ?_ _
    refine NoPanic.normal ?_
    go_wp2_with fail
    refine wp_region_noPanic ?_
    refine aH (last:=9) (S:=(fun w'=>w'.cell? ⟨p,3,none⟩=some (ptr y)∧w'.cell? ⟨z,2,none⟩=some (.int .i64 q.id)∧w'.cell? ⟨z,4,none⟩=some (.int .u64 q.aS))) (by kernel_rfl) ?_ (fun hS=> ?_)
    ·exact⟨q3,c2,c4⟩
    refine aC 0 (hS:=hS) (h:= ?_)
    refine aC 1 (hS:=hS) (h:= ?_)
    refine aC 2 (hS:=hS) (h:= ?_)
    refine aC 3 (hS:=hS) (h:= ?_)
    refine aC 4 (hS:=hS) (h:= ?_)
    refine aC 5 (hS:=hS) (h:= ?_)
    refine aC 6 (hS:=hS) (h:= ?_)
    refine aC 7 (hS:=hS) (h:= ?_)
    refine aC 8 (hS:=hS) (h:= ?_)
    refine dh 9 (h:=fun K hK=> ?_)
    go_simp
    (with_reducible refine(gY.U4 (n_.out.grow (Below.refl _ _).drew) q.id um Y8.out).mono ?_)
    rintro e w5 ⟨rfl,o5,hs5,yQ⟩
    have xu:=Lib.hid (Step.behind n_.out.marks (Below.refl _ _).drew hs5)
    have yX:=Lib.hid yQ
    clear hs5 yQ
    go_wp2_with fail
    refine hK.out _ _ (fun h=>absurd rfl h) (fun hS=> ?_)
    clear hS hK K
    try simp only[Act.put,List.setIfInBounds_toArray,List.set_cons_zero,List.set_cons_succ]
    refine aG (by kernel_rfl) ?_ _
    refine NoPanic.normal ?_
    go_wp2_with fail
    go_ret
    have hkq:=HK.out
    refine⟨true,A,B,rfl,fun h=>⟨rfl,h⟩, .inr (.inr ⟨by omega,rfl⟩), .inr (.inr ⟨by omega,rfl⟩),?_⟩
    rw[Rl (by omega),←Y9.out]
    exact⟨o5,HST.out.trans (nY.out.trans xu.out),yX.out⟩
   ·have Za:q.kind≠4:=hk
    clear hk
    by_cases hk:q.kind=5
    ·as_aux_lemma=>
     have HK:=Lib.hid hk
     have hkq:q.kind=5:=hk
     rw[hk]at c0
     have wX:Hid (∀w':World,w'.heap[z]? =w2.heap[z]? →w'.cell? ⟨z,0,none⟩=some (.int .i64 5)):=fun w' hw=>by rw[←hk];exact(Lx.out w' hw).1
     clear hk hkq LA hkn2
     skip
     go_wp2_with fail
     (with_reducible refine(gY.unlink HW2.out a1 m1 k1 l1 kR.out hk1 (by omega)).mono ?_)
     rintro e w4 ⟨rfl,o4,hs4,sM⟩
     have nY:=Lib.hid hs4
     have n_:=Lib.hid sM
     have H7:=Lib.hid (nY.out.same I4.qI HF.out)
     obtain⟨q0,q1,q2,q3⟩:=n_.out.cells
     obtain⟨c0,c2,c4⟩:=Lx.out w4 H7.out
     clear hs4 sM
     go_wp2_with fail
     (with_reducible refine(gY.NT n_.out a1 m1 k1 l1 (tJ kR.out I4.qI nY.out) hk1 (by omega)).mono ?_)
     rintro e w5 ⟨rfl,o5,hs5,yQ⟩
     have xu:=Lib.hid hs5
     have yX:=Lib.hid yQ
     clear hs5 yQ
     go_wp2_with fail
     go_ret
     have hkq:=HK.out
     refine⟨true,A,B,rfl,fun h=>⟨rfl,h⟩, .inr (.inr ⟨by omega,rfl⟩), .inr (.inr ⟨by omega,rfl⟩),?_⟩
     rw[Rm (by omega),←AY.out]
     exact⟨o5,HST.out.trans (nY.out.trans xu.out),yX.out⟩
    ·have Zb:q.kind≠5:=hk
     clear hk
     by_cases hk:q.kind=6
     ·as_aux_lemma=>
      have HK:=Lib.hid hk
      have hkq:q.kind=6:=hk
      rw[hk]at c0
      have wX:Hid (∀w':World,w'.heap[z]? =w2.heap[z]? →w'.cell? ⟨z,0,none⟩=some (.int .i64 6)):=fun w' hw=>by rw[←hk];exact(Lx.out w' hw).1
      clear hk hkq LA hkn2
      clear c2 c4
      go_wp2_with fail
      refine wp_region_noPanic ?_
      refine aH (last:=13) (S:=(fun w'=>w'.cell? ⟨p,0,none⟩=some (ptr s)∧w'.cell? ⟨p,1,none⟩=some (ptr t))) (by kernel_rfl) ?_ (fun hS=> ?_)
      ·exact⟨q0,q1⟩
      refine aC 0 (hS:=hS) (h:= ?_)
      refine aC 1 (hS:=hS) (h:= ?_)
      refine aC 2 (hS:=hS) (h:= ?_)
      refine aC 3 (hS:=hS) (h:= ?_)
      refine aC 4 (hS:=hS) (h:= ?_)
      refine aC 5 (hS:=hS) (h:= ?_)
      refine aC 6 (hS:=hS) (h:= ?_)
      refine aC 7 (hS:=hS) (h:= ?_)
      refine dh 8 (h:=fun K hK=> ?_)
      go_simp
      (with_reducible refine(gY.take (HW2.out.grow (Below.refl _ _).drew) HNA.out).mono ?_)
      rintro e w4 ⟨rfl,o4,hs4,sM⟩
      have nY:=Lib.hid (Step.behind HW2.out.marks (Below.refl _ _).drew hs4)
      have n_:=Lib.hid sM
      obtain⟨q0,q1,q2,q3⟩:=n_.out.cells
      clear hs4 sM
      go_wp2_with fail
      refine hK.out _ _ (fun _=>⟨q0,q1⟩) (fun hS=> ?_)
      replace hS:=hS (by decide)
      clear hK K
      try simp only[Act.put,List.setIfInBounds_toArray,List.set_cons_zero,List.set_cons_succ]
      refine aC 9 (hS:=hS) (h:= ?_)
      refine aC 10 (hS:=hS) (h:= ?_)
      refine aC 11 (hS:=hS) (h:= ?_)
      refine aC 12 (hS:=hS) (h:= ?_)
      refine dh 13 (h:=fun K hK=> ?_)
      go_simp
      refine hK.out _ _ (fun h=>absurd rfl h) (fun hS=> ?_)
      clear hS hK K
      try simp only[Act.put,List.setIfInBounds_toArray,List.set_cons_zero,List.set_cons_succ]
      refine aG (by kernel_rfl) ?_ _
      refine NoPanic.normal ?_
      go_wp2_with fail
      refine wp_region_noPanic ?_
      refine aH (last:=13) (S:=(fun w'=>w'.cell? ⟨p,2,none⟩=some (ptr x)∧w'.cell? ⟨p,3,none⟩=some (ptr y))) (by kernel_rfl) ?_ (fun hS=> ?_)
      ·exact⟨q2,q3⟩
      refine aC 0 (hS:=hS) (h:= ?_)
      refine aC 1 (hS:=hS) (h:= ?_)
      refine aC 2 (hS:=hS) (h:= ?_)
      refine aC 3 (hS:=hS) (h:= ?_)
      refine aC 4 (hS:=hS) (h:= ?_)
      refine aC 5 (hS:=hS) (h:= ?_)
      refine aC 6 (hS:=hS) (h:= ?_)
      refine aC 7 (hS:=hS) (h:= ?_)
      refine dh 8 (h:=fun K hK=> ?_)
      go_simp
      (with_reducible refine(gY.U2 (n_.out.grow (Below.refl _ _).drew) HNB.out).mono ?_)
      rintro e w5 ⟨rfl,o5,hs5,yQ⟩
      have xu:=Lib.hid (Step.behind n_.out.marks (Below.refl _ _).drew hs5)
      have yX:=Lib.hid yQ
      obtain⟨q0,q1,q2,q3⟩:=yX.out.cells
      clear hs5 yQ
      go_wp2_with fail
      refine hK.out _ _ (fun _=>⟨q2,q3⟩) (fun hS=> ?_)
      replace hS:=hS (by decide)
      clear hK K
      try simp only[Act.put,List.setIfInBounds_toArray,List.set_cons_zero,List.set_cons_succ]
      refine aC 9 (hS:=hS) (h:= ?_)
      refine aC 10 (hS:=hS) (h:= ?_)
      refine aC 11 (hS:=hS) (h:= ?_)
      refine aC 12 (hS:=hS) (h:= ?_)
      refine dh 13 (h:=fun K hK=> ?_)
      go_simp
      refine hK.out _ _ (fun h=>absurd rfl h) (fun hS=> ?_)
      clear hS hK K
      try simp only[Act.put,List.setIfInBounds_toArray,List.set_cons_zero,List.set_cons_succ]
      refine aG (by kernel_rfl) ?_ _
      refine NoPanic.normal ?_
      have ig:Hid (∀b,(A=B→b=true)→DK W o w p s t x y q A T B (.returned (.bool b)) w5):=fun b hb=>by
       have hkq:=HK.out
       refine⟨b,(bW A T).2,(bW B T).2,rfl,fun h=>⟨hb h,by rw[h]⟩, .inl ⟨hkq,rfl⟩, .inl ⟨hkq,rfl⟩,?_⟩
       rw[BF (by omega)]
       exact⟨o5,HST.out.trans (nY.out.trans xu.out),yX.out⟩
      have wN:Hid (A=B→(bW A T).1.1=(bW B T).1.1∧(bW A T).1.2=(bW B T).1.2):=fun h=>by rw[h];exact⟨rfl,rfl⟩
      generalize (bW A T).1.1=va at*
      generalize (bW B T).1.1=vb at*
      generalize (bW A T).1.2=ea at*
      generalize (bW B T).1.2=eb at*
      by_cases hv:va=vb
      ·have hv1:(va==vb)=true:=by simpa using hv
       have hv2:decide (va=vb)=true:=by simpa using hv
       have hv3:(va !=vb)=false:=by simpa using hv
       clear hv
       by_cases he:ea=eb
       ·have he1:(ea==eb)=true:=by simpa using he
        have he2:decide (ea=eb)=true:=by simpa using he
        have Zc:(ea !=eb)=false:=by simpa using he
        clear he
        go_wp2_with fail
        go_ret
        exact ig.out true fun _=>rfl
       ·have he1:(ea==eb)=false:=by simpa using he
        have he2:decide (ea=eb)=false:=by simpa using he
        have Zc:(ea !=eb)=true:=by simpa using he
        have fV:=Lib.hid he
        clear he
        go_wp2_with fail
        go_ret
        exact ig.out false fun h=>absurd (wN.out h).2 fV.out
      ·have hv1:(va==vb)=false:=by simpa using hv
       have hv2:decide (va=vb)=false:=by simpa using hv
       have hv3:(va !=vb)=true:=by simpa using hv
       have fV:=Lib.hid hv
       clear hv
       go_wp2_with fail
       go_ret
       exact ig.out false fun h=>absurd (wN.out h).1 fV.out
     ·have Zd:q.kind≠6:=hk
      clear hk
      as_aux_lemma=>
      have Vy:Hid (q.kind<1∨6<q.kind):=by show q.kind<1∨6<q.kind;omega
      have hb1:(q.kind==1)=false:=by simpa using LA
      have hb2:(q.kind==2)=false:=by simpa using hkn2
      have hb3:(q.kind==3)=false:=by simpa using Y_
      have hb4:(q.kind==4)=false:=by simpa using Za
      have hb5:(q.kind==5)=false:=by simpa using Zb
      have hb6:(q.kind==6)=false:=by simpa using Zd
      go_wp2_with fail
      refine wp_region_noPanic ?_
      refine aH (last:=20) (S:=(fun w'=>w'.cell? ⟨p,0,none⟩=some (ptr s)∧w'.cell? ⟨p,2,none⟩=some (ptr x)∧w'.cell? ⟨z,2,none⟩=some (.int .i64 q.id)∧w'.cell? ⟨z,4,none⟩=some (.int .u64 q.aS))) (by kernel_rfl) ?_ (fun hS=> ?_)
      ·exact⟨q0,q2,c2,c4⟩
      refine aC 0 (hS:=hS) (h:= ?_)
      refine aC 1 (hS:=hS) (h:= ?_)
      refine aC 2 (hS:=hS) (h:= ?_)
      refine aC 3 (hS:=hS) (h:= ?_)
      refine aC 4 (hS:=hS) (h:= ?_)
      refine aC 5 (hS:=hS) (h:= ?_)
      refine aC 6 (hS:=hS) (h:= ?_)
      refine aC 7 (hS:=hS) (h:= ?_)
      refine aC 8 (hS:=hS) (h:= ?_)
      refine aC 10 (hS:=hS) (h:= ?_)
      refine aC 11 (hS:=hS) (h:= ?_)
      refine aC 12 (hS:=hS) (h:= ?_)
      refine aC 13 (hS:=hS) (h:= ?_)
      refine aC 14 (hS:=hS) (h:= ?_)
      refine aC 15 (hS:=hS) (h:= ?_)
      refine aC 16 (hS:=hS) (h:= ?_)
      refine aC 17 (hS:=hS) (h:= ?_)
      refine aC 18 (hS:=hS) (h:= ?_)
      refine dh 9 (h:=fun K hK=> ?_)
      go_simp
      (with_reducible refine(gY.forget (HW2.out.grow (Below.refl _ _).drew) q.id um).mono ?_)
      rintro e w4 ⟨ea,A',rfl,hfA,o4,hs4,sM⟩
      have nY:=Lib.hid (Step.behind HW2.out.marks (Below.refl _ _).drew hs4)
      have n_:=Lib.hid sM
      have V9:=Lib.hid hfA
      have H7:=Lib.hid (nY.out.same I4.qI HF.out)
      obtain⟨q0,q1,q2,q3⟩:=n_.out.cells
      obtain⟨c0,c2,c4⟩:=Lx.out w4 H7.out
      clear hs4 sM hfA
      go_wp2_with fail
      refine hK.out _ _ (fun _=>⟨q0,q2,c2,c4⟩) (fun hS=> ?_)
      replace hS:=hS (by decide)
      clear hK K
      try simp only[Act.put,List.setIfInBounds_toArray,List.set_cons_zero,List.set_cons_succ]
      refine dh 19 (h:=fun K hK=> ?_)
      go_simp
      (with_reducible refine(gY.NR n_.out q.id um).mono ?_)
      rintro e w5 ⟨eb,B',rfl,hfB,o5,hs5,yQ⟩
      have xu:=Lib.hid hs5
      have yX:=Lib.hid yQ
      have HFB:=Lib.hid hfB
      have XB:=Lib.hid ((xu.out.same I4.qI (show Free o4 w4 z from⟨(nY.out.old z hz2).trans HF.out.1,Nat.lt_of_lt_of_le hz2 nY.out.keep.size⟩)).trans H7.out)
      obtain⟨q0,q1,q2,q3⟩:=yX.out.cells
      obtain⟨c0,c2,c4⟩:=Lx.out w5 XB.out
      clear hs5 yQ hfB
      go_wp2_with fail
      refine hK.out _ _ (fun _=>⟨q0,q2,c2,c4⟩) (fun hS=> ?_)
      replace hS:=hS (by decide)
      clear hK K
      try simp only[Act.put,List.setIfInBounds_toArray,List.set_cons_zero,List.set_cons_succ]
      refine dh 20 (h:=fun K hK=> ?_)
      go_simp
      refine hK.out _ _ (fun h=>absurd rfl h) (fun hS=> ?_)
      clear hS hK K
      try simp only[Act.put,List.setIfInBounds_toArray,List.set_cons_zero,List.set_cons_succ]
      refine aG (by kernel_rfl) ?_ _
      refine NoPanic.normal ?_
      have wN:Hid (A=B→ea=eb∧A'=B'):=fun h=>by
       have hb:=HFB.out
       rw[←h]at hb
       exact wR V9.out hb
      have ig:Hid (∀b,(A=B→b=true)→DK W o w p s t x y q A T B (.returned (.bool b)) w5):=fun b hb=>by
       have hkq:=Vy.out
       refine⟨b,A',B',rfl,fun h=>⟨hb h,(wN.out h).2⟩, .inr (.inl ⟨hkq,ea,by rw[←Y9.out];exact V9.out⟩), .inr (.inl ⟨hkq,eb,by rw[←Y9.out];exact HFB.out⟩),?_⟩
       rw[BF (by omega)]
       exact⟨o5,HST.out.trans (nY.out.trans xu.out),yX.out⟩
      by_cases he:ea=eb
      ·have he1:(ea==eb)=true:=by simpa using he
       have he2:decide (ea=eb)=true:=by simpa using he
       have Zc:(ea !=eb)=false:=by simpa using he
       clear he
       go_wp2_with fail
       go_ret
       exact ig.out true fun _=>rfl
      ·have he1:(ea==eb)=false:=by simpa using he
       have he2:decide (ea=eb)=false:=by simpa using he
       have Zc:(ea !=eb)=true:=by simpa using he
       have fV:=Lib.hid he
       clear he
       go_wp2_with fail
       go_ret
       exact ig.out false fun h=>absurd (wN.out h).1 fV.out
end
def oZ (S:iC) (id:Int):Option dQ:=S.l.find? fun x=>decide (x.id=id)
theorem rF.none_ {S:iC} {id:Int} (h:∀x∈S.l,x.id≠id):oZ S id=none:=by
 unfold oZ
 rw[List.find?_eq_none]
 intro x hx
 simpa using h x hx
theorem rF.some_:∀{l:List dQ} {id:Int} {k:Nat} {x:dQ},l[k]? =some x→x.id=id→(∀x'∈l.take k,x'.id≠id)→l.find? (fun x=>decide (x.id=id))=some x
 |[],_,k,x,h,_,_=>by simp at h
 |y::r,id,0,x,h,h1,_=>by
  have e:y=x:=by simpa using h
  subst e
  simp[h1]
 |y::r,id,k+1,x,h,h1,h2=>by
  have hy:y.id≠id:=h2 y (by simp)
  rw[List.find?_cons_of_neg (by simpa using hy)]
  exact rF.some_ (k:=k) (by simpa using h) h1 fun x' hx'=>h2 x' (by simp[hx'])
def Ro (o:Mark) (w:World) (S:iC) (id:Int) (e:Ending) (w':World):Prop:=
 Below w.heap.size w w'∧((oZ S id=none∧e= .returned (.tuple #[.pointer none, .bool false]))∨∃x q,oZ S id=some x∧e= .returned (.tuple #[ptr q, .bool true])∧eU o 0 w' q x.t∧dR x.t)
section
variable {W w:World} {o:Mark} {i s:Nat} {S:iC}
set_option maxRecDepth 100000 in
set_option maxHeartbeats 4000000 in
theorem zU (hS:dX o i w s S) (hM:Marks W o w) (zY:S.l.length≤1000) (id:Int):Calls Tryz.prog 39 #[ptr s, .int .i64 id] w (Ro o w S id):=by
 have HM:=Lib.hid hM
 obtain⟨v,la,lc,vals,h1,h2,h3,h4,h5,h6,h7,h8⟩:=hS.at_
 obtain⟨a,c,rfl,hcap⟩:=bQ h4
 obtain⟨-,-,hrow⟩:=ak.jO h4 (by unfold maxLen;omega)
 have HF:=Lib.hid (vO hS id zY)
 have HH:=Lib.hid h1
 have uR:=Lib.hid h6
 have gZ:=Lib.hid hrow
 obtain⟨n,hn⟩:∃n,n=S.l.length:=⟨_,rfl⟩
 have HN:=Lib.hid hn
 rw[←hn]at hcap zY
 clear hS hM h1 h2 h4 h5 h6 h7 h8 hrow hn
 go_enter Tryz.func39,Tryz.ntmps39
 go_wp2_with fail
 (with_reducible refine HF.out.mono ?_)
 rintro e w1 ⟨v,rfl,hf,hb1⟩
 have HB1:=Lib.hid hb1
 clear hb1
 rcases hf with⟨rfl,hno⟩|⟨k,x,rfl,hx,hid,hno⟩
 ·have Em:=Lib.hid hno
  clear hno
  go_wp2_with fail
  go_ret2
  exact⟨HB1.out, .inl ⟨rF.none_ Em.out,rfl⟩⟩
 ·have hkn:k<n:=by rw[HN.out];exact(List.getElem?_eq_some_iff.1 hx).1
  have HRW:=gZ.out
  rw[←HN.out]at HRW
  obtain⟨g,off,rfl,hgw,_,hcell⟩:=HRW.at_ (by omega)
  obtain⟨ha,hcp,q,e0,e1,e2,e3,e4,e5,e6⟩:=uR.out.at_ hx
  have d2:w1.cell? ⟨g,off+k*3+2,none⟩=some (ptr q):=(HB1.out.cell (p:=⟨g,off+k*3+2,none⟩) hgw.2).trans ((hcell (k*3+2) (by omega)).trans e2)
  have hbS:=HB1.out.block s h3
  have c0:w1.cell? ⟨s,0,none⟩=some (.slice (some ⟨g,off,none⟩) n c):=by
   have:=hbS.trans HH.out
   rw[HN.out]
   simp[World.cell?,this]
  have Ei:=Lib.hid (HM.out.step (I:=fun _=>False) (fun e=>e) (Step.grow HM.out HB1.out))
  have OW:=Lib.hid (I8 (e5.grow HB1.out) Ei.out e6)
  have L9:=Lib.hid (rF.some_ hx hid hno)
  have Y7:=Lib.hid e6
  have hneg:¬((k:Int)<0):=by omega
  have i0:(0:Int)≤k:=by omega
  have i1:(k:Int)<n:=by omega
  clear hx hid hno hcell e0 e1 e2 e3 e4 e5 e6 HRW hbS
  go_wp2_with fail
  (with_reducible refine OW.out.mono ?_)
  rintro e w2 ⟨q2,rfl,Am,hb2⟩
  have HT2:=Lib.hid Am
  have HB2:=Lib.hid (HB1.out.trans (hb2.mono HB1.out.size))
  clear Am hb2
  go_wp2_with fail
  go_ret2
  exact⟨HB2.out, .inr ⟨x,q2,L9.out,rfl,HT2.out,Y7.out⟩⟩
end
def NV (w:World) (S:iC) (id:Int) (e:Ending) (w':World):Prop:=
 Below w.heap.size w w'∧((oZ S id=none∧e= .returned (.tuple #[.slice none 0 0, .bool false]))∨∃x a c,oZ S id=some x∧e= .returned (.tuple #[.slice a x.hash.length c, .bool true])∧ak (fun b=>w.heap.size≤b∧b<w'.heap.size) w' a x.hash.length (x.hash.map bv)∧x.hash.length≤c)
section
variable {W w:World} {o:Mark} {i s:Nat} {S:iC}
set_option maxRecDepth 100000 in
set_option maxHeartbeats 4000000 in
theorem wU (hS:dX o i w s S) (zY:S.l.length≤1000) (hh:∀x∈S.l,x.hash.length≤64) (id:Int):Calls Tryz.prog 40 #[ptr s, .int .i64 id] w (NV w S id):=by
 obtain⟨v,la,lc,vals,h1,h2,h3,h4,h5,h6,h7,h8⟩:=hS.at_
 obtain⟨a,c,rfl,hcap⟩:=bQ h4
 obtain⟨-,-,hrow⟩:=ak.jO h4 (by unfold maxLen;omega)
 have HF:=Lib.hid (vO hS id zY)
 have HH:=Lib.hid h1
 have uR:=Lib.hid h6
 have gZ:=Lib.hid hrow
 have HHH:=Lib.hid hh
 obtain⟨n,hn⟩:∃n,n=S.l.length:=⟨_,rfl⟩
 have HN:=Lib.hid hn
 rw[←hn]at hcap zY
 clear hS h1 h2 h4 h5 h6 h7 h8 hrow hn hh
 go_enter Tryz.func40,Tryz.ntmps40
 go_wp2_with fail
 (with_reducible refine HF.out.mono ?_)
 rintro e w1 ⟨v,rfl,hf,hb1⟩
 have HB1:=Lib.hid hb1
 clear hb1
 rcases hf with⟨rfl,hno⟩|⟨k,x,rfl,hx,hid,hno⟩
 ·have Em:=Lib.hid hno
  clear hno
  go_wp2_with fail
  go_ret2
  exact⟨HB1.out, .inl ⟨rF.none_ Em.out,rfl⟩⟩
 ·have hkn:k<n:=by rw[HN.out];exact(List.getElem?_eq_some_iff.1 hx).1
  have HRW:=gZ.out
  rw[←HN.out]at HRW
  obtain⟨g,off,rfl,hgw,_,hcell⟩:=HRW.at_ (by omega)
  obtain⟨ha,hcp,q,e0,e1,e2,e3,e4,e5,e6⟩:=uR.out.at_ hx
  have Ze:=HHH.out x (List.mem_of_getElem? hx)
  obtain⟨m,hm⟩:∃m,m=x.hash.length:=⟨_,rfl⟩
  rw[←hm]at e1 e3 e4 Ze
  have d1:w1.cell? ⟨g,off+k*3+1,none⟩=some (.slice ha m hcp):=(HB1.out.cell (p:=⟨g,off+k*3+1,none⟩) hgw.2).trans ((hcell (k*3+1) (by omega)).trans e1)
  have hbS:=HB1.out.block s h3
  have c0:w1.cell? ⟨s,0,none⟩=some (.slice (some ⟨g,off,none⟩) n c):=by
   have:=hbS.trans HH.out
   rw[HN.out]
   simp[World.cell?,this]
  have SE:=Lib.hid (vR ha m hcp x.hash w1 (by omega) (e4.below HB1.out (Nat.le_refl _)))
  have L9:=Lib.hid (rF.some_ hx hid hno)
  have HM:=Lib.hid hm
  have hneg:¬((k:Int)<0):=by omega
  have i0:(0:Int)≤k:=by omega
  have i1:(k:Int)<n:=by omega
  clear hx hid hno hcell e0 e1 e2 e3 e4 e5 e6 HRW hbS hm
  go_wp2_with fail
  (with_reducible refine SE.out.mono ?_)
  rintro e w2 ⟨v2,rfl,hown2,hb2⟩
  obtain⟨a2,c2,rfl,LB⟩:=bQ hown2
  have hr2:=(ak.ku hown2).2
  have HR2:=Lib.hid hr2
  have HB2:=Lib.hid (HB1.out.trans (hb2.mono HB1.out.size))
  have HAC:=Lib.hid LB
  clear hown2 hb2 hr2 LB
  go_wp2_with fail
  go_ret2
  have hs1:=HB1.out.size
  refine⟨HB2.out, .inr ⟨x,a2,c2,L9.out,rfl,HR2.out.mono fun b hb=>⟨by omega,hb.2⟩,HAC.out⟩⟩
end
end Go.Proofs.YtohpcppeajijnaaGreat
