/- permafrostlaw13: do, over the snapshots and the reference's. package snap: Get. package snap: Hash. Snapshots that were taken, plainly: their IDs rise, from 1 on. A drawn region: an operation that its guard does not want, in one line. permafrostlaw13: same. The codec's reader, as plain data. What Load of package tree reads, plainly. -/
import Derived.Test.YtjnhnlabpccgjaaGreatM35
import Derived.Test.YtjnhnlabpccgjaaGreatM18
import Derived.Test.YtjnhnlabpccgjaaGreatM16
import Derived.Test.YtjnhnlabpccgjaaGreatM21
import Derived.Test.YtjnhnlabpccgjaaGreatM33
import Derived.Test.YtjnhnlabpccgjaaGreatM34
import Derived.Test.YtjnhnlabpccgjaaGreatM19
import Derived.Test.YtjnhnlabpccgjaaGreatM04
import Derived.Test.YtjnhnlabpccgjaaGreatM22
namespace Go.Proofs.YtjnhnlabpccgjaaGreat
open Go.ChangeShapes Go.WideShapes Go.ChangeAt Go.RowKit
set_option linter.unusedVariables false
set_option linter.unusedSimpArgs false
def xR (x:wD) (T:aA):aA:=
 if x.kind=1∨x.kind=2 then(dK T (mG x.P) (3-x.kind)).2 else
 if x.kind=3 then(bT T x.id (x.b.take 60)).2 else
 if x.kind=4 then(fC T x.id (x.aP%20)).2 else
 if x.kind=5 then(bJ T (mG x.P)).2 else T
theorem P7 {x:wD} (h:x.kind=1∨x.kind=2) (T:aA):xR x T=(dK T (mG x.P) (3-x.kind)).2:=by unfold xR;rw[if_pos h]
theorem WT {x:wD} (h:x.kind=3) (T:aA):xR x T=(bT T x.id (x.b.take 60)).2:=by unfold xR;rw[if_neg (by omega),if_pos h]
theorem WU {x:wD} (h:x.kind=4) (T:aA):xR x T=(fC T x.id (x.aP%20)).2:=by unfold xR;rw[if_neg (by omega),if_neg (by omega),if_pos h]
theorem WV {x:wD} (h:x.kind=5) (T:aA):xR x T=(bJ T (mG x.P)).2:=by unfold xR;rw[if_neg (by omega),if_neg (by omega),if_neg (by omega),if_pos h]
theorem Fy {x:wD} (h:x.kind<1∨5<x.kind) (T:aA):xR x T=T:=by unfold xR;rw[if_neg (by omega),if_neg (by omega),if_neg (by omega),if_neg (by omega)]
def P8 (x:wD) (T:aA) (A A':jc):Prop:=
 (x.kind=6∧A'=(dI A T).2)∨((x.kind<1∨6<x.kind)∧∃er,jJ A x.id (x.aP%20) er A')∨((1≤x.kind∧x.kind≤5)∧A'=A)
def Ip (W:World) (o:Mark) (w:World) (p s t x y:Nat) (q:wD) (A:jc) (T:aA) (B:jc) (e:Ending) (w':World):Prop:=
 ∃b A' B',e= .returned (.bool b)∧(A=B→b=true∧A'=B')∧P8 q T A A'∧P8 q T B B'∧sH W o w p s t x y A' (xR q T) B' (xR q T) w'
def rO (ba:Option Addr) (bn bc:Nat) (x:wD):Array Value:= #[.int .i64 x.kind, .int .i64 x.P, .int .i64 x.id, .slice ba bn bc, .int .u64 x.aP]
theorem tY {w:World} {q bn bc:Nat} {ba:Option Addr} {x:wD} (h:w.heap[q]? =some (.cells (rO ba bn bc x) 29 (0,0))):w.cell? ⟨q,0,none⟩=some (.int .i64 x.kind)∧w.cell? ⟨q,1,none⟩=some (.int .i64 x.P)∧w.cell? ⟨q,2,none⟩=some (.int .i64 x.id)∧w.cell? ⟨q,3,none⟩=some (.slice ba bn bc)∧w.cell? ⟨q,4,none⟩=some (.int .u64 x.aP):=by
 unfold rO at h
 refine⟨?_,?_,?_,?_,?_⟩<;>simp[World.cell?,h]
section
variable {W w:World} {o:Mark} {p s t x y:Nat} {A B:jc} {T:aA}
theorem sH.behind {U:aA} {w1 w2:World} {o1:Mark} (hs:Step o I4 w o1 w1) (h:sH W o1 w1 p s t x y A T B U w2):sH W o w p s t x y A T B U w2:=by
 obtain⟨o2,h1,h2⟩:=h
 exact⟨o2,hs.trans h1,h2⟩
theorem Fz (h:jC W o w p s t x y A T B T) {b:Nat} (hb:b<W.heap.size):Free o w b:=⟨Decidable.byContradiction fun h0=>by have:=(h.marks.new b h0).1;omega,Nat.lt_of_lt_of_le hb h.marks.below.size⟩
theorem SY {b:Nat} (h:Free o w b):b<w.heap.size:=h.2
theorem jC.zero {U:aA} (h:jC W o w p s t x y A T B U) {b:Nat} (hb:w.heap.size≤b):o b=0:=Decidable.byContradiction fun h0=>by have:=(h.marks.new b h0).2;omega
set_option maxRecDepth 100000 in
set_option maxHeartbeats 32000000 in
theorem P9 (q:wD) (ba:Option Addr) (bn bc:Nat) (h:jC W o w p s t x y A T B T) (hA:A.next≤1000000000) (hB:B.next≤1000000000) (hwp:(Lit.int .i64 q.P).wf=true) (hwi:(Lit.int .i64 q.id).wf=true) (hwk:(Lit.int .i64 q.kind).wf=true) (hwu:0≤q.aP∧q.aP≤18446744073709551615) (hbr:ah (fun b=>b<W.heap.size) w ba bn (q.b.map bv)) (hbc:bn≤bc) (hbl:bn≤140737488351232):
  Calls Tryz.prog 6 #[ptr p, .agg (rO ba bn bc q)] w (Ip W o w p s t x y q A T B):=by
 have HH:=Lib.hid h
 have xK:=Lib.hid hbr
 have HWP:=Lib.hid hwp
 have HWI:=Lib.hid hwi
 have XC:=Lib.hid hwk
 have HNA:=Lib.hid hA
 have HNB:=Lib.hid hB
 have HWU:=Lib.hid hwu
 clear h hbr hwp hwi hwk hA hB hwu
 unfold rO
 go_enter Tryz.func6,Tryz.ntmps6
 go_upto_region 1 with(fail)
 have hha:(w.alloc (.cells (rO ba bn bc q) 29)).heap[w.heap.size]? =some (.cells (rO ba bn bc q) 29):=(MapKept.heap_alloc w _).1
 have hBa:Below w.heap.size w (w.alloc (.cells (rO ba bn bc q) 29)):=wall w _
 have hza:(w.alloc (.cells (rO ba bn bc q) 29)).heap.size=w.heap.size+1:=by simp
 unfold rO at hha hBa hza
 generalize (w.alloc (.cells #[.int .i64 q.kind, .int .i64 q.P, .int .i64 q.id, .slice ba bn bc, .int .u64 q.aP] 29))=w1 at*
 obtain⟨z,hz⟩:∃z,z=w.heap.size:=⟨_,rfl⟩
 rw[←hz]at hha⊢
 have HHA:Hid (w1.heap[z]? =some (.cells (rO ba bn bc q) 29 (0,0))):=hha
 obtain⟨c0,c1,c2,c3,c4⟩:=tY HHA.out
 have tH:=Lib.hid hBa
 have HZE:=Lib.hid hz
 have hzw:z<w1.heap.size:=by omega
 clear hha hBa hz c0 c2 c3 c4
 go_wp2_with fail
 (with_reducible refine(L_ _ HWP.out _).mono ?_)
 rintro e w2 ⟨a1,k1,rfl,hk1,hs1,hb2⟩
 have HH2:=Lib.hid ((hb2.block z hzw).trans HHA.out)
 have HB2:=Lib.hid (tH.out.trans (hb2.mono (by have:=tH.out.size;omega)))
 have HW2:=Lib.hid (HH.out.grow HB2.out)
 have hz2:z<w2.heap.size:=by have:=hb2.size;omega
 have HF:Hid (Free o w2 z):=⟨HH.out.zero (by have:=HZE.out;omega),hz2⟩
 have pK:Hid (bB (Free o w2) w2 a1 (mG q.P).length ((mG q.P).map strOf)):=hs1.mono fun b hb=>⟨HH.out.zero (by have:=tH.out.size;omega),hb.2⟩
 have HRW:Hid (ah (Free o w2) w2 ba bn (q.b.map bv)):=(xK.out.below HB2.out (Nat.le_refl _)).mono fun b hb=>⟨(Fz HH.out hb).1,Nat.lt_of_lt_of_le (Fz HH.out hb).2 HB2.out.size⟩
 have hn1:=Dx q.P
 obtain⟨l1,hl1⟩:∃l,l=mG q.P:=⟨_,rfl⟩
 rw[←hl1]at pK hk1 hn1⊢
 have Df:=Lib.hid hl1
 obtain⟨m1,hm1⟩:∃m,m=l1.length:=⟨_,rfl⟩
 rw[←hm1]at pK hk1 hn1⊢
 obtain⟨c0,c1',c2,c3,c4⟩:=tY HH2.out
 clear hs1 hb2 c1 hl1 hm1
 go_wp2_with fail
 have YZ:Hid (∀wz:World,Calls Tryz.prog 12 #[.slice ba bn bc, .int .i64 60] wz fun e w'=>e= .returned (.slice ba (min bn 60) bc)∧wz=w'):=fun wz=>JE ba bn bc 60 hbc (by omega) (by unfold maxLen;omega) wz
 (with_reducible refine(YZ.out _).mono ?_)
 rintro e w3 ⟨rfl,rfl⟩
 have lS:Hid (ah (Free o w2) w2 ba (min bn 60) ((q.b.take 60).map bv)):=by
  have:=HRW.out.take 60
  rwa [←List.map_take]at this
 have hbn60:min bn 60≤60:=Nat.min_le_right _ _
 generalize min bn 60=bm at*
 obtain⟨q0,q1,q2,q3⟩:=HW2.out.cells
 have P_:Hid (∀w':World,w'.heap[z]? =w2.heap[z]? →w'.cell? ⟨z,0,none⟩=some (.int .i64 q.kind)∧w'.cell? ⟨z,2,none⟩=some (.int .i64 q.id)∧w'.cell? ⟨z,4,none⟩=some (.int .u64 q.aP)):=fun w' hw=>by
  obtain⟨e0,e1,e2,e3,e4⟩:=tY (hw.trans HH2.out)
  exact⟨e0,e2,e4⟩
 have HST:Hid (Step o I4 w o w2):=Step.grow HH.out.marks HB2.out
 have eu0:0≤q.aP:=HWU.out.1
 have hum:0≤q.aP%20∧q.aP%20≤18446744073709551615:=by have:=HWU.out;omega
 have eut:q.aP.tmod 20=q.aP%20:=Int.tmod_eq_emod_of_nonneg eu0
 have HUM:=Lib.hid hum
 obtain⟨um,WW⟩:∃um,um=q.aP%20:=⟨_,rfl⟩
 rw[←WW]at eut HUM
 have HUE:=Lib.hid WW
 have Vy:=Lib.hid (fun h:A=B=>h)
 clear c1' c3 WW hum eu0
 by_cases Bg:q.kind=1∨q.kind=2
 ·as_aux_lemma=>
  have hw3:IntKind.i64.wrap (3-q.kind)=3-q.kind:=IntWalk.i64_in _ (by omega)
  obtain⟨kd,hkd⟩:∃kd,kd=3-q.kind:=⟨_,rfl⟩
  have hkk:q.kind=3-kd:=by omega
  have hkr:kd=1∨kd=2:=by omega
  have hw3b:IntKind.i64.wrap (3-(3-kd))=kd:=by rw[show 3-(3-kd)=kd by omega];exact IntWalk.i64_in _ (by omega)
  have HKD:=Lib.hid hkd
  have UC:=Lib.hid (And.intro Bg hkk)
  clear hkk
  rcases Bg with hk1|hk1
  ·have hk:=Lib.hid hk1
   have hkd1:kd=2:=by omega
   rw[hk1]at c0
   have w_:Hid (∀w':World,w'.heap[z]? =w2.heap[z]? →w'.cell? ⟨z,0,none⟩=some (.int .i64 1)):=fun w' hw=>by rw[←hk1];exact(P_.out w' hw).1
   clear hw3 hw3b hkd hk1 hkr
   have ewk:IntKind.i64.wrap 2=2:=by kernel_rfl
   go_wp2_with fail
   refine qF 8 ((fun w'=>w'.cell? ⟨p,1,none⟩=some (ptr t)∧w'.cell? ⟨z,0,none⟩=some (.int .i64 1))) ?_ fun hS=> ?_
   ·exact⟨q1,c0⟩
   refine ak 0 hS ?_
   refine ak 1 hS ?_
   refine ak 2 hS ?_
   refine ak 3 hS ?_
   refine ak 4 hS ?_
   refine ak 5 hS ?_
   refine ak 6 hS ?_
   refine ak 7 hS ?_
   refine bK 8 fun K hK=> ?_
   go_simp
   (with_reducible refine(jC.make (HW2.out.grow (Below.refl _ _).drew) a1 m1 k1 l1 2 (pK.out.below (Below.refl w2.heap.size w2).drew (Nat.le_refl _)) hk1 (by omega)).mono ?_)
   rintro e w4 ⟨rfl,o4,hs4,vS⟩
   have pI:=Lib.hid (Step.behind HW2.out.marks (Below.refl _ _).drew hs4)
   have qZ:=Lib.hid vS
   have MW:=Lib.hid (pI.out.same I4.Ac HF.out)
   obtain⟨q0,q1,q2,q3⟩:=qZ.out.cells
   have c0:=w_.out w4 MW.out
   clear hs4 vS
   go_wp2_with fail
   refine j_ hK ?_
   clear hS hK K
   go_wp2_with fail
   refine qF 8 ((fun w'=>w'.cell? ⟨p,3,none⟩=some (ptr y)∧w'.cell? ⟨z,0,none⟩=some (.int .i64 1))) ?_ fun hS=> ?_
   ·exact⟨q3,c0⟩
   refine ak 0 hS ?_
   refine ak 1 hS ?_
   refine ak 2 hS ?_
   refine ak 3 hS ?_
   refine ak 4 hS ?_
   refine ak 5 hS ?_
   refine ak 6 hS ?_
   refine ak 7 hS ?_
   refine bK 8 fun K hK=> ?_
   go_simp
   (with_reducible refine(jC.UA (qZ.out.grow (Below.refl _ _).drew) a1 m1 k1 l1 2 ((wE pK.out I4.Ac pI.out).below (Below.refl w4.heap.size w4).drew (Nat.le_refl _)) hk1 (by omega)).mono ?_)
   rintro e w5 ⟨rfl,o5,hs5,Ck⟩
   have yc:=Lib.hid (Step.behind qZ.out.marks (Below.refl _ _).drew hs5)
   have AA:=Lib.hid Ck
   clear hs5 Ck
   go_wp2_with fail
   refine j_ hK ?_
   clear hS hK K
   go_wp2_with fail
   go_ret
   have hkq:=hk.out
   refine⟨true,A,B,rfl,fun h=>⟨rfl,h⟩, .inr (.inr ⟨by omega,rfl⟩), .inr (.inr ⟨by omega,rfl⟩),?_⟩
   rw[P7 UC.out.1,←Df.out,hkq]
   exact⟨o5,HST.out.trans (pI.out.trans yc.out),AA.out⟩
  ·have hk:=Lib.hid hk1
   have hkd2:kd=1:=by omega
   rw[hk1]at c0
   have w_:Hid (∀w':World,w'.heap[z]? =w2.heap[z]? →w'.cell? ⟨z,0,none⟩=some (.int .i64 2)):=fun w' hw=>by rw[←hk1];exact(P_.out w' hw).1
   clear hw3 hw3b hkd hk1 hkr
   have ewk:IntKind.i64.wrap 1=1:=by kernel_rfl
   go_wp2_with fail
   refine qF 8 ((fun w'=>w'.cell? ⟨p,1,none⟩=some (ptr t)∧w'.cell? ⟨z,0,none⟩=some (.int .i64 2))) ?_ fun hS=> ?_
   ·exact⟨q1,c0⟩
   refine ak 0 hS ?_
   refine ak 1 hS ?_
   refine ak 2 hS ?_
   refine ak 3 hS ?_
   refine ak 4 hS ?_
   refine ak 5 hS ?_
   refine ak 6 hS ?_
   refine ak 7 hS ?_
   refine bK 8 fun K hK=> ?_
   go_simp
   (with_reducible refine(jC.make (HW2.out.grow (Below.refl _ _).drew) a1 m1 k1 l1 1 (pK.out.below (Below.refl w2.heap.size w2).drew (Nat.le_refl _)) hk1 (by omega)).mono ?_)
   rintro e w4 ⟨rfl,o4,hs4,vS⟩
   have pI:=Lib.hid (Step.behind HW2.out.marks (Below.refl _ _).drew hs4)
   have qZ:=Lib.hid vS
   have MW:=Lib.hid (pI.out.same I4.Ac HF.out)
   obtain⟨q0,q1,q2,q3⟩:=qZ.out.cells
   have c0:=w_.out w4 MW.out
   clear hs4 vS
   go_wp2_with fail
   refine j_ hK ?_
   clear hS hK K
   go_wp2_with fail
   refine qF 8 ((fun w'=>w'.cell? ⟨p,3,none⟩=some (ptr y)∧w'.cell? ⟨z,0,none⟩=some (.int .i64 2))) ?_ fun hS=> ?_
   ·exact⟨q3,c0⟩
   refine ak 0 hS ?_
   refine ak 1 hS ?_
   refine ak 2 hS ?_
   refine ak 3 hS ?_
   refine ak 4 hS ?_
   refine ak 5 hS ?_
   refine ak 6 hS ?_
   refine ak 7 hS ?_
   refine bK 8 fun K hK=> ?_
   go_simp
   (with_reducible refine(jC.UA (qZ.out.grow (Below.refl _ _).drew) a1 m1 k1 l1 1 ((wE pK.out I4.Ac pI.out).below (Below.refl w4.heap.size w4).drew (Nat.le_refl _)) hk1 (by omega)).mono ?_)
   rintro e w5 ⟨rfl,o5,hs5,Ck⟩
   have yc:=Lib.hid (Step.behind qZ.out.marks (Below.refl _ _).drew hs5)
   have AA:=Lib.hid Ck
   clear hs5 Ck
   go_wp2_with fail
   refine j_ hK ?_
   clear hS hK K
   go_wp2_with fail
   go_ret
   have hkq:=hk.out
   refine⟨true,A,B,rfl,fun h=>⟨rfl,h⟩, .inr (.inr ⟨by omega,rfl⟩), .inr (.inr ⟨by omega,rfl⟩),?_⟩
   rw[P7 UC.out.1,←Df.out,hkq]
   exact⟨o5,HST.out.trans (pI.out.trans yc.out),AA.out⟩
 ·have Qa:q.kind≠1:=fun h=>Bg (.inl h)
  have hkn2:q.kind≠2:=fun h=>Bg (.inr h)
  clear Bg
  by_cases hk:q.kind=3
  ·as_aux_lemma=>
   have HK:=Lib.hid hk
   have hkq:q.kind=3:=hk
   rw[hk]at c0
   have w_:Hid (∀w':World,w'.heap[z]? =w2.heap[z]? →w'.cell? ⟨z,0,none⟩=some (.int .i64 3)):=fun w' hw=>by rw[←hk];exact(P_.out w' hw).1
   clear hk hkq Qa hkn2
   skip
   go_wp2_with fail
   refine qF 7 ((fun w'=>w'.cell? ⟨p,1,none⟩=some (ptr t)∧w'.cell? ⟨z,2,none⟩=some (.int .i64 q.id)∧w'.cell? ⟨z,4,none⟩=some (.int .u64 q.aP))) ?_ fun hS=> ?_
   ·exact⟨q1,c2,c4⟩
   refine ak 0 hS ?_
   refine ak 1 hS ?_
   refine ak 2 hS ?_
   refine ak 3 hS ?_
   refine ak 4 hS ?_
   refine ak 5 hS ?_
   refine ak 6 hS ?_
   refine bK 7 fun K hK=> ?_
   go_simp
   (with_reducible refine(jC.append (HW2.out.grow (Below.refl _ _).drew) q.id ba bm bc (q.b.take 60) HWI.out (lS.out.below (Below.refl w2.heap.size w2).drew (Nat.le_refl _)) (by omega)).mono ?_)
   rintro e w4 ⟨rfl,o4,hs4,vS⟩
   have pI:=Lib.hid (Step.behind HW2.out.marks (Below.refl _ _).drew hs4)
   have qZ:=Lib.hid vS
   have MW:=Lib.hid (pI.out.same I4.Ac HF.out)
   obtain⟨q0,q1,q2,q3⟩:=qZ.out.cells
   obtain⟨c0,c2,c4⟩:=P_.out w4 MW.out
   clear hs4 vS
   go_wp2_with fail
   refine j_ hK ?_
   clear hS hK K
   go_wp2_with fail
   refine qF 7 ((fun w'=>w'.cell? ⟨p,3,none⟩=some (ptr y)∧w'.cell? ⟨z,2,none⟩=some (.int .i64 q.id)∧w'.cell? ⟨z,4,none⟩=some (.int .u64 q.aP))) ?_ fun hS=> ?_
   ·exact⟨q3,c2,c4⟩
   refine ak 0 hS ?_
   refine ak 1 hS ?_
   refine ak 2 hS ?_
   refine ak 3 hS ?_
   refine ak 4 hS ?_
   refine ak 5 hS ?_
   refine ak 6 hS ?_
   refine bK 7 fun K hK=> ?_
   go_simp
   (with_reducible refine(jC.SV (qZ.out.grow (Below.refl _ _).drew) q.id ba bm bc (q.b.take 60) ((lS.out.move (S':=Free o w2) pI.out.keep.size fun b hb hbw=>⟨hb,pI.out.same I4.Ac hb⟩).below (Below.refl w4.heap.size w4).drew (Nat.le_refl _)) (fun b hb=>(pI.out.old b (SY hb)).trans (Free.zero hb)) (by omega)).mono ?_)
   rintro e w5 ⟨rfl,o5,hs5,Ck⟩
   have yc:=Lib.hid (Step.behind qZ.out.marks (Below.refl _ _).drew hs5)
   have AA:=Lib.hid Ck
   clear hs5 Ck
   go_wp2_with fail
   refine j_ hK ?_
   clear hS hK K
   go_wp2_with fail
   go_ret
   have hkq:=HK.out
   refine⟨true,A,B,rfl,fun h=>⟨rfl,h⟩, .inr (.inr ⟨by omega,rfl⟩), .inr (.inr ⟨by omega,rfl⟩),?_⟩
   rw[WT (by omega)]
   exact⟨o5,HST.out.trans (pI.out.trans yc.out),AA.out⟩
  ·have hkn3:q.kind≠3:=hk
   clear hk
   by_cases hk:q.kind=4
   ·as_aux_lemma=>
    have HK:=Lib.hid hk
    have hkq:q.kind=4:=hk
    rw[hk]at c0
    have w_:Hid (∀w':World,w'.heap[z]? =w2.heap[z]? →w'.cell? ⟨z,0,none⟩=some (.int .i64 4)):=fun w' hw=>by rw[←hk];exact(P_.out w' hw).1
    clear hk hkq Qa hkn2
    skip
    go_wp2_with fail
    refine qF 9 ((fun w'=>w'.cell? ⟨p,1,none⟩=some (ptr t)∧w'.cell? ⟨z,2,none⟩=some (.int .i64 q.id)∧w'.cell? ⟨z,4,none⟩=some (.int .u64 q.aP))) ?_ fun hS=> ?_
    ·exact⟨q1,c2,c4⟩
    refine ak 0 hS ?_
    refine ak 1 hS ?_
    refine ak 2 hS ?_
    refine ak 3 hS ?_
    refine ak 4 hS ?_
    refine ak 5 hS ?_
    refine ak 6 hS ?_
    refine ak 7 hS ?_
    refine ak 8 hS ?_
    refine bK 9 fun K hK=> ?_
    go_simp
    (with_reducible refine(jC.seal_ (HW2.out.grow (Below.refl _ _).drew) q.id um HWI.out HUM.out).mono ?_)
    rintro e w4 ⟨rfl,o4,hs4,vS⟩
    have pI:=Lib.hid (Step.behind HW2.out.marks (Below.refl _ _).drew hs4)
    have qZ:=Lib.hid vS
    have MW:=Lib.hid (pI.out.same I4.Ac HF.out)
    obtain⟨q0,q1,q2,q3⟩:=qZ.out.cells
    obtain⟨c0,c2,c4⟩:=P_.out w4 MW.out
    clear hs4 vS
    go_wp2_with fail
    refine j_ hK ?_
    clear hS hK K
    go_wp2_with fail
    refine qF 9 ((fun w'=>w'.cell? ⟨p,3,none⟩=some (ptr y)∧w'.cell? ⟨z,2,none⟩=some (.int .i64 q.id)∧w'.cell? ⟨z,4,none⟩=some (.int .u64 q.aP))) ?_ fun hS=> ?_
    ·exact⟨q3,c2,c4⟩
    refine ak 0 hS ?_
    refine ak 1 hS ?_
    refine ak 2 hS ?_
    refine ak 3 hS ?_
    refine ak 4 hS ?_
    refine ak 5 hS ?_
    refine ak 6 hS ?_
    refine ak 7 hS ?_
    refine ak 8 hS ?_
    refine bK 9 fun K hK=> ?_
    go_simp
    (with_reducible refine(jC.rseal (qZ.out.grow (Below.refl _ _).drew) q.id um HUM.out).mono ?_)
    rintro e w5 ⟨rfl,o5,hs5,Ck⟩
    have yc:=Lib.hid (Step.behind qZ.out.marks (Below.refl _ _).drew hs5)
    have AA:=Lib.hid Ck
    clear hs5 Ck
    go_wp2_with fail
    refine j_ hK ?_
    clear hS hK K
    go_wp2_with fail
    go_ret
    have hkq:=HK.out
    refine⟨true,A,B,rfl,fun h=>⟨rfl,h⟩, .inr (.inr ⟨by omega,rfl⟩), .inr (.inr ⟨by omega,rfl⟩),?_⟩
    rw[WU (by omega),←HUE.out]
    exact⟨o5,HST.out.trans (pI.out.trans yc.out),AA.out⟩
   ·have hkn4:q.kind≠4:=hk
    clear hk
    by_cases hk:q.kind=5
    ·as_aux_lemma=>
     have HK:=Lib.hid hk
     have hkq:q.kind=5:=hk
     rw[hk]at c0
     have w_:Hid (∀w':World,w'.heap[z]? =w2.heap[z]? →w'.cell? ⟨z,0,none⟩=some (.int .i64 5)):=fun w' hw=>by rw[←hk];exact(P_.out w' hw).1
     clear hk hkq Qa hkn2
     skip
     go_wp2_with fail
     (with_reducible refine(jC.unlink HW2.out a1 m1 k1 l1 pK.out hk1 (by omega)).mono ?_)
     rintro e w4 ⟨rfl,o4,hs4,vS⟩
     have pI:=Lib.hid hs4
     have qZ:=Lib.hid vS
     have MW:=Lib.hid (pI.out.same I4.Ac HF.out)
     obtain⟨q0,q1,q2,q3⟩:=qZ.out.cells
     obtain⟨c0,c2,c4⟩:=P_.out w4 MW.out
     clear hs4 vS
     go_wp2_with fail
     (with_reducible refine(jC.SX qZ.out a1 m1 k1 l1 (wE pK.out I4.Ac pI.out) hk1 (by omega)).mono ?_)
     rintro e w5 ⟨rfl,o5,hs5,Ck⟩
     have yc:=Lib.hid hs5
     have AA:=Lib.hid Ck
     clear hs5 Ck
     go_wp2_with fail
     go_ret
     have hkq:=HK.out
     refine⟨true,A,B,rfl,fun h=>⟨rfl,h⟩, .inr (.inr ⟨by omega,rfl⟩), .inr (.inr ⟨by omega,rfl⟩),?_⟩
     rw[WV (by omega),←Df.out]
     exact⟨o5,HST.out.trans (pI.out.trans yc.out),AA.out⟩
    ·have hkn5:q.kind≠5:=hk
     clear hk
     by_cases hk:q.kind=6
     ·as_aux_lemma=>
      have HK:=Lib.hid hk
      have hkq:q.kind=6:=hk
      rw[hk]at c0
      have w_:Hid (∀w':World,w'.heap[z]? =w2.heap[z]? →w'.cell? ⟨z,0,none⟩=some (.int .i64 6)):=fun w' hw=>by rw[←hk];exact(P_.out w' hw).1
      clear hk hkq Qa hkn2
      clear c2 c4
      go_wp2_with fail
      refine qF 13 ((fun w'=>w'.cell? ⟨p,0,none⟩=some (ptr s)∧w'.cell? ⟨p,1,none⟩=some (ptr t))) ?_ fun hS=> ?_
      ·exact⟨q0,q1⟩
      refine ak 0 hS ?_
      refine ak 1 hS ?_
      refine ak 2 hS ?_
      refine ak 3 hS ?_
      refine ak 4 hS ?_
      refine ak 5 hS ?_
      refine ak 6 hS ?_
      refine ak 7 hS ?_
      refine bK 8 fun K hK=> ?_
      go_simp
      (with_reducible refine(jC.take (HW2.out.grow (Below.refl _ _).drew) HNA.out).mono ?_)
      rintro e w4 ⟨rfl,o4,hs4,vS⟩
      have pI:=Lib.hid (Step.behind HW2.out.marks (Below.refl _ _).drew hs4)
      have qZ:=Lib.hid vS
      obtain⟨q0,q1,q2,q3⟩:=qZ.out.cells
      clear hs4 vS
      go_wp2_with fail
      refine bR hK (⟨q0,q1⟩) fun hS=> ?_
      clear hK K
      refine ak 9 hS ?_
      refine ak 10 hS ?_
      refine ak 11 hS ?_
      refine ak 12 hS ?_
      refine bK 13 fun K hK=> ?_
      go_simp
      refine j_ hK ?_
      clear hS hK K
      go_wp2_with fail
      refine qF 13 ((fun w'=>w'.cell? ⟨p,2,none⟩=some (ptr x)∧w'.cell? ⟨p,3,none⟩=some (ptr y))) ?_ fun hS=> ?_
      ·exact⟨q2,q3⟩
      refine ak 0 hS ?_
      refine ak 1 hS ?_
      refine ak 2 hS ?_
      refine ak 3 hS ?_
      refine ak 4 hS ?_
      refine ak 5 hS ?_
      refine ak 6 hS ?_
      refine ak 7 hS ?_
      refine bK 8 fun K hK=> ?_
      go_simp
      (with_reducible refine(jC.rtake (qZ.out.grow (Below.refl _ _).drew) HNB.out).mono ?_)
      rintro e w5 ⟨rfl,o5,hs5,Ck⟩
      have yc:=Lib.hid (Step.behind qZ.out.marks (Below.refl _ _).drew hs5)
      have AA:=Lib.hid Ck
      obtain⟨q0,q1,q2,q3⟩:=AA.out.cells
      clear hs5 Ck
      go_wp2_with fail
      refine bR hK (⟨q2,q3⟩) fun hS=> ?_
      clear hK K
      refine ak 9 hS ?_
      refine ak 10 hS ?_
      refine ak 11 hS ?_
      refine ak 12 hS ?_
      refine bK 13 fun K hK=> ?_
      go_simp
      refine j_ hK ?_
      clear hS hK K
      have iX:Hid (∀b,(A=B→b=true)→Ip W o w p s t x y q A T B (.returned (.bool b)) w5):=fun b hb=>by
       have hkq:=HK.out
       refine⟨b,(dI A T).2,(dI B T).2,rfl,fun h=>⟨hb h,by rw[h]⟩, .inl ⟨hkq,rfl⟩, .inl ⟨hkq,rfl⟩,?_⟩
       rw[Fy (by omega)]
       exact⟨o5,HST.out.trans (pI.out.trans yc.out),AA.out⟩
      have uQ:Hid (A=B→(dI A T).1.1=(dI B T).1.1∧(dI A T).1.2=(dI B T).1.2):=fun h=>by rw[h];exact⟨rfl,rfl⟩
      generalize (dI A T).1.1=va at*
      generalize (dI B T).1.1=vb at*
      generalize (dI A T).1.2=ea at*
      generalize (dI B T).1.2=eb at*
      by_cases hv:va=vb
      ·have hv1:(va==vb)=true:=by simpa using hv
       have hv2:decide (va=vb)=true:=by simpa using hv
       have hv3:(va !=vb)=false:=by simpa using hv
       clear hv
       by_cases he:ea=eb
       ·have he1:(ea==eb)=true:=by simpa using he
        have he2:decide (ea=eb)=true:=by simpa using he
        have he3:(ea !=eb)=false:=by simpa using he
        clear he
        go_wp2_with fail
        go_ret
        exact iX.out true fun _=>rfl
       ·have he1:(ea==eb)=false:=by simpa using he
        have he2:decide (ea=eb)=false:=by simpa using he
        have he3:(ea !=eb)=true:=by simpa using he
        have iM:=Lib.hid he
        clear he
        go_wp2_with fail
        go_ret
        exact iX.out false fun h=>absurd (uQ.out h).2 iM.out
      ·have hv1:(va==vb)=false:=by simpa using hv
       have hv2:decide (va=vb)=false:=by simpa using hv
       have hv3:(va !=vb)=true:=by simpa using hv
       have iM:=Lib.hid hv
       clear hv
       go_wp2_with fail
       go_ret
       exact iX.out false fun h=>absurd (uQ.out h).1 iM.out
     ·have hkn6:q.kind≠6:=hk
      clear hk
      as_aux_lemma=>
      have Ug:Hid (q.kind<1∨6<q.kind):=by show q.kind<1∨6<q.kind;omega
      have hb1:(q.kind==1)=false:=by simpa using Qa
      have hb2:(q.kind==2)=false:=by simpa using hkn2
      have hb3:(q.kind==3)=false:=by simpa using hkn3
      have hb4:(q.kind==4)=false:=by simpa using hkn4
      have hb5:(q.kind==5)=false:=by simpa using hkn5
      have hb6:(q.kind==6)=false:=by simpa using hkn6
      go_wp2_with fail
      refine qF 20 ((fun w'=>w'.cell? ⟨p,0,none⟩=some (ptr s)∧w'.cell? ⟨p,2,none⟩=some (ptr x)∧w'.cell? ⟨z,2,none⟩=some (.int .i64 q.id)∧w'.cell? ⟨z,4,none⟩=some (.int .u64 q.aP))) ?_ fun hS=> ?_
      ·exact⟨q0,q2,c2,c4⟩
      refine ak 0 hS ?_
      refine ak 1 hS ?_
      refine ak 2 hS ?_
      refine ak 3 hS ?_
      refine ak 4 hS ?_
      refine ak 5 hS ?_
      refine ak 6 hS ?_
      refine ak 7 hS ?_
      refine ak 8 hS ?_
      refine ak 10 hS ?_
      refine ak 11 hS ?_
      refine ak 12 hS ?_
      refine ak 13 hS ?_
      refine ak 14 hS ?_
      refine ak 15 hS ?_
      refine ak 16 hS ?_
      refine ak 17 hS ?_
      refine ak 18 hS ?_
      refine bK 9 fun K hK=> ?_
      go_simp
      (with_reducible refine(jC.forget (HW2.out.grow (Below.refl _ _).drew) q.id um).mono ?_)
      rintro e w4 ⟨ea,A',rfl,hfA,o4,hs4,vS⟩
      have pI:=Lib.hid (Step.behind HW2.out.marks (Below.refl _ _).drew hs4)
      have qZ:=Lib.hid vS
      have HFA:=Lib.hid hfA
      have MW:=Lib.hid (pI.out.same I4.Ac HF.out)
      obtain⟨q0,q1,q2,q3⟩:=qZ.out.cells
      obtain⟨c0,c2,c4⟩:=P_.out w4 MW.out
      clear hs4 vS hfA
      go_wp2_with fail
      refine bR hK (⟨q0,q2,c2,c4⟩) fun hS=> ?_
      clear hK K
      refine bK 19 fun K hK=> ?_
      go_simp
      (with_reducible refine(jC.SS qZ.out q.id um).mono ?_)
      rintro e w5 ⟨eb,B',rfl,hfB,o5,hs5,Ck⟩
      have yc:=Lib.hid hs5
      have AA:=Lib.hid Ck
      have HFB:=Lib.hid hfB
      have HZ5:=Lib.hid ((yc.out.same I4.Ac (show Free o4 w4 z from⟨(pI.out.old z hz2).trans HF.out.1,Nat.lt_of_lt_of_le hz2 pI.out.keep.size⟩)).trans MW.out)
      obtain⟨q0,q1,q2,q3⟩:=AA.out.cells
      obtain⟨c0,c2,c4⟩:=P_.out w5 HZ5.out
      clear hs5 Ck hfB
      go_wp2_with fail
      refine bR hK (⟨q0,q2,c2,c4⟩) fun hS=> ?_
      clear hK K
      refine bK 20 fun K hK=> ?_
      go_simp
      refine j_ hK ?_
      clear hS hK K
      have uQ:Hid (A=B→ea=eb∧A'=B'):=fun h=>by
       have hb:=HFB.out
       rw[←h]at hb
       exact zZ HFA.out hb
      have iX:Hid (∀b,(A=B→b=true)→Ip W o w p s t x y q A T B (.returned (.bool b)) w5):=fun b hb=>by
       have hkq:=Ug.out
       refine⟨b,A',B',rfl,fun h=>⟨hb h,(uQ.out h).2⟩, .inr (.inl ⟨hkq,ea,by rw[←HUE.out];exact HFA.out⟩), .inr (.inl ⟨hkq,eb,by rw[←HUE.out];exact HFB.out⟩),?_⟩
       rw[Fy (by omega)]
       exact⟨o5,HST.out.trans (pI.out.trans yc.out),AA.out⟩
      by_cases he:ea=eb
      ·have he1:(ea==eb)=true:=by simpa using he
       have he2:decide (ea=eb)=true:=by simpa using he
       have he3:(ea !=eb)=false:=by simpa using he
       clear he
       go_wp2_with fail
       go_ret
       exact iX.out true fun _=>rfl
      ·have he1:(ea==eb)=false:=by simpa using he
       have he2:decide (ea=eb)=false:=by simpa using he
       have he3:(ea !=eb)=true:=by simpa using he
       have iM:=Lib.hid he
       clear he
       go_wp2_with fail
       go_ret
       exact iX.out false fun h=>absurd (uQ.out h).1 iM.out
end
def findM (S:jc) (id:Int):Option dX:=S.l.find? fun x=>decide (x.id=id)
section
variable {W w:World} {o:Mark} {i s:Nat} {S:jc}
end
section
variable {W w:World} {o:Mark} {i s:Nat} {S:jc}
end
structure ql (A:jc):Prop where
 each:∀x∈A.l,(1≤x.id∧x.id<A.next)∧x.hash.length≤64
 up:A.l.Pairwise fun x y=>x.id<y.id
 next:1≤A.next
theorem ql.new:ql kN:=⟨fun x hx=>(by cases hx),List.Pairwise.nil,by decide⟩
theorem ql.take {A:jc} (h:ql A) (T:aA):ql (dI A T).2:=by
 have hn:=h.next
 unfold dI
 split
 ·exact h
 ·refine⟨fun x hx=> ?_,?_,by show 1≤A.next+1;omega⟩
  ·rcases List.mem_append.1 (show x∈A.l++[_]from hx)with hx|hx
   ·have:=h.each x hx
    exact⟨⟨this.1.1,by have:=this.1.2;show x.id<A.next+1;omega⟩,this.2⟩
   ·rw[List.mem_singleton.1 hx]
    exact⟨⟨hn,by show A.next<A.next+1;omega⟩,by show(jR _).length≤64;rw[rE];omega⟩
  ·show(A.l++[_]).Pairwise _
   rw[List.pairwise_append]
   refine⟨h.up,List.pairwise_singleton _ _,fun x hx y hy=> ?_⟩
   rw[List.mem_singleton.1 hy]
   exact(h.each x hx).1.2
theorem ql.sv {A:jc} (h:ql A) (h8:Gb A) (hn:A.next≤1000000000):PW A:=
 ⟨h8.len,h8.last,⟨h8.next,hn⟩,fun x hx=>⟨⟨by have:=(h.each x hx).1.1;omega,by have:=(h.each x hx).1.2;omega⟩,(h.each x hx).2⟩⟩
theorem JF:∀{l:List dX} {k:Nat} {x:dX},l.Pairwise (fun x y=>x.id<y.id)→l[k]? =some x→l.find? (fun y=>decide (y.id=x.id))=some x
 |[],k,x,_,h=>by simp at h
 |y::r,0,x,_,h=>by
  obtain rfl:y=x:=by simpa using h
  simp
 |y::r,k+1,x,hp,h=>by
  have h1:r[k]? =some x:=by simpa using h
  have h2:=(List.pairwise_cons.1 hp).1 x (List.mem_of_getElem? h1)
  rw[List.find?_cons_of_neg (by simp;omega)]
  exact JF (List.pairwise_cons.1 hp).2 h1
theorem ql.find {A:jc} (h:ql A) {k:Nat} {x:dX} (hx:A.l[k]? =some x):findM A x.id=some x:=JF h.up hx
open Go
theorem UD {P:Program} {ops:Array Oper} {Q:Exit→Act→World→Prop} {md:Region.Mode} {S:World→Prop} (i:Nat) {oi:Oper} {fuel:Nat} {listed l':Array Bool} {a a':Act} {w:World}
  (hS:S w) (h:wpAnyH P md ops Q S fuel l' a' w)
  (hi:ops[i]? =some oi:=by simp only[List.getElem?_toArray,List.getElem?_cons_succ,List.getElem?_cons_zero];rfl)
  (hs:Region.noSelect ops=true:=by kernel_rfl) (hf:Region.free md ops listed i=true:=by kernel_rfl) (hr:(Region.ready md ops listed).contains i=true:=by kernel_rfl)
  (hQ:∀c a w,Q (.panic c) (a.put oi.dst undef) w→Q (.panic c) a w:=by exact fun _ _ _ h=>h)
  (hw:Region.wanted oi (yielded ops a.tmps)=false:=by rfl)
  (hl:listed.setIfInBounds i true=l':=by(try simp only[List.setIfInBounds_toArray,List.set_cons_zero,List.set_cons_succ]);rfl)
  (ha:a.put oi.dst undef=a':=by(try simp only[Act.put,List.setIfInBounds_toArray,List.set_cons_zero,List.set_cons_succ]);rfl)
  :wpAnyH P md ops Q S (fuel+1) listed a w:=
 wpAnyH_take hi hs hf hr hQ (Or.inr ⟨hw,rfl⟩) hS (by rw[hl,ha];exact h)
section
variable {W w:World} {o:Mark} {p s t x y:Nat} {A:jc} {T:aA}
end
def qm (l:List UInt8):Int:=l.foldl (fun n c=>n*256+(c.toNat:Int)) 0
theorem uV (l:List UInt8) (c:UInt8):qm (l++[c])=qm l*256+(c.toNat:Int):=by unfold qm;rw[List.foldl_append];rfl
theorem Qb:qm []=0:=rfl
theorem Cm {α:Type} (l:List α) (k:Nat) (h:l.length=k+1):∃l' c,l=l'++[c]∧l'.length=k:=by
 have hne:l≠[]:=fun e=>by rw[e]at h;cases h
 exact⟨l.dropLast,l.getLast hne,(List.dropLast_concat_getLast hne).symm,by rw[List.length_dropLast];omega⟩
theorem qo:∀(k:Nat) (l:List UInt8),l.length=k→0≤qm l∧qm l<256^k
 |0,l,h=>by rw[List.eq_nil_of_length_eq_zero h];simp[qm]
 |k+1,l,h=>by
  obtain⟨l',c,rfl,h'⟩:=Cm l k h
  obtain⟨h1,h2⟩:=qo k l' h'
  have hc:(c.toNat:Int)≤255:=by have:=c.toNat_lt;omega
  rw[uV,Int.pow_succ]
  generalize (256:Int)^k=P at*
  omega
theorem Ag:∀(k:Nat) (n:Int),0≤n→dR n (k+1)=dR (n/256) k++[UInt8.ofNat ((n%256).toNat)]
 |0,n,h0=>by
  show[UInt8.ofNat ((n/2^(8*0)).toNat%256)]=[UInt8.ofNat ((n%256).toNat)]
  congr 2
  simp
  omega
 |k+1,n,h0=>by
  have h:=Ag k n h0
  rw[dR,h]
  show _=(UInt8.ofNat ((n/256/2^(8*k)).toNat%256)::dR (n/256) k)++_
  rw[List.cons_append]
  congr 4
  rw[Int.ediv_ediv_of_nonneg (by decide),show(2:Int)^(8*(k+1))=256*2^(8*k)by rw[Nat.mul_add,Int.pow_add,Int.mul_comm];rfl]
theorem JG:∀(k:Nat) (n:Int),0≤n→n<256^k→qm (dR n k)=n
 |0,n,h0,h1=>by simp only[Int.pow_zero]at h1;simp only[dR,Qb];omega
 |k+1,n,h0,h1=>by
  rw[Ag k n h0,uV,JG k (n/256) (by omega) (by rw[Int.pow_succ]at h1;generalize (256:Int)^k=P at*;omega)]
  have:(UInt8.ofNat (n%256).toNat).toNat=(n%256).toNat:=by simp;omega
  rw[this];omega
theorem JH:∀(k:Nat) (l:List UInt8),l.length=k→dR (qm l) k=l
 |0,l,h=>(List.eq_nil_of_length_eq_zero h).symm
 |k+1,l,h=>by
  obtain⟨l',c,rfl,h'⟩:=Cm l k h
  obtain⟨h1,h2⟩:=qo k l' h'
  have hc:(c.toNat:Int)≤255:=by have:=c.toNat_lt;omega
  rw[uV,Ag _ _ (by omega),show(qm l'*256+(c.toNat:Int))/256=qm l' by omega,JH k l' h',show((qm l'*256+(c.toNat:Int))%256).toNat=c.toNat by omega]
  simp
abbrev Rd:=List UInt8×Int
def iy (s:Rd) (n:Int):List UInt8×Rd:=
 if s.2≠0 then([],s)else if (s.1.length:Int)<n then([],(s.1,10))else if n<1 then([],s)else(s.1.take n.toNat,(s.1.drop n.toNat,0))
def aT (s:Rd) (k:Nat):Int×Rd:=(qm (iy s k).1,(iy s k).2)
def qH (s:Rd):Bool×Rd:=(decide ((aT s 1).1=1),if 1<(aT s 1).1 then((aT s 1).2.1,12)else(aT s 1).2)
def aF (s:Rd):List UInt8×Rd:=iy (aT s 2).2 (aT s 2).1
def iA (s:Rd):Nat:=if s.2≠0 then 0 else s.1.length
def mO (s:Rd):Int:=if s.2=0∧0<s.1.length then 11 else s.2
theorem Cn {s:Rd} (h:s.2≠0) (n:Int):iy s n=([],s):=by unfold iy;rw[if_pos h]
theorem Dy {s:Rd} {n:Int} (h0:0≤n) (h:(iy s n).2.2=0):s.2=0∧s.1=(iy s n).1++(iy s n).2.1∧((iy s n).1.length:Int)=n:=by
 by_cases h1:s.2≠0
 ·rw[Cn h1]at h;exact absurd h h1
 ·have h1:s.2=0:=Decidable.not_not.1 h1
  unfold iy at h⊢
  rw[if_neg (by simp[h1])]at h⊢
  by_cases h2:(s.1.length:Int)<n
  ·rw[if_pos h2]at h;cases h
  ·rw[if_neg h2]at h⊢
   by_cases h3:n<1
   ·rw[if_pos h3]
    exact⟨h1,rfl,by simp;omega⟩
   ·rw[if_neg h3]
    refine⟨h1,(List.take_append_drop _ _).symm,?_⟩
    simp only[List.length_take]
    omega
theorem Ah (l r:List UInt8) (n:Int) (hn:n=l.length):iy (l++r,0) n=(l,(r,0)):=by
 subst hn
 unfold iy
 rw[if_neg (by simp),if_neg (by simp only[List.length_append];omega)]
 by_cases h:(l.length:Int)<1
 ·have:l=[]:=List.eq_nil_of_length_eq_zero (by omega)
  subst this;rw[if_pos (by simp)];rfl
 ·rw[if_neg h];simp
theorem gI {s:Rd} {k:Nat} (h:(aT s k).2.2=0):s.2=0∧s.1=dR (aT s k).1 k++(aT s k).2.1∧0≤(aT s k).1∧(aT s k).1<256^k:=by
 obtain⟨h1,h2,h3⟩:=Dy (s:=s) (n:=k) (by omega) h
 have h4:(iy s k).1.length=k:=by omega
 refine⟨h1,?_,qo k _ h4⟩
 unfold aT
 rw[JH k _ h4];exact h2
theorem gF (k:Nat) (n:Int) (r:List UInt8) (h0:0≤n) (h1:n<256^k):aT (dR n k++r,0) k=(n,(r,0)):=by
 unfold aT
 rw[Ah (dR n k) r k (by rw[bO]),JG k n h0 h1]
theorem dS (s:Rd) (k:Nat):0≤(aT s k).1∧(aT s k).1<256^k:=by
 by_cases h:(aT s k).2.2=0
 ·exact(gI h).2.2
 ·have hp:(0:Int)<256^k:=Int.pow_pos (by decide)
  have:(iy s k).1=[]:=by
   unfold aT at h
   unfold iy at h⊢
   split
   ·rfl
   ·rename_i h1
    rw[if_neg h1]at h
    split
    ·rfl
    ·rename_i h2
     rw[if_neg h2]at h
     split
     ·rfl
     ·rename_i h3;rw[if_neg h3]at h;exact absurd rfl h
  unfold aT
  rw[this]
  exact⟨Int.le_refl _,hp⟩
theorem Qc {s:Rd} (h:(qH s).2.2=0):s.2=0∧s.1=nu (qH s).1++(qH s).2.1:=by
 unfold qH at h⊢
 by_cases h1:1<(aT s 1).1
 ·rw[if_pos h1]at h;cases h
 ·rw[if_neg h1]at h⊢
  obtain⟨e1,e2,e3,e4⟩:=gI h
  refine⟨e1,?_⟩
  unfold nu
  by_cases h2:(aT s 1).1=1
  ·rw[h2]at e2;simp only[h2,decide_true,if_true];exact e2
  ·have h3:(aT s 1).1=0:=by omega
   rw[h3]at e2
   simp only[h3]
   exact e2
theorem Ma (f:Bool) (r:List UInt8):qH (nu f++r,0)=(f,(r,0)):=by
 unfold qH nu
 cases f
 ·rw[gF 1 _ r (by decide) (by decide)];rfl
 ·rw[gF 1 _ r (by decide) (by decide)];rfl
theorem kC {s:Rd} (h:(aF s).2.2=0):s.2=0∧s.1=lF (aF s).1++(aF s).2.1∧(aF s).1.length≤65535:=by
 have hr:=dS s 2
 unfold aF at h⊢
 obtain⟨h1,h2,h3⟩:=Dy hr.1 h
 obtain⟨h4,h5,h6,h7⟩:=gI h1
 refine⟨h4,?_,by have:(256:Int)^2=65536:=rfl;omega⟩
 unfold lF
 rw[h3,List.append_assoc,←h2]
 exact h5
theorem nO (l r:List UInt8) (h:l.length≤65535):aF (lF l++r,0)=(l,(r,0)):=by
 unfold aF lF
 rw[List.append_assoc,gF 2 _ _ (by omega) (by have:(256:Int)^2=65536:=rfl;omega)]
 exact Ah l r _ rfl
structure JI where
 id:Int
 kind:Int
 links:Int
 size:Int
 aP:Int
 closed:Bool
def Qd:JI:=⟨0,0,0,0,0,false⟩
def FB (n:JI):List UInt8:=dR n.id 2++(dR n.kind 1++(dR n.links 2++(dR n.size 2++(dR n.aP 8++nu n.closed))))
def iU (n:JI):Prop:=(n.kind=1∧n.size≤4096∧n.aP≤1099511627776)∨(n.kind=2∧n.size=0∧n.aP=0∧n.closed=true)
instance (n:JI):Decidable (iU n):=by unfold iU;infer_instance
def jB (b:List UInt8):JI×Rd:=
 let a:=aT (b,0) 2
 let k:=aT a.2 1
 let l:=aT k.2 2
 let s:=aT l.2 2
 let t:=aT s.2 8
 let c:=qH t.2
 (⟨a.1,k.1,l.1,s.1,t.1,c.1⟩,c.2)
def bP (b:List UInt8):JI×Int:=if mO (jB b).2=0∧iU (jB b).1 then((jB b).1,0)else(Qd,12)
theorem Ai {s:Rd} (h:mO s=0):s.2=0∧s.1=[]:=by
 unfold mO at h
 by_cases h1:s.2=0
 ·by_cases h2:0<s.1.length
  ·rw[if_pos ⟨h1,h2⟩]at h;cases h
  ·exact⟨h1,List.eq_nil_of_length_eq_zero (by omega)⟩
 ·rw[if_neg (fun hh=>h1 hh.1)]at h;exact absurd h h1
structure Mc (n:JI):Prop where
 id:0≤n.id∧n.id≤65535
 kind:0≤n.kind∧n.kind≤255
 links:0≤n.links∧n.links≤65535
 size:0≤n.size∧n.size≤65535
 aP:0≤n.aP∧n.aP≤18446744073709551615
theorem qp (b:List UInt8):Mc (jB b).1:=by
 have e2:(256:Int)^2=65536:=rfl
 have e1:(256:Int)^1=256:=rfl
 have e8:(256:Int)^8=18446744073709551616:=rfl
 unfold jB
 dsimp only
 refine⟨?_,?_,?_,?_,?_⟩<;>dsimp only
 ·have:=dS (b,0) 2;omega
 ·have:=dS (aT (b,0) 2).2 1;omega
 ·have:=dS (aT (aT (b,0) 2).2 1).2 2;omega
 ·have:=dS (aT (aT (aT (b,0) 2).2 1).2 2).2 2;omega
 ·have:=dS (aT (aT (aT (aT (b,0) 2).2 1).2 2).2 2).2 8;omega
theorem Qe {b:List UInt8} (h:mO (jB b).2=0):b=FB (jB b).1:=by
 obtain⟨h1,h2⟩:=Ai h
 unfold jB at h1 h2⊢
 dsimp only at h1 h2⊢
 obtain⟨f1,f2⟩:=Qc h1
 obtain⟨t1,t2,-⟩:=gI f1
 obtain⟨s1,s2,-⟩:=gI t1
 obtain⟨l1,l2,-⟩:=gI s1
 obtain⟨k1,k2,-⟩:=gI l1
 obtain⟨a1,a2,-⟩:=gI k1
 unfold FB
 dsimp only at a2⊢
 rw[h2,List.append_nil]at f2
 rw[←f2,←t2,←s2,←l2,←k2]
 exact a2
theorem Md {n:JI} (h:Mc n):jB (FB n)=(n,([],0)):=by
 have e2:(256:Int)^2=65536:=rfl
 have e1:(256:Int)^1=256:=rfl
 have e8:(256:Int)^8=18446744073709551616:=rfl
 have h1:=h.id;have h2:=h.kind;have h3:=h.links;have h4:=h.size;have h5:=h.aP
 unfold jB FB
 dsimp only
 rw[gF 2 n.id _ (by omega) (by omega)]
 dsimp only
 rw[gF 1 n.kind _ (by omega) (by omega)]
 dsimp only
 rw[gF 2 n.links _ (by omega) (by omega)]
 dsimp only
 rw[gF 2 n.size _ (by omega) (by omega)]
 dsimp only
 rw[gF 8 n.aP _ (by omega) (by omega)]
 dsimp only
 have:=Ma n.closed []
 rw[List.append_nil]at this
 rw[this]
theorem Aj {b:List UInt8} (h:(bP b).2=0):b=FB (bP b).1∧iU (bP b).1∧Mc (bP b).1:=by
 unfold bP at h⊢
 by_cases h1:mO (jB b).2=0∧iU (jB b).1
 ·rw[if_pos h1]
  exact⟨Qe h1.1,h1.2,qp b⟩
 ·rw[if_neg h1]at h;cases h
theorem FC {n:JI} (h:Mc n) (hr:iU n):bP (FB n)=(n,0):=by
 unfold bP
 rw[Md h,if_pos ⟨rfl,hr⟩]
def gX:Nat→Rd→Nm→List (Nm×Int)→Option (List (Nm×Int)×Rd)
 |0,s,_,acc=>some (acc,s)
 |k+1,s,last,acc=>
  let a:=aF s
  let b:=aT a.2 2
  if b.2.2≠0∨bV a.1=false∨bytesBefore last a.1=false then none else gX k b.2 a.1 (acc++[(a.1,b.1)])
def wF (k:Int) (x:bq):JI:=⟨k,x.kind,x.links,x.b.length,x.aP,x.closed⟩
def uW (n:JI) (b:List UInt8) (names:List (Nm×Int)):bq:=⟨n.kind,n.links,n.aP,n.closed,b,names⟩
def gY (s:Rd):Option ((Int×bq)×Rd):=
 let a:=aF s
 let n:=bP a.1
 let b:=aF a.2
 let c:=aT b.2 2
 if n.2≠0∨(b.1.length:Int)≠n.1.size then none else
 if n.1.kind=1 then(if c.1=0 then some ((n.1.id,uW n.1 b.1 []),c.2)else none)else
 match gX c.1.toNat c.2 [] []with
 |none=>none
 |some q=>some ((n.1.id,uW n.1 b.1 q.1),q.2)
def nP:Nat→Rd→Int→aA→Option (aA×Rd)
 |0,s,_,acc=>some (acc,s)
 |k+1,s,last,acc=>(gY s).elim none fun q=>if q.1.1≤last then none else nP k q.2 q.1.1 (acc++[q.1])
theorem oh (s:Rd) (last:Int) (acc:aA):nP 0 s last acc=some (acc,s):=rfl
theorem xq {k:Nat} {s:Rd} {last:Int} {acc:aA} (h:gY s=none):nP (k+1) s last acc=none:=by
 show(gY s).elim none _=none
 rw[h];rfl
theorem om {k:Nat} {s:Rd} {last:Int} {acc:aA} {q:(Int×bq)×Rd} (h:gY s=some q):nP (k+1) s last acc=if q.1.1≤last then none else nP k q.2 q.1.1 (acc++[q.1]):=by
 show(gY s).elim none _=_
 rw[h];rfl
def parseM (b:List UInt8):Option aA:=
 match nP (aT (b,0) 2).1.toNat (aT (b,0) 2).2 (-1) []with
 |none=>none
 |some q=>if mO q.2=0 then some q.1 else none
theorem Qf {n:Nm} (h:bV n=true):bytesBefore [] n=true:=by
 cases n with
 |nil=>simp[bV]at h
 |cons a r=>rfl
structure sV (k:Int) (x:bq):Prop where
 ok:Mc (wF k x)
 right:iU (wF k x)
 file:x.kind=1→x.names=[]
 sorted:aC bytesBefore x.names
 good:∀e∈x.names,bV e.1=true
 ids:∀e∈x.names,0≤e.2∧e.2≤65535
 few:x.names.length≤65535
theorem wG (k:Int) (x:bq):oC k x=FB (wF k x):=by
 unfold oC FB wF
 simp only[List.append_assoc]
theorem Ak:∀(k:Nat) (s:Rd) (last:Nm) (acc l:List (Nm×Int)) (s':Rd),gX k s last acc=some (l,s')→s'.2=0→
  s.2=0∧∃m,l=acc++m∧m.length=k∧s.1=m.flatMap Ez++s'.1∧(∀e∈m,bV e.1=true∧(0≤e.2∧e.2≤65535)∧bytesBefore last e.1=true)∧aC bytesBefore m
 |0,s,last,acc,l,s',h,h0=>by
  simp only[gX,Option.some.injEq,Prod.mk.injEq]at h
  obtain⟨rfl,rfl⟩:=h
  exact⟨h0,[],by simp,rfl,rfl,fun e he=>(by cases he),List.Pairwise.nil⟩
 |k+1,s,last,acc,l,s',h,h0=>by
  unfold gX at h
  dsimp only at h
  split at h
  ·cases h
  ·rename_i hc
   obtain⟨e1,m,e2,e3,e4,e5,e6⟩:=Ak k _ _ _ _ _ h h0
   have g1:bV (aF s).1=true:=by
    cases hg:bV (aF s).1 with
    |true=>rfl
    |false=>exact absurd (.inr (.inl hg)) hc
   have g2:bytesBefore last (aF s).1=true:=by
    cases hg:bytesBefore last (aF s).1 with
    |true=>rfl
    |false=>exact absurd (.inr (.inr hg)) hc
   obtain⟨f1,f2,f3,f4⟩:=gI e1
   obtain⟨b1,b2,-⟩:=kC f1
   have hp:(256:Int)^2=65536:=rfl
   refine⟨b1,((aF s).1,(aT (aF s).2 2).1)::m,by rw[e2,List.append_assoc];rfl,by rw[List.length_cons,e3],?_,fun e he=> ?_,?_⟩
   ·rw[List.flatMap_cons]
    rw[show Ez ((aF s).1,(aT (aF s).2 2).1)=lF (aF s).1++dR (aT (aF s).2 2).1 2 from rfl,List.append_assoc,List.append_assoc,←e4,←f2]
    exact b2
   ·rcases List.mem_cons.1 he with rfl|he
    ·exact⟨g1,⟨f3,by dsimp only;omega⟩,g2⟩
    ·have:=e5 e he
     exact⟨this.1,this.2.1,ng _ _ _ g2 this.2.2⟩
   ·refine List.Pairwise.cons (fun e he=> ?_) e6
    exact(e5 e he).2.2
theorem xu:∀(m:List (Nm×Int)) (r:List UInt8) (last:Nm) (acc:List (Nm×Int)),(∀e∈m,bV e.1=true∧(0≤e.2∧e.2≤65535)∧bytesBefore last e.1=true)→aC bytesBefore m→
  gX m.length (m.flatMap Ez++r,0) last acc=some (acc++m,(r,0))
 |[],r,last,acc,_,_=>by simp[gX]
 |e::m,r,last,acc,h,hs=>by
  obtain⟨h1,h2,h3⟩:=h e (by simp)
  have hp:(256:Int)^2=65536:=rfl
  have hl:=kg h1
  rw[List.length_cons,gX]
  have e1:aF ((e::m).flatMap Ez++r,0)=(e.1,(dR e.2 2++(m.flatMap Ez++r),0)):=by
   rw[List.flatMap_cons]
   unfold Ez
   rw[List.append_assoc,List.append_assoc]
   exact nO _ _ (by omega)
  rw[e1]
  dsimp only
  rw[gF 2 _ _ h2.1 (by omega)]
  dsimp only
  rw[if_neg (by rw[h1,h3];simp)]
  have hs':=List.pairwise_cons.1 hs
  rw[xu m r e.1 _ (fun y hy=>⟨(h y (by simp[hy])).1,(h y (by simp[hy])).2.1,hs'.1 y hy⟩) hs'.2,List.append_assoc]
  rfl
theorem Qg {s s':Rd} {q:Int×bq} (h:gY s=some (q,s')) (h0:s'.2=0):s.2=0∧s.1=iV q.1 q.2++s'.1∧sV q.1 q.2:=by
 unfold gY at h
 dsimp only at h
 split at h
 ·cases h
 ·rename_i hc
  have d0:(bP (aF s).1).2=0:=Decidable.byContradiction fun hn=>hc (.inl hn)
  have d1:((aF (aF s).2).1.length:Int)=(bP (aF s).1).1.size:=Decidable.byContradiction fun hn=>hc (.inr hn)
  obtain⟨q1,q2,q3⟩:=Aj d0
  have hp:(256:Int)^2=65536:=rfl
  have hnd:∀l,wF (bP (aF s).1).1.id (uW (bP (aF s).1).1 (aF (aF s).2).1 l)=(bP (aF s).1).1:=fun l=>by unfold wF uW;dsimp only;rw[d1]
  by_cases hk:(bP (aF s).1).1.kind=1
  ·rw[if_pos hk]at h
   split at h
   ·rename_i hz
    simp only[Option.some.injEq,Prod.mk.injEq]at h
    obtain⟨rfl,rfl⟩:=h
    obtain⟨f1,f2,-⟩:=gI h0
    obtain⟨b1,b2,-⟩:=kC f1
    obtain⟨a1,a2,-⟩:=kC b1
    refine⟨a1,?_,by rw[hnd];exact q3,by rw[hnd];exact q2,fun _=>rfl,List.Pairwise.nil,fun e he=>(by cases he),fun e he=>(by cases he),Nat.zero_le _⟩
    unfold iV
    rw[wG,hnd,←q1]
    unfold uW
    rw[hz]at f2
    rw[show(([]:List (Nm×Int)).flatMap Ez)=[]from rfl,List.append_nil,List.append_assoc,List.append_assoc,show((([]:List (Nm×Int)).length:Nat):Int)=0 from rfl,←f2,←b2]
    exact a2
   ·cases h
  ·rw[if_neg hk]at h
   split at h
   ·cases h
   ·rename_i p hr
    simp only[Option.some.injEq,Prod.mk.injEq]at h
    obtain⟨rfl,rfl⟩:=h
    obtain⟨r1,m,r2,r3,r4,r5,r6⟩:=Ak _ _ _ _ p.1 p.2 hr h0
    obtain⟨f1,f2,f3,f4⟩:=gI r1
    obtain⟨b1,b2,-⟩:=kC f1
    obtain⟨a1,a2,-⟩:=kC b1
    rw[List.nil_append]at r2
    refine⟨a1,?_,by rw[hnd];exact q3,by rw[hnd];exact q2,fun hk'=>absurd hk' hk,by rw[show(uW (bP (aF s).1).1 (aF (aF s).2).1 p.1).names=m from r2];exact r6,fun e he=> ?_,fun e he=> ?_,?_⟩
    ·unfold iV
     rw[wG,hnd,←q1]
     unfold uW
     dsimp only
     rw[r2,r3,List.append_assoc,List.append_assoc,List.append_assoc,←r4,show((aT (aF (aF s).2).2 2).1.toNat:Int)=(aT (aF (aF s).2).2 2).1 by omega,←f2,←b2]
     exact a2
    ·exact(r5 e (by rw[←r2];exact he)).1
    ·exact(r5 e (by rw[←r2];exact he)).2.1
    ·show p.1.length≤65535
     rw[r2,r3];omega
theorem Me {k:Int} {x:bq} (h:sV k x) (r:List UInt8):gY (iV k x++r,0)=some ((k,x),(r,0)):=by
 have hp:(256:Int)^2=65536:=rfl
 have hsz:x.b.length≤65535:=by have:=h.ok.size.2;unfold wF at this;dsimp only at this;omega
 have hen:(oC k x).length≤65535:=by unfold oC nu;simp only[List.length_append,bO];omega
 have hfw:=h.few
 unfold gY iV
 dsimp only
 rw[List.append_assoc,List.append_assoc,List.append_assoc,nO _ _ hen]
 dsimp only
 rw[wG,FC h.ok h.right]
 dsimp only
 rw[nO _ _ hsz]
 dsimp only
 rw[gF 2 _ _ (by omega) (by omega)]
 dsimp only
 rw[if_neg (by unfold wF;simp)]
 by_cases hk:x.kind=1
 ·rw[if_pos (show(wF k x).kind=1 from hk)]
  have hn:=h.file hk
  rw[hn]
  simp only[List.length_nil,List.flatMap_nil,List.nil_append,Int.natCast_zero,if_true]
  unfold uW wF
  dsimp only
  rw[←hn]
 ·rw[if_neg (show ¬(wF k x).kind=1 from hk)]
  rw[show((x.names.length:Int)).toNat=x.names.length by omega,xu x.names r [] [] (fun e he=>⟨h.good e he,h.ids e he,Qf (h.good e he)⟩) h.sorted]
  rfl
theorem Co:∀(k:Nat) (s:Rd) (last:Int) (acc l:aA) (s':Rd),nP k s last acc=some (l,s')→s'.2=0→
  s.2=0∧∃m,l=acc++m∧m.length=k∧s.1=(m.flatMap fun q=>iV q.1 q.2)++s'.1∧(∀q∈m,sV q.1 q.2∧last<q.1)∧aC fQ m
 |0,s,last,acc,l,s',h,h0=>by
  rw[oh]at h
  cases h
  exact⟨h0,[],by simp,rfl,rfl,fun e he=>(by cases he),List.Pairwise.nil⟩
 |k+1,s,last,acc,l,s',h,h0=>by
  cases hr:gY s with
  |none=>rw[xq hr]at h;cases h
  |some q=>
   rw[om hr]at h
   by_cases hl:q.1.1≤last
   ·rw[if_pos hl]at h;cases h
   ·rw[if_neg hl]at h
    obtain⟨e1,m,e2,e3,e4,e5,e6⟩:=Co k _ _ _ _ _ h h0
    obtain⟨b1,b2,b3⟩:=Qg (q:=q.1) (s':=q.2) hr e1
    refine⟨b1,q.1::m,by rw[e2,List.append_assoc];rfl,by rw[List.length_cons,e3],?_,fun y hy=> ?_,?_⟩
    ·rw[List.flatMap_cons,List.append_assoc,←e4]
     exact b2
    ·rcases List.mem_cons.1 hy with rfl|hy
     ·exact⟨b3,by omega⟩
     ·have:=e5 y hy
      exact⟨this.1,by omega⟩
    ·exact List.Pairwise.cons (fun y hy=>decide_eq_true (e5 y hy).2) e6
theorem Al:∀(m:aA) (r:List UInt8) (last:Int) (acc:aA),(∀q∈m,sV q.1 q.2∧last<q.1)→aC fQ m→
  nP m.length ((m.flatMap fun q=>iV q.1 q.2)++r,0) last acc=some (acc++m,(r,0))
 |[],r,last,acc,_,_=>by rw[List.append_nil];exact oh _ _ _
 |q::m,r,last,acc,h,hs=>by
  obtain⟨h1,h2⟩:=h q (by simp)
  have hs':=List.pairwise_cons.1 hs
  rw[List.length_cons,List.flatMap_cons,List.append_assoc,om (Me h1 _),if_neg (show ¬q.1≤last by omega)]
  dsimp only
  rw[Al m r q.1 _ (fun y hy=>⟨(h y (by simp[hy])).1,of_decide_eq_true (hs'.1 y hy)⟩) hs'.2,List.append_assoc]
  rfl
structure qI (T:aA):Prop where
 each:∀q∈T,sV q.1 q.2
 sorted:aC fQ T
 few:T.length≤65535
theorem wH {b:List UInt8} {T:aA} (h:parseM b=some T):b=bZ T∧qI T:=by
 unfold parseM at h
 split at h
 ·cases h
 ·rename_i q hr
  split at h
  ·rename_i he
   cases h
   obtain⟨z1,z2⟩:=Ai he
   obtain⟨e1,m,e2,e3,e4,e5,e6⟩:=Co _ _ _ _ q.1 q.2 hr z1
   obtain⟨-,f2,f3,f4⟩:=gI e1
   have hp:(256:Int)^2=65536:=rfl
   rw[List.nil_append]at e2
   rw[z2,List.append_nil]at e4
   rw[e2]
   refine⟨?_,fun y hy=>(e5 y hy).1,e6,by omega⟩
   unfold bZ
   rw[e3,show((aT (b,0) 2).1.toNat:Int)=(aT (b,0) 2).1 by omega,←e4]
   exact f2
  ·cases h
theorem Am {T:aA} (h:qI T):parseM (bZ T)=some T:=by
 have hp:(256:Int)^2=65536:=rfl
 have hf:=h.few
 unfold parseM bZ
 rw[gF 2 _ _ (by omega) (by omega)]
 dsimp only
 have:=Al T [] (-1) [] (fun q hq=>⟨h.each q hq,by have:=(h.each q hq).ok.id.1;unfold wF at this;dsimp only at this;omega⟩) h.sorted
 rw[List.append_nil,List.nil_append]at this
 rw[show((T.length:Int)).toNat=T.length by omega,this]
 rfl
end Go.Proofs.YtjnhnlabpccgjaaGreat
