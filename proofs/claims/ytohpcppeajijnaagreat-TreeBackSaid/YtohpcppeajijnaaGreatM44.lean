/- permafrostlaw11.do over a tree and a reference of any two models. -/
import Derived.Test.YtohpcppeajijnaaGreatM37
import Derived.Test.YtohpcppeajijnaaGreatM43
namespace Go.Proofs.YtohpcppeajijnaaGreat
open Go.ChangeShapes Go.WideShapes Go.ChangeAt Go.RowKit
set_option linter.unusedVariables false
set_option linter.unusedSimpArgs false
def GJ (x:mG):Int:=if x.dir=true then 2 else 1
def ig (x:mG) (T:aF):aF:=
 if x.kind=1 then(cu T (dO x.P) (GJ x)).2 else
 if x.kind=2 then(dz T (dO x.P) (dO x.vE)).2 else
 if x.kind=3 then(bB T (dO x.P)).2 else
 if x.kind=4 then(bU T (dO x.P)).2 else
 if x.kind=5 then(aT T (dO x.P) (dO x.vE)).2 else
 if x.kind=6 then(bK T x.id (x.b.take 100)).2 else
 if x.kind=8 then(dR T x.id x.aK).2 else
 if x.kind=9 then(dL T x.id x.aK).2 else
 if x.kind=10 then(dM T x.id).2 else T
theorem ML {x:mG} (h:x.kind=1) (T:aF):ig x T=(cu T (dO x.P) (GJ x)).2:=by unfold ig;rw[if_pos h]
theorem MN {x:mG} (h:x.kind=2) (T:aF):ig x T=(dz T (dO x.P) (dO x.vE)).2:=by unfold ig;rw[if_neg (by omega),if_pos h]
theorem MO {x:mG} (h:x.kind=3) (T:aF):ig x T=(bB T (dO x.P)).2:=by unfold ig;rw[if_neg (by omega),if_neg (by omega),if_pos h]
theorem MP {x:mG} (h:x.kind=4) (T:aF):ig x T=(bU T (dO x.P)).2:=by unfold ig;rw[if_neg (by omega),if_neg (by omega),if_neg (by omega),if_pos h]
theorem MQ {x:mG} (h:x.kind=5) (T:aF):ig x T=(aT T (dO x.P) (dO x.vE)).2:=by
 unfold ig
 iterate 4 rw[if_neg (by omega)]
 rw[if_pos h]
theorem MR {x:mG} (h:x.kind=6) (T:aF):ig x T=(bK T x.id (x.b.take 100)).2:=by
 unfold ig
 iterate 5 rw[if_neg (by omega)]
 rw[if_pos h]
theorem MS {x:mG} (h:x.kind=8) (T:aF):ig x T=(dR T x.id x.aK).2:=by
 unfold ig
 iterate 6 rw[if_neg (by omega)]
 rw[if_pos h]
theorem MU {x:mG} (h:x.kind=9) (T:aF):ig x T=(dL T x.id x.aK).2:=by
 unfold ig
 iterate 7 rw[if_neg (by omega)]
 rw[if_pos h]
theorem JJ {x:mG} (h:x.kind=10) (T:aF):ig x T=(dM T x.id).2:=by
 unfold ig
 iterate 8 rw[if_neg (by omega)]
 rw[if_pos h]
theorem vM {x:mG} (h:¬(1≤x.kind∧x.kind≤10)∨x.kind=7) (T:aF):ig x T=T:=by unfold ig;iterate 9 rw[if_neg (by omega)]
theorem mQ.ig {T:aF} (h:mQ T) (x:mG) (hx:x.Ok):mQ (Go.Proofs.YtohpcppeajijnaaGreat.ig x T):=by
 have h1:=lF x.P
 have h2:=lF x.vE
 unfold Go.Proofs.YtohpcppeajijnaaGreat.ig
 split
 ·exact h.cu h1 _
 split
 ·exact h.dz _ h2
 split
 ·exact h.bB _
 split
 ·exact h.bU _
 split
 ·exact h.aT _ h2
 split
 ·exact h.bK _ _
 split
 ·exact h.dR _ _ hx.wu.1
 split
 ·exact h.dL _ _ hx.wu.1
 split
 ·exact h.dM _
 ·exact h
structure lI (W:World) (o:Mark) (i j:Nat) (w:World) (t r:Nat) (T R:aF):Prop where
 marks:Marks W o w
 tree:f_ o i w t T
 ref:nP o j w r R
 OT:mQ T
 OU:mQ R
def Two (i j:Nat):Nat→Prop:=fun k=>k=i∨k=j
def LY (W:World) (o:Mark) (i j:Nat) (w:World) (t r:Nat) (T R:aF) (e:Ending) (w':World):Prop:=
 ∃bb o',e= .returned (.bool bb)∧Step o (Two i j) w o' w'∧lI W o' i j w' t r T R
def kE (W:World) (o:Mark) (i j:Nat) (w:World) (t r:Nat) (T R:aF) (w':World):Prop:=
 ∃o',Step o (Two i j) w o' w'∧lI W o' i j w' t r T R
theorem lI.grow {W w w':World} {o:Mark} {i j t r:Nat} {T R:aF} (h:lI W o i j w t r T R) (hb:Below w.heap.size w w'):lI W o i j w' t r T R:=
 ⟨h.marks.grow hb,h.tree.grow hb,h.ref.grow hb,h.OT,h.OU⟩
theorem lI.UM {W w:World} {o:Mark} {i j t r:Nat} {T R:aF} (h:lI W o i j w t r T R):fU T:=h.OT.1
theorem lI.UN {W w:World} {o:Mark} {i j t r:Nat} {T R:aF} (h:lI W o i j w t r T R):fU R:=h.OU.1
theorem lI.sV {W w:World} {o:Mark} {i j t r:Nat} {T R:aF} (h:lI W o i j w t r T R):dG T:=h.OT.1.1
theorem lI.uI {W w:World} {o:Mark} {i j t r:Nat} {T R:aF} (h:lI W o i j w t r T R):dG R:=h.OU.1.1
section
variable {W w w6 w7 w8:World} {o o6 o8:Mark} {i j t r:Nat} {T R T' R':aF}
theorem kE.rest (h:lI W o i j w t r T R) (hb:Below w.heap.size w w6):kE W o i j w t r T R w6:=⟨o,Step.grow h.marks hb,h.grow hb⟩
theorem lI.mid (h:lI W o i j w t r T R) (hi:0<i) (hij:i≠j) (h1:Step o (fun k=>k=i) w o6 w6):Marks W o6 w6∧nP o6 j w6 r R:=
 ⟨h.marks.step1 hi h1,h.ref.step (I:=fun k=>k=i) (fun e=>by have e':0=i:=e;omega) (fun e=>hij e.symm) h1⟩
theorem kE.of (h:lI W o i j w t r T R) (hi:0<i) (hj:0<j) (hij:i≠j) (h1:Step o (fun k=>k=i) w o6 w6) (hT:f_ o6 i w6 t T') (h2:Step o6 (fun k=>k=j) w6 o8 w8) (hR:nP o8 j w8 r R') (OT:mQ T') (OU:mQ R'):kE W o i j w t r T' R' w8:=by
 have qD:=(h.mid hi hij h1).1
 exact⟨o8,(h1.mono fun k hk=>Or.inl hk).trans (h2.mono fun k hk=>Or.inr hk),qD.step1 hj h2,hT.step1 hj hij h2,hR,OT,OU⟩
end
theorem Step.same {w w':World} {o o':Mark} {I:Nat→Prop} (h:Step o I w o' w') (hi:¬I 0) {b:Nat} (hb:Free o w b):w'.heap[b]? =w.heap[b]? :=h.block hb.2 (by rw[hb.1];exact hi)
theorem Free.zero {o:Mark} {w:World} {b:Nat} (h:Free o w b):o b=0:=h.1
theorem jJ {w w':World} {o o':Mark} {I:Nat→Prop} {a:Option Addr} {n:Nat} {ss:List ByteArray} (h:aH (Free o w) w a n ss) (hi:¬I 0) (hs:Step o I w o' w'):aH (Free o w) w' a n ss:=
 h.kept hs.keep.size fun b hb hbw=>hs.same hi hb
theorem Cw {T:aF} (id:Int):∃(v0 v1 v2 v3 v4:Int) (v5:Bool),iI T id= .agg #[.int .i64 v0, .int .i64 v1, .int .i64 v2, .int .i64 v3, .int .u64 v4, .bool v5]:=by
 unfold iI
 cases aj id T with
 |none=>exact⟨_,_,_,_,_,_,rfl⟩
 |some y=>exact⟨_,_,_,_,_,_,rfl⟩
section
variable {W w:World} {o:Mark} {i t:Nat} {T:aF}
theorem LZ {S:Nat→Prop} (h:f_ o i w t T) (hT:dG T) (a:Option Addr) (n c:Nat) (ls:List Nm) (hS:aH S w a n (ls.map strOf)):
  Calls Tryz.prog 115 #[ptr t, .slice a n c] w fun e w'=>e= .returned (.tuple #[.int .i64 (eO T ls).1, .int .i64 (eO T ls).2])∧Below w.heap.size w w':=by
 obtain⟨g,D,mb,ib,nb,hA,hg,hD⟩:=h
 exact Ew a n c ls w hA hT hS
theorem L6 (h:f_ o i w t T) (hT:dG T) (id:Int) (hid:(Lit.int .i64 id).wf=true):Calls Tryz.prog 116 #[ptr t, .int .i64 id] w (sw w (kT T id)):=by
 obtain⟨g,D,mb,ib,nb,hA,hg,hD⟩:=h
 exact EB id w hA hT hid
theorem L8 (h:f_ o i w t T) (hT:dG T) (id at_ n:Int) (hid:(Lit.int .i64 id).wf=true) (hA:(Lit.int .i64 at_).wf=true) (hN:(Lit.int .i64 n).wf=true):
  Calls Tryz.prog 27 #[ptr t, .int .i64 id, .int .i64 at_, .int .i64 n] w (qw w (lZ T id at_ n) (lY T id at_ n)):=by
 obtain⟨g,D,mb,ib,nb,hAt,hg,hD⟩:=h
 exact Bb id at_ n w hAt (fun x hx=>(hT.each id x hx).size) hid hA hN
theorem L9 (h:f_ o i w t T) (id:Int) (hid:(Lit.int .i64 id).wf=true):
  Calls Tryz.prog 95 #[ptr t, .int .i64 id] w fun e w'=>e= .returned (.tuple #[iI T id, .bool (aj id T).isSome])∧Below w.heap.size w w':=by
 obtain⟨g,D,mb,ib,nb,hAt,hg,hD⟩:=h
 exact A8 id w hAt hid
theorem xQ (h:f_ o i w t T):Calls Tryz.prog 48 #[ptr t] w fun e w'=>e= .returned (.int .i64 T.length)∧w=w':=by
 obtain⟨g,D,mb,ib,nb,hAt,hg,hD⟩:=h
 exact yK w hAt
end
set_option maxRecDepth 100000 in
set_option maxHeartbeats 32000000 in
theorem MV {W w:World} {o:Mark} {i j t r:Nat} {T R:aF} (x:mG) (ba:Option Addr) (bn bc:Nat) (hB:lI W o i j w t r T R) (hi:0<i) (hj:0<j) (hij:i≠j) (hx:x.Ok) (hbr:av (fun b=>b<W.heap.size) w ba bn (x.b.map bv)) (hbc:bn≤bc) (hbl:bn≤140737488351232):
  Calls Tryz.prog 49 #[ptr t,ptr r,nN ba bn bc x] w (LY W o i j w t r (ig x T) (ig x R)):=by
 have HB:=Lib.hid hB
 have HX:=Lib.hid hx
 have JX:=Lib.hid hbr
 have hWw:=hB.marks.below.size
 have HZ:Hid (∀b,w.heap.size≤b→o b=0):=fun b hb=>Decidable.byContradiction fun h0=>by have:=(hB.marks.new b h0).2;omega
 have GK:Hid (¬(fun k=>k=i) 0∧¬(fun k=>k=j) 0):=⟨fun e=>by have e':0=i:=e;omega,fun e=>by have e':0=j:=e;omega⟩
 have HW0:Hid (∀b,b<W.heap.size→Free o w b):=fun b hb=>⟨Decidable.byContradiction fun h0=>by have:=(hB.marks.new b h0).1;omega,by omega⟩
 unfold nN
 clear hB hx hbr
 go_enter Tryz.func49,Tryz.ntmps49
 go_wp2_with fail
 have I_:(w.alloc (.cells (mq ba bn bc x) 79)).heap[w.heap.size]? =some (.cells (mq ba bn bc x) 79):=(MapKept.heap_alloc w _).1
 have hBa:Below w.heap.size w (w.alloc (.cells (mq ba bn bc x) 79)):=wall w _
 have hza:(w.alloc (.cells (mq ba bn bc x) 79)).heap.size=w.heap.size+1:=by simp
 unfold mq at I_ hBa hza
 generalize (w.alloc (.cells #[.int .i64 x.kind, .int .i64 x.P, .int .i64 x.vE, .bool x.dir, .int .i64 x.id, .int .i64 x.at_, .int .i64 x.n, .slice ba bn bc, .int .u64 x.aK] 79))=w1 at*
 obtain⟨q,hq⟩:∃q,q=w.heap.size:=⟨_,rfl⟩
 rw[←hq]at I_⊢
 have TA:=Lib.hid I_
 obtain⟨c0,c1,c2,c3,c4,c5,c6,c7,c8⟩:=dF (q:=q) (x:=x) I_
 have Qq:=Lib.hid hBa
 have Mv:=Lib.hid hq
 have N8:q<w1.heap.size:=by omega
 have jR:Hid (∀w',Below w1.heap.size w1 w'→w'.cell? ⟨q,1,none⟩=some (.int .i64 x.P)∧w'.cell? ⟨q,2,none⟩=some (.int .i64 x.vE)):=fun w' hb=>⟨(hb.cell (p:=⟨q,1,none⟩) N8).trans c1,(hb.cell (p:=⟨q,2,none⟩) N8).trans c2⟩
 clear I_ hBa hq c0 c3 c4 c5 c6 c7 c8
 refine wp_region_noPanic ?_
 refine wp_region_held_drew (S:=(fun w'=>w'.cell? ⟨q,1,none⟩=some (.int .i64 x.P)∧w'.cell? ⟨q,2,none⟩=some (.int .i64 x.vE))) (by kernel_rfl) ?_ (fun hS=> ?_)
 ·exact jR.out _ (Below.refl _ _).drew
 refine aS 0 (hS:=hS) (h:= ?_)
 refine aS 1 (hS:=hS) (h:= ?_)
 refine aS 3 (hS:=hS) (h:= ?_)
 refine aS 4 (hS:=hS) (h:= ?_)
 refine p9 2 (h:=fun K hK=> ?_)
 go_simp
 (with_reducible refine(qG _ HX.out.wp _).mono ?_)
 rintro e w2 ⟨a1,k1,rfl,hk1,hs1,hb2⟩
 have lG:Below w1.heap.size w1 w2:=(Below.refl _ _).drew.trans hb2
 go_wp2_with fail
 refine hK.out _ _ (jR.out _ lG) (fun hS=> ?_)
 clear hK K
 try simp only[Act.put,List.setIfInBounds_toArray,List.set_cons_zero,List.set_cons_succ]
 refine p9 5 (h:=fun K hK=> ?_)
 go_simp
 (with_reducible refine(qG _ HX.out.wt _).mono ?_)
 rintro e w3 ⟨a2,k2,rfl,hk2,hs2,hb3⟩
 have wW:Below w1.heap.size w1 w3:=lG.trans (hb3.mono lG.size)
 go_wp2_with fail
 refine hK.out _ _ (jR.out _ wW) (fun hS=> ?_)
 clear hK K
 try simp only[Act.put,List.setIfInBounds_toArray,List.set_cons_zero,List.set_cons_succ]
 refine aS 6 (hS:=hS) (h:= ?_)
 refine aS 7 (hS:=hS) (h:= ?_)
 refine wpAnyH_done (by kernel_rfl) ?_ _
 refine NoPanic.normal ?_
 clear hS
 have UO:Hid (∀b,w1.heap.size≤b∧b<w3.heap.size→Free o w3 b):=fun b hb=>⟨HZ.out b (by omega),hb.2⟩
 have lq:Hid (aH (Free o w3) w3 a1 (dO x.P).length ((dO x.P).map strOf)):=by
  refine(hs1.below hb3 (Nat.le_refl _)).mono fun b hb=>UO.out b ⟨hb.1,?_⟩
  have:=hb3.size
  omega
 have HS2:Hid (aH (Free o w3) w3 a2 (dO x.vE).length ((dO x.vE).map strOf)):=by
  refine hs2.mono fun b hb=>UO.out b ⟨?_,hb.2⟩
  have:=lG.size
  omega
 have hn1:=lD x.P
 have hn2:=lD x.vE
 obtain⟨l1,hg1⟩:∃l,l=dO x.P:=⟨_,rfl⟩
 obtain⟨l2,hg2⟩:∃l,l=dO x.vE:=⟨_,rfl⟩
 have HG:=Lib.hid (And.intro hg1 hg2)
 rw[←hg1]at lq hn1 hk1⊢
 rw[←hg2]at HS2 hn2 hk2⊢
 obtain⟨m1,hm1⟩:∃m,m=l1.length:=⟨_,rfl⟩
 obtain⟨m2,hm2⟩:∃m,m=l2.length:=⟨_,rfl⟩
 rw[←hm1]at hk1 hn1 lq⊢
 rw[←hm2]at hk2 hn2 HS2⊢
 have hh3:w3.heap[q]? =some (.cells (mq ba bn bc x) 79 (0,0)):=(wW.block q N8).trans TA.out
 have KW:=Lib.hid hh3
 have yh:Below w.heap.size w w3:=Qq.out.trans (wW.mono (by omega))
 have gu:=Lib.hid (HB.out.grow yh)
 have hq3:q<w3.heap.size:=by have:=wW.size;omega
 have Pz:Hid (Free o w3 q):=⟨HZ.out q (by have:=Mv.out;omega),hq3⟩
 have N9:=Lib.hid ((JX.out.below yh (Nat.le_refl _)).mono fun b hb=>(show Free o w3 b from⟨(HW0.out b hb).1,by have:=yh.size;omega⟩))
 have Ja:=Lib.hid yh
 have Av:Hid (mQ (ig x T)∧mQ (ig x R)):=⟨HB.out.OT.ig x HX.out,HB.out.OU.ig x HX.out⟩
 obtain⟨c0,c1',c2',c3,c4,c5,c6,c7,c8⟩:=dF hh3
 have CF:Hid (∀wz:World,Calls Tryz.prog 54 #[.slice ba bn bc, .int .i64 100] wz fun e w'=>e= .returned (.slice ba (min bn 100) bc)∧wz=w'):=fun wz=>EK ba bn bc 100 hbc (by omega) (by unfold maxLen;omega) wz
 clear hs1 hs2 hb2 hb3 lG wW hg1 hg2 hm1 hm2 hh3 yh c1 c2 UO
 go_wp2_with fail
 (with_reducible refine(CF.out _).mono ?_)
 rintro e w4 ⟨rfl,rfl⟩
 have Jb:Hid (av (Free o w3) w3 ba (min bn 100) ((x.b.take 100).map bv)):=by
  have:=N9.out.take 100
  rwa [←List.map_take]at this
 have N_:min bn 100≤100:=Nat.min_le_right _ _
 generalize min bn 100=bm at*
 have jf:Hid (∀o6 w6,Step o (fun k=>k=i) w3 o6 w6→w6.heap[q]? =some (.cells (mq ba bn bc x) 79 (0,0))):=fun o6 w6 hs=>(hs.same GK.out.1 Pz.out).trans KW.out
 have qQ:Hid (∀w8,kE W o i j w3 t r (ig x T) (ig x R) w8→LY W o i j w t r (ig x T) (ig x R) (.returned (.bool false)) w8):=fun w8 ⟨o8,h8,h9⟩=>⟨false,o8,rfl,(Step.grow HB.out.marks Ja.out).trans h8,h9⟩
 go_upto_block 0 with(fail)
 go_cut [] (fun wx=>kE W o i j w3 t r (ig x T) (ig x R) wx)
 case first=>
  by_cases hk:x.kind=1
  ·have e1:(x.kind==1)=true:=by simpa using hk
   as_aux_lemma=>
    have KX:Hid (∀wz,Calls Tryz.prog 114 #[nN ba bn bc x] wz fun e w'=>e= .returned (.int .i64 (GJ x))∧Below wz.heap.size wz w'):=fun wz=>BP ba bn bc x wz
    have qR:Hid (ig x T=(cu T l1 (GJ x)).2∧ig x R=(cu R l1 (GJ x)).2):=by
     obtain⟨h1,h2⟩:=HG.out
     subst h1 h2
     exact⟨ML hk T,ML hk R⟩
    clear hk
    obtain⟨kd,hkd⟩:∃kd,kd=GJ x:=⟨_,rfl⟩
    rw[←hkd]at KX qR
    unfold nN at KX
    clear hkd
    go_wp2_with fail
    (with_reducible refine(KX.out _).mono ?_)
    rintro e w5 ⟨rfl,hb5⟩
    have iR:=Lib.hid hb5
    have HDR:=Lib.hid (gu.out.grow hb5)
    clear hb5
    go_wp2_with fail
    (with_reducible refine(KZ HDR.out.tree HDR.out.marks (by omega) HB.out.sV a1 m1 k1 l1 kd (lq.out.below iR.out (Nat.le_refl _)) hk1 (by omega)).mono ?_)
    rintro e w6 ⟨rfl,o6,sW,qY⟩
    have hs6:=Step.behind gu.out.marks iR.out sW
    obtain⟨qD,oo⟩:=gu.out.mid hi hij hs6
    have jK:=Lib.hid hs6
    have g_:=Lib.hid qY
    have uX:=Lib.hid qD
    have wX:=Lib.hid oo
    clear hs6 sW qY qD oo
    obtain⟨d0,d1,d2,d3,d4,d5,d6,d7,d8⟩:=dF (jf.out _ _ jK.out)
    have yj:q<w6.heap.size:=Nat.lt_of_lt_of_le hq3 jK.out.keep.size
    go_wp2_with fail
    (with_reducible refine(KX.out _).mono ?_)
    rintro e w7 ⟨rfl,Jc⟩
    have qO:=Lib.hid Jc
    clear Jc
    go_wp2_with fail
    (with_reducible refine(Li (wX.out.grow qO.out) (uX.out.grow qO.out) HB.out.uI a1 m1 k1 l1 kd ((jJ lq.out GK.out.1 jK.out).below qO.out (Nat.le_refl _)) hk1 (by omega)).mono ?_)
    rintro e w8 ⟨rfl,o8,Q8,vk⟩
    have mH:=Step.behind uX.out qO.out Q8
    clear Q8
    have jA:Hid (kE W o i j w3 t r (ig x T) (ig x R) w8):=by
     have h2:=Av.out
     rw[qR.out.1,qR.out.2]at h2⊢
     exact kE.of gu.out hi hj hij jK.out g_.out mH vk h2.1 h2.2
    clear mH vk
    generalize (cu T l1 kd).1.1=va
    generalize (cu R l1 kd).1.1=vb
    generalize (cu T l1 kd).1.2=ua
    generalize (cu R l1 kd).1.2=ub
    by_cases hv:va=vb
    ·subst hv
     by_cases hu:ua=ub
     ·subst hu
      go_wp2_with fail
      go_meet
      exact jA.out
     ·have hu1:(ua==ub)=false:=by simpa using hu
      have hu2:decide (ua=ub)=false:=by simpa using hu
      clear hu
      go_wp2_with fail
      go_ret
      exact qQ.out _ jA.out
    ·have hv1:(va==vb)=false:=by simpa using hv
     have hv2:decide (va=vb)=false:=by simpa using hv
     clear hv
     go_wp2_with fail
     go_ret
     exact qQ.out _ jA.out
  ·have e1:(x.kind==1)=false:=by simpa using hk
   by_cases hk:x.kind=2
   ·have e2:(x.kind==2)=true:=by simpa using hk
    as_aux_lemma=>
     have qR:Hid (ig x T=(dz T l1 l2).2∧ig x R=(dz R l1 l2).2):=by
      obtain⟨h1,h2⟩:=HG.out
      subst h1 h2
      exact⟨MN hk T,MN hk R⟩
     clear hk
     go_wp2_with fail
     (with_reducible refine(Le gu.out.tree gu.out.marks (by omega) HB.out.sV a1 m1 k1 l1 a2 m2 k2 l2 lq.out HS2.out hk2 (by omega)).mono ?_)
     rintro e w6 ⟨rfl,o6,hs6,qY⟩
     obtain⟨qD,oo⟩:=gu.out.mid hi hij hs6
     have jK:=Lib.hid hs6
     have g_:=Lib.hid qY
     have uX:=Lib.hid qD
     have wX:=Lib.hid oo
     clear hs6 qY qD oo
     go_wp2_with fail
     (with_reducible refine(Lj wX.out uX.out HB.out.uI a1 m1 k1 l1 a2 m2 k2 l2 (jJ lq.out GK.out.1 jK.out) (jJ HS2.out GK.out.1 jK.out) hk2 (by omega)).mono ?_)
     rintro e w8 ⟨rfl,o8,mH,vk⟩
     have jA:Hid (kE W o i j w3 t r (ig x T) (ig x R) w8):=by
      have h2:=Av.out
      rw[qR.out.1,qR.out.2]at h2⊢
      exact kE.of gu.out hi hj hij jK.out g_.out mH vk h2.1 h2.2
     clear mH vk
     generalize (dz T l1 l2).1=va
     generalize (dz R l1 l2).1=vb
     by_cases hv:va=vb
     ·have hv1:(va==vb)=true:=by simpa using hv
      have hv2:decide (va=vb)=true:=by simpa using hv
      clear hv
      go_wp2_with fail
      go_meet
      exact jA.out
     ·have hv1:(va==vb)=false:=by simpa using hv
      have hv2:decide (va=vb)=false:=by simpa using hv
      clear hv
      go_wp2_with fail
      go_ret
      exact qQ.out _ jA.out
   ·have e2:(x.kind==2)=false:=by simpa using hk
    by_cases hk:x.kind=3
    ·have e3:(x.kind==3)=true:=by simpa using hk
     as_aux_lemma=>
      have qR:Hid (ig x T=(bB T l1).2∧ig x R=(bB R l1).2):=by
       obtain⟨h1,h2⟩:=HG.out
       subst h1 h2
       exact⟨MO hk T,MO hk R⟩
      clear hk
      go_wp2_with fail
      (with_reducible refine(Gg gu.out.tree gu.out.marks (by omega) HB.out.sV a1 m1 k1 l1 lq.out hk1 (by omega)).mono ?_)
      rintro e w6 ⟨rfl,o6,hs6,qY⟩
      obtain⟨qD,oo⟩:=gu.out.mid hi hij hs6
      have jK:=Lib.hid hs6
      have g_:=Lib.hid qY
      have uX:=Lib.hid qD
      have wX:=Lib.hid oo
      clear hs6 qY qD oo
      go_wp2_with fail
      (with_reducible refine(Gi wX.out uX.out HB.out.uI a1 m1 k1 l1 (jJ lq.out GK.out.1 jK.out) hk1 (by omega)).mono ?_)
      rintro e w8 ⟨rfl,o8,mH,vk⟩
      have jA:Hid (kE W o i j w3 t r (ig x T) (ig x R) w8):=by
       have h2:=Av.out
       rw[qR.out.1,qR.out.2]at h2⊢
       exact kE.of gu.out hi hj hij jK.out g_.out mH vk h2.1 h2.2
      clear mH vk
      generalize (bB T l1).1=va
      generalize (bB R l1).1=vb
      by_cases hv:va=vb
      ·have hv1:(va==vb)=true:=by simpa using hv
       have hv2:decide (va=vb)=true:=by simpa using hv
       clear hv
       go_wp2_with fail
       go_meet
       exact jA.out
      ·have hv1:(va==vb)=false:=by simpa using hv
       have hv2:decide (va=vb)=false:=by simpa using hv
       clear hv
       go_wp2_with fail
       go_ret
       exact qQ.out _ jA.out
    ·have e3:(x.kind==3)=false:=by simpa using hk
     by_cases hk:x.kind=4
     ·have e4:(x.kind==4)=true:=by simpa using hk
      as_aux_lemma=>
       have qR:Hid (ig x T=(bU T l1).2∧ig x R=(bU R l1).2):=by
        obtain⟨h1,h2⟩:=HG.out
        subst h1 h2
        exact⟨MP hk T,MP hk R⟩
       clear hk
       go_wp2_with fail
       (with_reducible refine(Jq gu.out.tree gu.out.marks (by omega) HB.out.sV a1 m1 k1 l1 lq.out hk1 (by omega)).mono ?_)
       rintro e w6 ⟨rfl,o6,hs6,qY⟩
       obtain⟨qD,oo⟩:=gu.out.mid hi hij hs6
       have jK:=Lib.hid hs6
       have g_:=Lib.hid qY
       have uX:=Lib.hid qD
       have wX:=Lib.hid oo
       clear hs6 qY qD oo
       go_wp2_with fail
       (with_reducible refine(Jr wX.out uX.out HB.out.uI a1 m1 k1 l1 (jJ lq.out GK.out.1 jK.out) hk1 (by omega)).mono ?_)
       rintro e w8 ⟨rfl,o8,mH,vk⟩
       have jA:Hid (kE W o i j w3 t r (ig x T) (ig x R) w8):=by
        have h2:=Av.out
        rw[qR.out.1,qR.out.2]at h2⊢
        exact kE.of gu.out hi hj hij jK.out g_.out mH vk h2.1 h2.2
       clear mH vk
       generalize (bU T l1).1=va
       generalize (bU R l1).1=vb
       by_cases hv:va=vb
       ·have hv1:(va==vb)=true:=by simpa using hv
        have hv2:decide (va=vb)=true:=by simpa using hv
        clear hv
        go_wp2_with fail
        go_meet
        exact jA.out
       ·have hv1:(va==vb)=false:=by simpa using hv
        have hv2:decide (va=vb)=false:=by simpa using hv
        clear hv
        go_wp2_with fail
        go_ret
        exact qQ.out _ jA.out
     ·have e4:(x.kind==4)=false:=by simpa using hk
      by_cases hk:x.kind=5
      ·have e5:(x.kind==5)=true:=by simpa using hk
       as_aux_lemma=>
        have qR:Hid (ig x T=(aT T l1 l2).2∧ig x R=(aT R l1 l2).2):=by
         obtain⟨h1,h2⟩:=HG.out
         subst h1 h2
         exact⟨MQ hk T,MQ hk R⟩
        clear hk
        go_wp2_with fail
        (with_reducible refine(Gh gu.out.tree gu.out.marks (by omega) HB.out.UM a1 m1 k1 l1 a2 m2 k2 l2 lq.out HS2.out hk1 (by omega) hk2 (by omega)).mono ?_)
        rintro e w6 ⟨rfl,o6,hs6,qY⟩
        obtain⟨qD,oo⟩:=gu.out.mid hi hij hs6
        have jK:=Lib.hid hs6
        have g_:=Lib.hid qY
        have uX:=Lib.hid qD
        have wX:=Lib.hid oo
        clear hs6 qY qD oo
        go_wp2_with fail
        (with_reducible refine(Gj wX.out uX.out HB.out.UN a1 m1 k1 l1 a2 m2 k2 l2 (jJ lq.out GK.out.1 jK.out) (jJ HS2.out GK.out.1 jK.out) hk1 (by omega) hk2 (by omega)).mono ?_)
        rintro e w8 ⟨rfl,o8,mH,vk⟩
        have jA:Hid (kE W o i j w3 t r (ig x T) (ig x R) w8):=by
         have h2:=Av.out
         rw[qR.out.1,qR.out.2]at h2⊢
         exact kE.of gu.out hi hj hij jK.out g_.out mH vk h2.1 h2.2
        clear mH vk
        generalize (aT T l1 l2).1=va
        generalize (aT R l1 l2).1=vb
        by_cases hv:va=vb
        ·have hv1:(va==vb)=true:=by simpa using hv
         have hv2:decide (va=vb)=true:=by simpa using hv
         clear hv
         go_wp2_with fail
         go_meet
         exact jA.out
        ·have hv1:(va==vb)=false:=by simpa using hv
         have hv2:decide (va=vb)=false:=by simpa using hv
         clear hv
         go_wp2_with fail
         go_ret
         exact qQ.out _ jA.out
      ·have e5:(x.kind==5)=false:=by simpa using hk
       by_cases hk:x.kind=6
       ·have e6:(x.kind==6)=true:=by simpa using hk
        as_aux_lemma=>
         have qR:Hid (ig x T=(bK T x.id (x.b.take 100)).2∧ig x R=(bK R x.id (x.b.take 100)).2):=by
          obtain⟨h1,h2⟩:=HG.out
          subst h1 h2
          exact⟨MR hk T,MR hk R⟩
         clear hk
         have Aj:Hid (∀o6 w6,Step o (fun k=>k=i) w3 o6 w6→w6.cell? ⟨q,4,none⟩=some (.int .i64 x.id)∧w6.cell? ⟨q,8,none⟩=some (.int .u64 x.aK)):=fun o6 w6 hs=>by
          obtain⟨d0,d1,d2,d3,d4,d5,d6,d7,d8⟩:=dF (jf.out o6 w6 hs)
          exact⟨d4,d8⟩
         have HDR:=Lib.hid (gu.out.grow (Below.refl _ _).drew)
         go_wp2_with fail
         refine wp_region_noPanic ?_
         refine wp_region_held_drew (S:=(fun w'=>w'.cell? ⟨q,4,none⟩=some (.int .i64 x.id)∧w'.cell? ⟨q,8,none⟩=some (.int .u64 x.aK))) (by kernel_rfl) ?_ (fun hS=> ?_)
         ·exact⟨c4,c8⟩
         refine aS 0 (hS:=hS) (h:= ?_)
         refine aS 1 (hS:=hS) (h:= ?_)
         refine aS 2 (hS:=hS) (h:= ?_)
         refine aS 3 (hS:=hS) (h:= ?_)
         refine aS 5 (hS:=hS) (h:= ?_)
         refine aS 6 (hS:=hS) (h:= ?_)
         refine aS 7 (hS:=hS) (h:= ?_)
         refine aS 8 (hS:=hS) (h:= ?_)
         refine p9 4 (h:=fun K hK=> ?_)
         go_simp
         (with_reducible refine(Ga HDR.out.tree HDR.out.marks (by omega) HB.out.sV x.id ba bm bc (x.b.take 100) HX.out.wi (Jb.out.below (Below.refl _ _).drew (Nat.le_refl _)) (by omega)).mono ?_)
         rintro e w6 ⟨rfl,o6,sW,qY⟩
         have hs6:=Step.behind gu.out.marks (Below.refl _ _).drew sW
         obtain⟨qD,oo⟩:=gu.out.mid hi hij hs6
         have jK:=Lib.hid hs6
         have g_:=Lib.hid qY
         have uX:=Lib.hid qD
         have wX:=Lib.hid oo
         clear hs6 sW qY qD oo
         go_wp2_with fail
         refine hK.out _ _ (Aj.out _ _ jK.out) (fun hS=> ?_)
         clear hK K
         try simp only[Act.put,List.setIfInBounds_toArray,List.set_cons_zero,List.set_cons_succ]
         refine p9 9 (h:=fun K hK=> ?_)
         go_simp
         (with_reducible refine(Gl wX.out uX.out (by omega) HB.out.uI x.id ba bm bc (x.b.take 100) (Jb.out.free GK.out.1 jK.out) (fun b hb=>Free.zero hb) (by omega)).mono ?_)
         rintro e w8 ⟨rfl,o8,mH,vk⟩
         have vL:w8.cell? ⟨q,4,none⟩=some (.int .i64 x.id)∧w8.cell? ⟨q,8,none⟩=some (.int .u64 x.aK):=by
          have yj:q<w6.heap.size:=Nat.lt_of_lt_of_le hq3 jK.out.keep.size
          have h0:o6 q=0:=(jK.out.old q hq3).trans Pz.out.1
          obtain⟨d0,d1,d2,d3,d4,d5,d6,d7,d8⟩:=dF ((mH.same GK.out.2 ⟨h0,yj⟩).trans (jf.out o6 w6 jK.out))
          exact⟨d4,d8⟩
         have CP:=Lib.hid vL
         clear vL
         have jA:Hid (kE W o i j w3 t r (ig x T) (ig x R) w8):=by
          have h2:=Av.out
          rw[qR.out.1,qR.out.2]at h2⊢
          exact kE.of gu.out hi hj hij jK.out g_.out mH vk h2.1 h2.2
         clear mH vk
         generalize (bK T x.id (x.b.take 100)).1=va
         generalize (bK R x.id (x.b.take 100)).1=vb
         by_cases hv:va=vb
         ·have hv1:(va==vb)=true:=by simpa using hv
          have hv2:decide (va=vb)=true:=by simpa using hv
          clear hv
          go_wp2_with fail
          refine hK.out _ _ (CP.out) (fun hS=> ?_)
          clear hK K
          try simp only[Act.put,List.setIfInBounds_toArray,List.set_cons_zero,List.set_cons_succ]
          refine aS 10 (hS:=hS) (h:= ?_)
          refine wpAnyH_done (by kernel_rfl) ?_ _
          refine NoPanic.normal ?_
          clear hS
          go_wp2_with fail
          go_meet
          exact jA.out
         ·have hv1:(va==vb)=false:=by simpa using hv
          have hv2:decide (va=vb)=false:=by simpa using hv
          clear hv
          go_wp2_with fail
          refine hK.out _ _ (CP.out) (fun hS=> ?_)
          clear hK K
          try simp only[Act.put,List.setIfInBounds_toArray,List.set_cons_zero,List.set_cons_succ]
          refine aS 10 (hS:=hS) (h:= ?_)
          refine wpAnyH_done (by kernel_rfl) ?_ _
          refine NoPanic.normal ?_
          clear hS
          go_wp2_with fail
          go_ret
          exact qQ.out _ jA.out
       ·have e6:(x.kind==6)=false:=by simpa using hk
        by_cases hk:x.kind=7
        ·have e7:(x.kind==7)=true:=by simpa using hk
         as_aux_lemma=>
          have qR:Hid (ig x T=T∧ig x R=R):=⟨vM (Or.inr hk) T,vM (Or.inr hk) R⟩
          clear hk
          obtain⟨F,Q9,-,-⟩:=gu.out.ref
          have L_:=Lib.hid Q9
          clear Q9
          go_wp2_with fail
          (with_reducible refine(L8 gu.out.tree HB.out.sV x.id x.at_ x.n HX.out.wi HX.out.wa HX.out.wn).mono ?_)
          rintro e w6 ⟨a6,n6,k6,rfl,-,Qu,hb6⟩
          have oM:=Lib.hid hb6
          have wX:=Lib.hid Qu
          have HRR:=Lib.hid (zh x.id x.at_ x.n w6 (L_.out.below hb6 (Nat.le_refl _)) HB.out.uI.tovw HX.out.wa HX.out.wn)
          have d4:=(hb6.cell (p:=⟨q,4,none⟩) hq3).trans c4
          have d5:=(hb6.cell (p:=⟨q,5,none⟩) hq3).trans c5
          have d6:=(hb6.cell (p:=⟨q,6,none⟩) hq3).trans c6
          clear hb6 Qu
          generalize lZ T x.id x.at_ x.n=rb at*
          generalize lY T x.id x.at_ x.n=re at*
          generalize lZ R x.id x.at_ x.n=rc at*
          generalize lY R x.id x.at_ x.n=rf at*
          go_wp2_with fail
          (with_reducible refine HRR.out.mono ?_)
          rintro e w7 ⟨a7,n7,k7,rfl,Qv,rfl⟩
          have TG:(convert 39 9 (.slice a6 n6 k6)).run Tryz.prog w6= .ok (.string (strOf rb)) w6:=dK wX.out
          have TH:(convert 39 9 (.slice a7 n7 k7)).run Tryz.prog w6= .ok (.string (strOf rc)) w6:=dK Qv
          have jA:Hid (kE W o i j w3 t r (ig x T) (ig x R) w6):=by
           rw[qR.out.1,qR.out.2]
           exact kE.rest gu.out oM.out
          clear Qv
          generalize strOf rb=sa at*
          generalize strOf rc=sb at*
          by_cases hv:sa.toList=sb.toList
          ·by_cases hu:re=rf
           ·subst hu
            go_wp2_with fail
            go_meet
            exact jA.out
           ·have hu1:(re==rf)=false:=by simpa using hu
            have hu2:decide (re=rf)=false:=by simpa using hu
            clear hu
            go_wp2_with fail
            go_ret
            exact qQ.out _ jA.out
          ·have hv2:decide (sa.toList=sb.toList)=false:=by simpa using hv
           go_wp2_with fail
           go_ret
           exact qQ.out _ jA.out
        ·have e7:(x.kind==7)=false:=by simpa using hk
         by_cases hk:x.kind=8
         ·have e8:(x.kind==8)=true:=by simpa using hk
          as_aux_lemma=>
           have qR:Hid (ig x T=(dR T x.id x.aK).2∧ig x R=(dR R x.id x.aK).2):=by
            obtain⟨h1,h2⟩:=HG.out
            subst h1 h2
            exact⟨MS hk T,MS hk R⟩
           clear hk
           have Aj:Hid (∀o6 w6,Step o (fun k=>k=i) w3 o6 w6→w6.cell? ⟨q,4,none⟩=some (.int .i64 x.id)∧w6.cell? ⟨q,8,none⟩=some (.int .u64 x.aK)):=fun o6 w6 hs=>by
            obtain⟨d0,d1,d2,d3,d4,d5,d6,d7,d8⟩:=dF (jf.out o6 w6 hs)
            exact⟨d4,d8⟩
           have HDR:=Lib.hid (gu.out.grow (Below.refl _ _).drew)
           go_wp2_with fail
           refine wp_region_noPanic ?_
           refine wp_region_held_drew (S:=(fun w'=>w'.cell? ⟨q,4,none⟩=some (.int .i64 x.id)∧w'.cell? ⟨q,8,none⟩=some (.int .u64 x.aK))) (by kernel_rfl) ?_ (fun hS=> ?_)
           ·exact⟨c4,c8⟩
           refine aS 0 (hS:=hS) (h:= ?_)
           refine aS 1 (hS:=hS) (h:= ?_)
           refine aS 2 (hS:=hS) (h:= ?_)
           refine aS 3 (hS:=hS) (h:= ?_)
           refine aS 4 (hS:=hS) (h:= ?_)
           refine aS 6 (hS:=hS) (h:= ?_)
           refine aS 7 (hS:=hS) (h:= ?_)
           refine aS 8 (hS:=hS) (h:= ?_)
           refine aS 9 (hS:=hS) (h:= ?_)
           refine aS 10 (hS:=hS) (h:= ?_)
           refine p9 5 (h:=fun K hK=> ?_)
           go_simp
           (with_reducible refine(Lf HDR.out.tree HDR.out.marks (by omega) x.id x.aK HX.out.wi HX.out.wu.1 HX.out.wu.2).mono ?_)
           rintro e w6 ⟨rfl,o6,sW,qY⟩
           have hs6:=Step.behind gu.out.marks (Below.refl _ _).drew sW
           obtain⟨qD,oo⟩:=gu.out.mid hi hij hs6
           have jK:=Lib.hid hs6
           have g_:=Lib.hid qY
           have uX:=Lib.hid qD
           have wX:=Lib.hid oo
           clear hs6 sW qY qD oo
           go_wp2_with fail
           refine hK.out _ _ (Aj.out _ _ jK.out) (fun hS=> ?_)
           clear hK K
           try simp only[Act.put,List.setIfInBounds_toArray,List.set_cons_zero,List.set_cons_succ]
           refine p9 11 (h:=fun K hK=> ?_)
           go_simp
           (with_reducible refine(Ll wX.out uX.out HB.out.uI x.id x.aK HX.out.wu).mono ?_)
           rintro e w8 ⟨rfl,o8,mH,vk⟩
           have vL:w8.cell? ⟨q,4,none⟩=some (.int .i64 x.id)∧w8.cell? ⟨q,8,none⟩=some (.int .u64 x.aK):=by
            have yj:q<w6.heap.size:=Nat.lt_of_lt_of_le hq3 jK.out.keep.size
            have h0:o6 q=0:=(jK.out.old q hq3).trans Pz.out.1
            obtain⟨d0,d1,d2,d3,d4,d5,d6,d7,d8⟩:=dF ((mH.same GK.out.2 ⟨h0,yj⟩).trans (jf.out o6 w6 jK.out))
            exact⟨d4,d8⟩
           have CP:=Lib.hid vL
           clear vL
           have jA:Hid (kE W o i j w3 t r (ig x T) (ig x R) w8):=by
            have h2:=Av.out
            rw[qR.out.1,qR.out.2]at h2⊢
            exact kE.of gu.out hi hj hij jK.out g_.out mH vk h2.1 h2.2
           clear mH vk
           generalize (dR T x.id x.aK).1=va
           generalize (dR R x.id x.aK).1=vb
           by_cases hv:va=vb
           ·have hv1:(va==vb)=true:=by simpa using hv
            have hv2:decide (va=vb)=true:=by simpa using hv
            clear hv
            go_wp2_with fail
            refine hK.out _ _ (CP.out) (fun hS=> ?_)
            clear hK K
            try simp only[Act.put,List.setIfInBounds_toArray,List.set_cons_zero,List.set_cons_succ]
            refine aS 12 (hS:=hS) (h:= ?_)
            refine wpAnyH_done (by kernel_rfl) ?_ _
            refine NoPanic.normal ?_
            clear hS
            go_wp2_with fail
            go_meet
            exact jA.out
           ·have hv1:(va==vb)=false:=by simpa using hv
            have hv2:decide (va=vb)=false:=by simpa using hv
            clear hv
            go_wp2_with fail
            refine hK.out _ _ (CP.out) (fun hS=> ?_)
            clear hK K
            try simp only[Act.put,List.setIfInBounds_toArray,List.set_cons_zero,List.set_cons_succ]
            refine aS 12 (hS:=hS) (h:= ?_)
            refine wpAnyH_done (by kernel_rfl) ?_ _
            refine NoPanic.normal ?_
            clear hS
            go_wp2_with fail
            go_ret
            exact qQ.out _ jA.out
         ·have e8:(x.kind==8)=false:=by simpa using hk
          by_cases hk:x.kind=9
          ·have e9:(x.kind==9)=true:=by simpa using hk
           as_aux_lemma=>
            have qR:Hid (ig x T=(dL T x.id x.aK).2∧ig x R=(dL R x.id x.aK).2):=by
             obtain⟨h1,h2⟩:=HG.out
             subst h1 h2
             exact⟨MU hk T,MU hk R⟩
            clear hk
            have Aj:Hid (∀o6 w6,Step o (fun k=>k=i) w3 o6 w6→w6.cell? ⟨q,4,none⟩=some (.int .i64 x.id)∧w6.cell? ⟨q,8,none⟩=some (.int .u64 x.aK)):=fun o6 w6 hs=>by
             obtain⟨d0,d1,d2,d3,d4,d5,d6,d7,d8⟩:=dF (jf.out o6 w6 hs)
             exact⟨d4,d8⟩
            have HDR:=Lib.hid (gu.out.grow (Below.refl _ _).drew)
            go_wp2_with fail
            refine wp_region_noPanic ?_
            refine wp_region_held_drew (S:=(fun w'=>w'.cell? ⟨q,4,none⟩=some (.int .i64 x.id)∧w'.cell? ⟨q,8,none⟩=some (.int .u64 x.aK))) (by kernel_rfl) ?_ (fun hS=> ?_)
            ·exact⟨c4,c8⟩
            refine aS 0 (hS:=hS) (h:= ?_)
            refine aS 1 (hS:=hS) (h:= ?_)
            refine aS 2 (hS:=hS) (h:= ?_)
            refine aS 3 (hS:=hS) (h:= ?_)
            refine aS 4 (hS:=hS) (h:= ?_)
            refine aS 6 (hS:=hS) (h:= ?_)
            refine aS 7 (hS:=hS) (h:= ?_)
            refine aS 8 (hS:=hS) (h:= ?_)
            refine aS 9 (hS:=hS) (h:= ?_)
            refine aS 10 (hS:=hS) (h:= ?_)
            refine p9 5 (h:=fun K hK=> ?_)
            go_simp
            (with_reducible refine(Lg HDR.out.tree HDR.out.marks (by omega) HB.out.sV x.id x.aK HX.out.wi HX.out.wu.1 HX.out.wu.2).mono ?_)
            rintro e w6 ⟨rfl,o6,sW,qY⟩
            have hs6:=Step.behind gu.out.marks (Below.refl _ _).drew sW
            obtain⟨qD,oo⟩:=gu.out.mid hi hij hs6
            have jK:=Lib.hid hs6
            have g_:=Lib.hid qY
            have uX:=Lib.hid qD
            have wX:=Lib.hid oo
            clear hs6 sW qY qD oo
            go_wp2_with fail
            refine hK.out _ _ (Aj.out _ _ jK.out) (fun hS=> ?_)
            clear hK K
            try simp only[Act.put,List.setIfInBounds_toArray,List.set_cons_zero,List.set_cons_succ]
            refine p9 11 (h:=fun K hK=> ?_)
            go_simp
            (with_reducible refine(Lm wX.out uX.out HB.out.uI x.id x.aK HX.out.wu).mono ?_)
            rintro e w8 ⟨rfl,o8,mH,vk⟩
            have vL:w8.cell? ⟨q,4,none⟩=some (.int .i64 x.id)∧w8.cell? ⟨q,8,none⟩=some (.int .u64 x.aK):=by
             have yj:q<w6.heap.size:=Nat.lt_of_lt_of_le hq3 jK.out.keep.size
             have h0:o6 q=0:=(jK.out.old q hq3).trans Pz.out.1
             obtain⟨d0,d1,d2,d3,d4,d5,d6,d7,d8⟩:=dF ((mH.same GK.out.2 ⟨h0,yj⟩).trans (jf.out o6 w6 jK.out))
             exact⟨d4,d8⟩
            have CP:=Lib.hid vL
            clear vL
            have jA:Hid (kE W o i j w3 t r (ig x T) (ig x R) w8):=by
             have h2:=Av.out
             rw[qR.out.1,qR.out.2]at h2⊢
             exact kE.of gu.out hi hj hij jK.out g_.out mH vk h2.1 h2.2
            clear mH vk
            generalize (dL T x.id x.aK).1=va
            generalize (dL R x.id x.aK).1=vb
            by_cases hv:va=vb
            ·have hv1:(va==vb)=true:=by simpa using hv
             have hv2:decide (va=vb)=true:=by simpa using hv
             clear hv
             go_wp2_with fail
             refine hK.out _ _ (CP.out) (fun hS=> ?_)
             clear hK K
             try simp only[Act.put,List.setIfInBounds_toArray,List.set_cons_zero,List.set_cons_succ]
             refine aS 12 (hS:=hS) (h:= ?_)
             refine wpAnyH_done (by kernel_rfl) ?_ _
             refine NoPanic.normal ?_
             clear hS
             go_wp2_with fail
             go_meet
             exact jA.out
            ·have hv1:(va==vb)=false:=by simpa using hv
             have hv2:decide (va=vb)=false:=by simpa using hv
             clear hv
             go_wp2_with fail
             refine hK.out _ _ (CP.out) (fun hS=> ?_)
             clear hK K
             try simp only[Act.put,List.setIfInBounds_toArray,List.set_cons_zero,List.set_cons_succ]
             refine aS 12 (hS:=hS) (h:= ?_)
             refine wpAnyH_done (by kernel_rfl) ?_ _
             refine NoPanic.normal ?_
             clear hS
             go_wp2_with fail
             go_ret
             exact qQ.out _ jA.out
          ·have e9:(x.kind==9)=false:=by simpa using hk
           by_cases hk:x.kind=10
           ·have e10:(x.kind==10)=true:=by simpa using hk
            as_aux_lemma=>
             have qR:Hid (ig x T=(dM T x.id).2∧ig x R=(dM R x.id).2):=by
              obtain⟨h1,h2⟩:=HG.out
              subst h1 h2
              exact⟨JJ hk T,JJ hk R⟩
             clear hk
             have Aj:Hid (∀o6 w6,Step o (fun k=>k=i) w3 o6 w6→w6.cell? ⟨q,4,none⟩=some (.int .i64 x.id)∧w6.cell? ⟨q,8,none⟩=some (.int .u64 x.aK)):=fun o6 w6 hs=>by
              obtain⟨d0,d1,d2,d3,d4,d5,d6,d7,d8⟩:=dF (jf.out o6 w6 hs)
              exact⟨d4,d8⟩
             have HDR:=Lib.hid (gu.out.grow (Below.refl _ _).drew)
             go_wp2_with fail
             refine wp_region_noPanic ?_
             refine wp_region_held_drew (S:=(fun w'=>w'.cell? ⟨q,4,none⟩=some (.int .i64 x.id)∧w'.cell? ⟨q,8,none⟩=some (.int .u64 x.aK))) (by kernel_rfl) ?_ (fun hS=> ?_)
             ·exact⟨c4,c8⟩
             refine aS 0 (hS:=hS) (h:= ?_)
             refine aS 1 (hS:=hS) (h:= ?_)
             refine aS 2 (hS:=hS) (h:= ?_)
             refine aS 4 (hS:=hS) (h:= ?_)
             refine aS 5 (hS:=hS) (h:= ?_)
             refine aS 6 (hS:=hS) (h:= ?_)
             refine p9 3 (h:=fun K hK=> ?_)
             go_simp
             (with_reducible refine(Lh HDR.out.tree HDR.out.marks (by omega) HB.out.sV x.id HX.out.wi).mono ?_)
             rintro e w6 ⟨rfl,o6,sW,qY⟩
             have hs6:=Step.behind gu.out.marks (Below.refl _ _).drew sW
             obtain⟨qD,oo⟩:=gu.out.mid hi hij hs6
             have jK:=Lib.hid hs6
             have g_:=Lib.hid qY
             have uX:=Lib.hid qD
             have wX:=Lib.hid oo
             clear hs6 sW qY qD oo
             go_wp2_with fail
             refine hK.out _ _ (Aj.out _ _ jK.out) (fun hS=> ?_)
             clear hK K
             try simp only[Act.put,List.setIfInBounds_toArray,List.set_cons_zero,List.set_cons_succ]
             refine p9 7 (h:=fun K hK=> ?_)
             go_simp
             (with_reducible refine(Lp wX.out uX.out HB.out.uI x.id).mono ?_)
             rintro e w8 ⟨rfl,o8,mH,vk⟩
             have vL:w8.cell? ⟨q,4,none⟩=some (.int .i64 x.id)∧w8.cell? ⟨q,8,none⟩=some (.int .u64 x.aK):=by
              have yj:q<w6.heap.size:=Nat.lt_of_lt_of_le hq3 jK.out.keep.size
              have h0:o6 q=0:=(jK.out.old q hq3).trans Pz.out.1
              obtain⟨d0,d1,d2,d3,d4,d5,d6,d7,d8⟩:=dF ((mH.same GK.out.2 ⟨h0,yj⟩).trans (jf.out o6 w6 jK.out))
              exact⟨d4,d8⟩
             have CP:=Lib.hid vL
             clear vL
             have jA:Hid (kE W o i j w3 t r (ig x T) (ig x R) w8):=by
              have h2:=Av.out
              rw[qR.out.1,qR.out.2]at h2⊢
              exact kE.of gu.out hi hj hij jK.out g_.out mH vk h2.1 h2.2
             clear mH vk
             generalize (dM T x.id).1=va
             generalize (dM R x.id).1=vb
             by_cases hv:va=vb
             ·have hv1:(va==vb)=true:=by simpa using hv
              have hv2:decide (va=vb)=true:=by simpa using hv
              clear hv
              go_wp2_with fail
              refine hK.out _ _ (CP.out) (fun hS=> ?_)
              clear hK K
              try simp only[Act.put,List.setIfInBounds_toArray,List.set_cons_zero,List.set_cons_succ]
              refine aS 8 (hS:=hS) (h:= ?_)
              refine wpAnyH_done (by kernel_rfl) ?_ _
              refine NoPanic.normal ?_
              clear hS
              go_wp2_with fail
              go_meet
              exact jA.out
             ·have hv1:(va==vb)=false:=by simpa using hv
              have hv2:decide (va=vb)=false:=by simpa using hv
              clear hv
              go_wp2_with fail
              refine hK.out _ _ (CP.out) (fun hS=> ?_)
              clear hK K
              try simp only[Act.put,List.setIfInBounds_toArray,List.set_cons_zero,List.set_cons_succ]
              refine aS 8 (hS:=hS) (h:= ?_)
              refine wpAnyH_done (by kernel_rfl) ?_ _
              refine NoPanic.normal ?_
              clear hS
              go_wp2_with fail
              go_ret
              exact qQ.out _ jA.out
           ·have e10:(x.kind==10)=false:=by simpa using hk
            have qR:Hid (ig x T=T∧ig x R=R):=⟨vM (by omega) T,vM (by omega) R⟩
            go_wp2_with fail
            go_meet
            rw[qR.out.1,qR.out.2]
            exact kE.rest gu.out (Below.refl _ _)
 case rest=>
  as_aux_lemma=>
   obtain⟨o5,hs5,UQ⟩:=hcut
   obtain⟨w5,rfl⟩:∃w5:World,w5=wc:=⟨_,rfl⟩
   have h20:¬Two i j 0:=fun e=>by rcases e with e|e<;>omega
   have hS1:aH (Free o w3) w5 a1 m1 (l1.map strOf):=jJ lq.out h20 hs5
   have Qw:=(hs5.same h20 Pz.out).trans KW.out
   have Ez:=Lib.hid ((Step.grow HB.out.marks Ja.out).trans hs5)
   have Ak:q<w5.heap.size:=Nat.lt_of_lt_of_le hq3 hs5.keep.size
   have HB2:=Lib.hid UQ
   have Pj:=Lib.hid hS1
   obtain⟨F,Q9,-,-⟩:=UQ.ref
   have L_:=Lib.hid Q9
   obtain⟨d0,d1,d2,d3,d4,d5,d6,d7,d8⟩:=dF Qw
   obtain⟨T2,Kg⟩:∃T2,T2=ig x T:=⟨_,rfl⟩
   obtain⟨R2,hR2⟩:∃R2,R2=ig x R:=⟨_,rfl⟩
   rw[←Kg,←hR2]at HB2
   rw[←hR2]at L_
   have HT2:=Lib.hid (And.intro Kg hR2)
   have hE2:(aV R2).length≤1000000:=by have:=gQ HB2.out.uI;omega
   have H1:=Lib.hid (LZ HB2.out.tree HB2.out.sV a1 m1 k1 l1 hS1)
   have H2:=Lib.hid (fun wz (hb:Below w5.heap.size w5 wz)=>qB a1 m1 k1 l1 wz (L_.out.below hb (Nat.le_refl _)) HB2.out.uI hE2 (Pj.out.below hb (Nat.le_refl _)))
   have H3:=Lib.hid (fun wz (hb:Below w5.heap.size w5 wz)=>L9 (HB2.out.tree.grow hb) x.id HX.out.wi)
   have H4:=Lib.hid (fun wz (hb:Below w5.heap.size w5 wz)=>iV x.id wz (L_.out.below hb (Nat.le_refl _)) HB2.out.uI.tovw)
   have H5:=Lib.hid (fun wz (hb:Below w5.heap.size w5 wz)=>L6 (HB2.out.tree.grow hb) HB2.out.sV x.id HX.out.wi)
   have H6:=Lib.hid (fun wz (hb:Below w5.heap.size w5 wz)=>um x.id wz (L_.out.below hb (Nat.le_refl _)) HB2.out.uI)
   have H7:=Lib.hid (fun wz (hb:Below w5.heap.size w5 wz)=>xQ (HB2.out.tree.grow hb))
   obtain⟨v0,v1,v2,v3,v4,v5,hv⟩:=Cw (T:=T2) x.id
   obtain⟨u0,u1,u2,u3,u4,u5,hu⟩:=Cw (T:=R2) x.id
   rw[hv]at H3
   rw[hu]at H4
   have KY:=Lib.hid (fun wz (hb:Below w5.heap.size w5 wz)=>(L_.out.below hb (Nat.le_refl _)).nodes)
   have Xz:r<w5.heap.size:=L_.out.low r L_.out.own
   have UR:Hid (∀(bb:Bool) wz,Below w5.heap.size w5 wz→LY W o i j w t r (ig x T) (ig x R) (.returned (.bool bb)) wz):=fun bb wz hb=>by
    have h9:=HB2.out
    rw[HT2.out.1,HT2.out.2]at h9
    exact⟨bb,o5,rfl,Ez.out.trans (Step.grow h9.marks hb),h9.grow hb⟩
   generalize (aj x.id T2).isSome=sm at*
   generalize (aj x.id R2).isSome=sn at*
   generalize eO T2 l1=lk at*
   generalize eO R2 l1=lr at*
   generalize hlm:kT T2 x.id=lm at*
   generalize hln:kT R2 x.id=ln at*
   obtain⟨Zf,Q_⟩:∃tl,tl=T2.length:=⟨_,rfl⟩
   obtain⟨tl,htl⟩:∃tl,tl=R2.length:=⟨_,rfl⟩
   rw[←Q_]at H7
   rw[←htl]at KY
   clear UQ hs5 Qw hS1 hE2 hv hu Kg hR2 Q9 h20 d0 d1 d2 d3 d5 d6 d7 d8 hlm hln Q_ htl c0 c1' c2' c3 c4 c5 c6 c7 c8
   go_wp2_with fail
   (with_reducible refine H1.out.mono ?_)
   rintro e w6 ⟨rfl,hb6⟩
   have oM:=Lib.hid hb6
   have e4:=(hb6.cell (p:=⟨q,4,none⟩) Ak).trans d4
   clear hb6
   go_wp2_with fail
   (with_reducible refine(H2.out w6 oM.out).mono ?_)
   rintro e w7 ⟨rfl,Jc⟩
   have qO:=Lib.hid (oM.out.trans (Jc.mono oM.out.size))
   have d4:=(qO.out.cell (p:=⟨q,4,none⟩) Ak).trans d4
   clear Jc e4
   go_wp2_with fail
   (with_reducible refine(H3.out w7 qO.out).mono ?_)
   rintro e w8 ⟨rfl,BM⟩
   have vD:=Lib.hid (qO.out.trans (BM.mono qO.out.size))
   have mH:=vD.out.size
   clear BM
   have hna:=(MapKept.heap_alloc w8 (.cells #[.int .i64 v0, .int .i64 v1, .int .i64 v2, .int .i64 v3, .int .u64 v4, .bool v5] 98)).1
   have wY:=Lib.hid (vD.out.trans ((wall w8 (.cells #[.int .i64 v0, .int .i64 v1, .int .i64 v2, .int .i64 v3, .int .u64 v4, .bool v5] 98)).mono mH))
   have Qx:=Lib.hid hna
   clear hna
   have TI:=(wY.out.cell (p:=⟨q,4,none⟩) Ak).trans ((qO.out.cell (p:=⟨q,4,none⟩) Ak).symm.trans d4)
   go_wp2_with fail
   have Ob:(w8.alloc (.cells #[.int .i64 v0, .int .i64 v1, .int .i64 v2, .int .i64 v3, .int .u64 v4, .bool v5] 98)).heap.size=w8.heap.size+1:=by simp
   generalize (w8.alloc (.cells #[.int .i64 v0, .int .i64 v1, .int .i64 v2, .int .i64 v3, .int .u64 v4, .bool v5] 98))=Qy at*
   obtain⟨qa,Qz⟩:∃qa,qa=w8.heap.size:=⟨_,rfl⟩
   rw[←Qz]at Qx⊢
   have Oc:qa<Qy.heap.size:=by omega
   clear Qz Ob
   (with_reducible refine(H4.out Qy wY.out).mono ?_)
   rintro e w9 ⟨rfl,qP⟩
   have zx:=Lib.hid (wY.out.trans (qP.mono wY.out.size))
   have Pk:=zx.out.size
   have Od:qa<w9.heap.size:=by have:=qP.size;omega
   have Oe:=Lib.hid ((qP.block qa Oc).trans Qx.out)
   have hnb:=(MapKept.heap_alloc w9 (.cells #[.int .i64 u0, .int .i64 u1, .int .i64 u2, .int .i64 u3, .int .u64 u4, .bool u5] 98)).1
   have wZ:=Lib.hid (zx.out.trans ((wall w9 (.cells #[.int .i64 u0, .int .i64 u1, .int .i64 u2, .int .i64 u3, .int .u64 u4, .bool u5] 98)).mono Pk))
   have QA:=Lib.hid hnb
   have Jd:=Lib.hid (((wall w9 (.cells #[.int .i64 u0, .int .i64 u1, .int .i64 u2, .int .i64 u3, .int .u64 u4, .bool u5] 98)).block qa Od).trans Oe.out)
   have TJ:=(wZ.out.cell (p:=⟨q,4,none⟩) Ak).trans ((wY.out.cell (p:=⟨q,4,none⟩) Ak).symm.trans TI)
   have Og:(w9.alloc (.cells #[.int .i64 u0, .int .i64 u1, .int .i64 u2, .int .i64 u3, .int .u64 u4, .bool u5] 98)).heap.size=w9.heap.size+1:=by simp
   clear hnb qP
   go_wp2_with fail
   generalize (w9.alloc (.cells #[.int .i64 u0, .int .i64 u1, .int .i64 u2, .int .i64 u3, .int .u64 u4, .bool u5] 98))=Oh at*
   obtain⟨qb,BJ⟩:∃qb,qb=w9.heap.size:=⟨_,rfl⟩
   rw[←BJ]at QA⊢
   have Oi:qb<Oh.heap.size:=by omega
   have Je:qa<Oh.heap.size:=by omega
   clear BJ Og
   (with_reducible refine(H5.out Oh wZ.out).mono ?_)
   rintro e Dv ⟨a3,k3,rfl,hk3,hs3,kR⟩
   have qc:=Lib.hid (wZ.out.trans (kR.mono wZ.out.size))
   have XA:=(qc.out.cell (p:=⟨q,4,none⟩) Ak).trans ((wZ.out.cell (p:=⟨q,4,none⟩) Ak).symm.trans TJ)
   have Jf:=Lib.hid ((kR.block qa Je).trans Jd.out)
   have Jg:=Lib.hid ((kR.block qb Oi).trans QA.out)
   have Mh:=Lib.hid hs3
   have TK:=kR.size
   clear hs3 kR
   go_wp2_with fail
   (with_reducible refine(H6.out Dv qc.out).mono ?_)
   rintro e w_ ⟨a4,k4,rfl,hk4,hs4,uq⟩
   have uw:=Lib.hid (qc.out.trans (uq.mono qc.out.size))
   have BS:=(uq.block qa (by omega)).trans Jf.out
   have BU:=(uq.block qb (by omega)).trans Jg.out
   have Oj:=Lib.hid (Mh.out.below uq (Nat.le_refl _))
   have J8:=Lib.hid hs4
   have TL:=uq.size
   have Kw:=Lib.hid (fun wz (hb:Below w_.heap.size w_ wz)=>BO a3 a4 lm.1.length k3 ln.1.length k4 (lm.1.map strOf) (ln.1.map strOf) wz (Oj.out.below hb (Nat.le_refl _)) (J8.out.below hb (Nat.le_refl _)))
   obtain⟨aZ,cZ,z0,-⟩:=KY.out w_ uw.out
   have Ol:r<w_.heap.size:=by have:=uw.out.size;omega
   have Om:Hid (∀w',Below w_.heap.size w_ w'→((w'.cell? ⟨qa,0,none⟩=some (.int .i64 v0)∧w'.cell? ⟨qa,1,none⟩=some (.int .i64 v1)∧w'.cell? ⟨qa,2,none⟩=some (.int .i64 v2)∧w'.cell? ⟨qa,3,none⟩=some (.int .i64 v3)∧w'.cell? ⟨qa,4,none⟩=some (.int .u64 v4)∧w'.cell? ⟨qa,5,none⟩=some (.bool v5))∧(w'.cell? ⟨qb,0,none⟩=some (.int .i64 u0)∧w'.cell? ⟨qb,1,none⟩=some (.int .i64 u1)∧w'.cell? ⟨qb,2,none⟩=some (.int .i64 u2)∧w'.cell? ⟨qb,3,none⟩=some (.int .i64 u3)∧w'.cell? ⟨qb,4,none⟩=some (.int .u64 u4)∧w'.cell? ⟨qb,5,none⟩=some (.bool u5))∧w'.cell? ⟨r,0,none⟩=some (.slice aZ tl cZ))):=fun w' hb=>by
    have g1:=(hb.block qa (by omega)).trans BS
    have g2:=(hb.block qb (by omega)).trans BU
    refine⟨⟨?_,?_,?_,?_,?_,?_⟩,⟨?_,?_,?_,?_,?_,?_⟩,(hb.cell (p:=⟨r,0,none⟩) Ol).trans z0⟩<;>simp[World.cell?,g1,g2]
   have mI:Hid (∀(bb:Bool) wz,Below w_.heap.size w_ wz→LY W o i j w t r (ig x T) (ig x R) (.returned (.bool bb)) wz):=fun bb wz hb=>UR.out bb wz (uw.out.trans (hb.mono uw.out.size))
   clear hs4 uq BS BU
   generalize decide (lm.1.map strOf=ln.1.map strOf)=sb at Kw
   generalize lm.1.length=ll at*
   generalize ln.1.length=lx at*
   obtain⟨Rv,Rw⟩:=lk
   obtain⟨lr1,lr2⟩:=lr
   obtain⟨XB,Rx⟩:=lm
   obtain⟨Zg,UU⟩:=ln
   go_wp2_with fail
   refine wp_region_noPanic ?_
   refine wp_region_held_drew (S:=(fun w'=>(w'.cell? ⟨qa,0,none⟩=some (.int .i64 v0)∧w'.cell? ⟨qa,1,none⟩=some (.int .i64 v1)∧w'.cell? ⟨qa,2,none⟩=some (.int .i64 v2)∧w'.cell? ⟨qa,3,none⟩=some (.int .i64 v3)∧w'.cell? ⟨qa,4,none⟩=some (.int .u64 v4)∧w'.cell? ⟨qa,5,none⟩=some (.bool v5))∧(w'.cell? ⟨qb,0,none⟩=some (.int .i64 u0)∧w'.cell? ⟨qb,1,none⟩=some (.int .i64 u1)∧w'.cell? ⟨qb,2,none⟩=some (.int .i64 u2)∧w'.cell? ⟨qb,3,none⟩=some (.int .i64 u3)∧w'.cell? ⟨qb,4,none⟩=some (.int .u64 u4)∧w'.cell? ⟨qb,5,none⟩=some (.bool u5))∧w'.cell? ⟨r,0,none⟩=some (.slice aZ tl cZ))) (by kernel_rfl) ?_ (fun hS=> ?_)
   ·exact Om.out _ (Below.refl _ _).drew
   refine aS 0 (hS:=hS) (h:= ?_)
   refine aS 1 (hS:=hS) (h:= ?_)
   by_cases hd:Rv=lr1
   ·subst hd
    refine aS 2 (hS:=hS) (h:= ?_)
    refine aS 3 (hS:=hS) (h:= ?_)
    refine aS 4 (hS:=hS) (h:= ?_)
    refine aS 5 (hS:=hS) (h:= ?_)
    by_cases he:Rw=lr2
    ·subst he
     refine aS 6 (hS:=hS) (h:= ?_)
     refine aS 7 (hS:=hS) (h:= ?_)
     refine aS 8 (hS:=hS) (h:= ?_)
     refine aS 9 (hS:=hS) (h:= ?_)
     refine aS 10 (hS:=hS) (h:= ?_)
     by_cases hn:v0=u0
     ·subst hn
      by_cases hn:v1=u1
      ·subst hn
       by_cases hn:v2=u2
       ·subst hn
        by_cases hn:v3=u3
        ·subst hn
         by_cases hn:v4=u4
         ·subst hn
          by_cases hn:v5=u5
          ·subst hn
           refine aS 11 (hS:=hS) (h:= ?_)
           refine aS 12 (hS:=hS) (h:= ?_)
           refine aS 13 (hS:=hS) (h:= ?_)
           refine aS 14 (hS:=hS) (h:= ?_)
           refine aS 15 (hS:=hS) (h:= ?_)
           by_cases ho:sm=sn
           ·subst ho
            refine aS 16 (hS:=hS) (h:= ?_)
            refine aS 17 (hS:=hS) (h:= ?_)
            refine aS 18 (hS:=hS) (h:= ?_)
            refine aS 19 (hS:=hS) (h:= ?_)
            refine aS 20 (hS:=hS) (h:= ?_)
            refine p9 21 (h:=fun K hK=> ?_)
            go_simp
            (with_reducible refine(Kw.out _ (Below.refl _ _).drew).mono ?_)
            rintro e TM ⟨rfl,Oo⟩
            have lG:Below w_.heap.size w_ TM:=(Below.refl _ _).drew.trans Oo
            go_wp2_with fail
            refine hK.out _ _ (Om.out _ lG) (fun hS=> ?_)
            clear hK K
            try simp only[Act.put,List.setIfInBounds_toArray,List.set_cons_zero,List.set_cons_succ]
            cases sb with
            |false=>
             refine aS 22 (hS:=hS) (h:= ?_)
             refine aS 23 (hS:=hS) (h:= ?_)
             refine b_ 24 (hS:=hS) (h:= ?_)
             refine b_ 25 (hS:=hS) (h:= ?_)
             refine b_ 26 (hS:=hS) (h:= ?_)
             refine aS 27 (hS:=hS) (h:= ?_)
             refine aS 28 (hS:=hS) (h:= ?_)
             refine b_ 29 (hS:=hS) (h:= ?_)
             refine b_ 30 (hS:=hS) (h:= ?_)
             refine b_ 31 (hS:=hS) (h:= ?_)
             refine b_ 32 (hS:=hS) (h:= ?_)
             refine b_ 33 (hS:=hS) (h:= ?_)
             refine b_ 34 (hS:=hS) (h:= ?_)
             refine b_ 35 (hS:=hS) (h:= ?_)
             refine b_ 36 (hS:=hS) (h:= ?_)
             refine aS 37 (hS:=hS) (h:= ?_)
             refine aS 38 (hS:=hS) (h:= ?_)
             refine wpAnyH_done (by kernel_rfl) ?_ _
             refine NoPanic.normal ?_
             clear hS
             go_wp2_with fail
             go_ret
             exact mI.out _ _ lG
            |true=>
             refine aS 22 (hS:=hS) (h:= ?_)
             refine aS 23 (hS:=hS) (h:= ?_)
             refine aS 24 (hS:=hS) (h:= ?_)
             refine aS 25 (hS:=hS) (h:= ?_)
             by_cases ht:Rx=UU
             ·subst ht
              refine aS 26 (hS:=hS) (h:= ?_)
              refine aS 27 (hS:=hS) (h:= ?_)
              refine aS 28 (hS:=hS) (h:= ?_)
              refine aS 29 (hS:=hS) (h:= ?_)
              refine aS 31 (hS:=hS) (h:= ?_)
              refine aS 32 (hS:=hS) (h:= ?_)
              refine aS 33 (hS:=hS) (h:= ?_)
              refine aS 34 (hS:=hS) (h:= ?_)
              refine aS 35 (hS:=hS) (h:= ?_)
              refine p9 30 (h:=fun K hK=> ?_)
              go_simp
              (with_reducible refine(H7.out _ (uw.out.trans (lG.mono uw.out.size))).mono ?_)
              rintro e XC ⟨rfl,rfl⟩
              go_wp2_with fail
              refine hK.out _ _ (Om.out _ lG) (fun hS=> ?_)
              clear hK K
              try simp only[Act.put,List.setIfInBounds_toArray,List.set_cons_zero,List.set_cons_succ]
              refine aS 36 (hS:=hS) (h:= ?_)
              refine aS 37 (hS:=hS) (h:= ?_)
              refine aS 38 (hS:=hS) (h:= ?_)
              refine wpAnyH_done (by kernel_rfl) ?_ _
              refine NoPanic.normal ?_
              clear hS
              go_wp2_with fail
              go_ret
              exact mI.out _ _ lG
             ·have ht1:(Rx==UU)=false:=by simpa using ht
              have ht2:decide (Rx=UU)=false:=by simpa using ht
              clear ht
              refine aS 26 (hS:=hS) (h:= ?_)
              refine aS 27 (hS:=hS) (h:= ?_)
              refine aS 28 (hS:=hS) (h:= ?_)
              refine b_ 29 (hS:=hS) (h:= ?_)
              refine b_ 30 (hS:=hS) (h:= ?_)
              refine b_ 31 (hS:=hS) (h:= ?_)
              refine b_ 32 (hS:=hS) (h:= ?_)
              refine b_ 33 (hS:=hS) (h:= ?_)
              refine b_ 34 (hS:=hS) (h:= ?_)
              refine b_ 35 (hS:=hS) (h:= ?_)
              refine b_ 36 (hS:=hS) (h:= ?_)
              refine aS 37 (hS:=hS) (h:= ?_)
              refine aS 38 (hS:=hS) (h:= ?_)
              refine wpAnyH_done (by kernel_rfl) ?_ _
              refine NoPanic.normal ?_
              clear hS
              go_wp2_with fail
              go_ret
              exact mI.out _ _ lG
           ·have ho1:(sm==sn)=false:=by simpa using ho
            have ho2:decide (sm=sn)=false:=by simpa using ho
            clear ho
            refine aS 16 (hS:=hS) (h:= ?_)
            refine aS 17 (hS:=hS) (h:= ?_)
            refine aS 18 (hS:=hS) (h:= ?_)
            refine b_ 19 (hS:=hS) (h:= ?_)
            refine b_ 20 (hS:=hS) (h:= ?_)
            refine b_ 21 (hS:=hS) (h:= ?_)
            refine aS 22 (hS:=hS) (h:= ?_)
            refine aS 23 (hS:=hS) (h:= ?_)
            refine b_ 24 (hS:=hS) (h:= ?_)
            refine b_ 25 (hS:=hS) (h:= ?_)
            refine b_ 26 (hS:=hS) (h:= ?_)
            refine aS 27 (hS:=hS) (h:= ?_)
            refine aS 28 (hS:=hS) (h:= ?_)
            refine b_ 29 (hS:=hS) (h:= ?_)
            refine b_ 30 (hS:=hS) (h:= ?_)
            refine b_ 31 (hS:=hS) (h:= ?_)
            refine b_ 32 (hS:=hS) (h:= ?_)
            refine b_ 33 (hS:=hS) (h:= ?_)
            refine b_ 34 (hS:=hS) (h:= ?_)
            refine b_ 35 (hS:=hS) (h:= ?_)
            refine b_ 36 (hS:=hS) (h:= ?_)
            refine aS 37 (hS:=hS) (h:= ?_)
            refine aS 38 (hS:=hS) (h:= ?_)
            refine wpAnyH_done (by kernel_rfl) ?_ _
            refine NoPanic.normal ?_
            clear hS
            go_wp2_with fail
            go_ret
            exact mI.out _ _ (Below.refl _ _).drew
          ·refine aS 11 (hS:=hS) (h:= ?_)
           refine aS 12 (hS:=hS) (h:= ?_)
           refine aS 13 (hS:=hS) (h:= ?_)
           refine b_ 14 (hS:=hS) (h:= ?_)
           refine b_ 15 (hS:=hS) (h:= ?_)
           refine b_ 16 (hS:=hS) (h:= ?_)
           refine aS 17 (hS:=hS) (h:= ?_)
           refine aS 18 (hS:=hS) (h:= ?_)
           refine b_ 19 (hS:=hS) (h:= ?_)
           refine b_ 20 (hS:=hS) (h:= ?_)
           refine b_ 21 (hS:=hS) (h:= ?_)
           refine aS 22 (hS:=hS) (h:= ?_)
           refine aS 23 (hS:=hS) (h:= ?_)
           refine b_ 24 (hS:=hS) (h:= ?_)
           refine b_ 25 (hS:=hS) (h:= ?_)
           refine b_ 26 (hS:=hS) (h:= ?_)
           refine aS 27 (hS:=hS) (h:= ?_)
           refine aS 28 (hS:=hS) (h:= ?_)
           refine b_ 29 (hS:=hS) (h:= ?_)
           refine b_ 30 (hS:=hS) (h:= ?_)
           refine b_ 31 (hS:=hS) (h:= ?_)
           refine b_ 32 (hS:=hS) (h:= ?_)
           refine b_ 33 (hS:=hS) (h:= ?_)
           refine b_ 34 (hS:=hS) (h:= ?_)
           refine b_ 35 (hS:=hS) (h:= ?_)
           refine b_ 36 (hS:=hS) (h:= ?_)
           refine aS 37 (hS:=hS) (h:= ?_)
           refine aS 38 (hS:=hS) (h:= ?_)
           refine wpAnyH_done (by kernel_rfl) ?_ _
           refine NoPanic.normal ?_
           clear hS
           go_wp2_with fail
           go_ret
           exact mI.out _ _ (Below.refl _ _).drew
         ·refine aS 11 (hS:=hS) (h:= ?_)
          refine aS 12 (hS:=hS) (h:= ?_)
          refine aS 13 (hS:=hS) (h:= ?_)
          refine b_ 14 (hS:=hS) (h:= ?_)
          refine b_ 15 (hS:=hS) (h:= ?_)
          refine b_ 16 (hS:=hS) (h:= ?_)
          refine aS 17 (hS:=hS) (h:= ?_)
          refine aS 18 (hS:=hS) (h:= ?_)
          refine b_ 19 (hS:=hS) (h:= ?_)
          refine b_ 20 (hS:=hS) (h:= ?_)
          refine b_ 21 (hS:=hS) (h:= ?_)
          refine aS 22 (hS:=hS) (h:= ?_)
          refine aS 23 (hS:=hS) (h:= ?_)
          refine b_ 24 (hS:=hS) (h:= ?_)
          refine b_ 25 (hS:=hS) (h:= ?_)
          refine b_ 26 (hS:=hS) (h:= ?_)
          refine aS 27 (hS:=hS) (h:= ?_)
          refine aS 28 (hS:=hS) (h:= ?_)
          refine b_ 29 (hS:=hS) (h:= ?_)
          refine b_ 30 (hS:=hS) (h:= ?_)
          refine b_ 31 (hS:=hS) (h:= ?_)
          refine b_ 32 (hS:=hS) (h:= ?_)
          refine b_ 33 (hS:=hS) (h:= ?_)
          refine b_ 34 (hS:=hS) (h:= ?_)
          refine b_ 35 (hS:=hS) (h:= ?_)
          refine b_ 36 (hS:=hS) (h:= ?_)
          refine aS 37 (hS:=hS) (h:= ?_)
          refine aS 38 (hS:=hS) (h:= ?_)
          refine wpAnyH_done (by kernel_rfl) ?_ _
          refine NoPanic.normal ?_
          clear hS
          go_wp2_with fail
          go_ret
          exact mI.out _ _ (Below.refl _ _).drew
        ·refine aS 11 (hS:=hS) (h:= ?_)
         refine aS 12 (hS:=hS) (h:= ?_)
         refine aS 13 (hS:=hS) (h:= ?_)
         refine b_ 14 (hS:=hS) (h:= ?_)
         refine b_ 15 (hS:=hS) (h:= ?_)
         refine b_ 16 (hS:=hS) (h:= ?_)
         refine aS 17 (hS:=hS) (h:= ?_)
         refine aS 18 (hS:=hS) (h:= ?_)
         refine b_ 19 (hS:=hS) (h:= ?_)
         refine b_ 20 (hS:=hS) (h:= ?_)
         refine b_ 21 (hS:=hS) (h:= ?_)
         refine aS 22 (hS:=hS) (h:= ?_)
         refine aS 23 (hS:=hS) (h:= ?_)
         refine b_ 24 (hS:=hS) (h:= ?_)
         refine b_ 25 (hS:=hS) (h:= ?_)
         refine b_ 26 (hS:=hS) (h:= ?_)
         refine aS 27 (hS:=hS) (h:= ?_)
         refine aS 28 (hS:=hS) (h:= ?_)
         refine b_ 29 (hS:=hS) (h:= ?_)
         refine b_ 30 (hS:=hS) (h:= ?_)
         refine b_ 31 (hS:=hS) (h:= ?_)
         refine b_ 32 (hS:=hS) (h:= ?_)
         refine b_ 33 (hS:=hS) (h:= ?_)
         refine b_ 34 (hS:=hS) (h:= ?_)
         refine b_ 35 (hS:=hS) (h:= ?_)
         refine b_ 36 (hS:=hS) (h:= ?_)
         refine aS 37 (hS:=hS) (h:= ?_)
         refine aS 38 (hS:=hS) (h:= ?_)
         refine wpAnyH_done (by kernel_rfl) ?_ _
         refine NoPanic.normal ?_
         clear hS
         go_wp2_with fail
         go_ret
         exact mI.out _ _ (Below.refl _ _).drew
       ·refine aS 11 (hS:=hS) (h:= ?_)
        refine aS 12 (hS:=hS) (h:= ?_)
        refine aS 13 (hS:=hS) (h:= ?_)
        refine b_ 14 (hS:=hS) (h:= ?_)
        refine b_ 15 (hS:=hS) (h:= ?_)
        refine b_ 16 (hS:=hS) (h:= ?_)
        refine aS 17 (hS:=hS) (h:= ?_)
        refine aS 18 (hS:=hS) (h:= ?_)
        refine b_ 19 (hS:=hS) (h:= ?_)
        refine b_ 20 (hS:=hS) (h:= ?_)
        refine b_ 21 (hS:=hS) (h:= ?_)
        refine aS 22 (hS:=hS) (h:= ?_)
        refine aS 23 (hS:=hS) (h:= ?_)
        refine b_ 24 (hS:=hS) (h:= ?_)
        refine b_ 25 (hS:=hS) (h:= ?_)
        refine b_ 26 (hS:=hS) (h:= ?_)
        refine aS 27 (hS:=hS) (h:= ?_)
        refine aS 28 (hS:=hS) (h:= ?_)
        refine b_ 29 (hS:=hS) (h:= ?_)
        refine b_ 30 (hS:=hS) (h:= ?_)
        refine b_ 31 (hS:=hS) (h:= ?_)
        refine b_ 32 (hS:=hS) (h:= ?_)
        refine b_ 33 (hS:=hS) (h:= ?_)
        refine b_ 34 (hS:=hS) (h:= ?_)
        refine b_ 35 (hS:=hS) (h:= ?_)
        refine b_ 36 (hS:=hS) (h:= ?_)
        refine aS 37 (hS:=hS) (h:= ?_)
        refine aS 38 (hS:=hS) (h:= ?_)
        refine wpAnyH_done (by kernel_rfl) ?_ _
        refine NoPanic.normal ?_
        clear hS
        go_wp2_with fail
        go_ret
        exact mI.out _ _ (Below.refl _ _).drew
      ·refine aS 11 (hS:=hS) (h:= ?_)
       refine aS 12 (hS:=hS) (h:= ?_)
       refine aS 13 (hS:=hS) (h:= ?_)
       refine b_ 14 (hS:=hS) (h:= ?_)
       refine b_ 15 (hS:=hS) (h:= ?_)
       refine b_ 16 (hS:=hS) (h:= ?_)
       refine aS 17 (hS:=hS) (h:= ?_)
       refine aS 18 (hS:=hS) (h:= ?_)
       refine b_ 19 (hS:=hS) (h:= ?_)
       refine b_ 20 (hS:=hS) (h:= ?_)
       refine b_ 21 (hS:=hS) (h:= ?_)
       refine aS 22 (hS:=hS) (h:= ?_)
       refine aS 23 (hS:=hS) (h:= ?_)
       refine b_ 24 (hS:=hS) (h:= ?_)
       refine b_ 25 (hS:=hS) (h:= ?_)
       refine b_ 26 (hS:=hS) (h:= ?_)
       refine aS 27 (hS:=hS) (h:= ?_)
       refine aS 28 (hS:=hS) (h:= ?_)
       refine b_ 29 (hS:=hS) (h:= ?_)
       refine b_ 30 (hS:=hS) (h:= ?_)
       refine b_ 31 (hS:=hS) (h:= ?_)
       refine b_ 32 (hS:=hS) (h:= ?_)
       refine b_ 33 (hS:=hS) (h:= ?_)
       refine b_ 34 (hS:=hS) (h:= ?_)
       refine b_ 35 (hS:=hS) (h:= ?_)
       refine b_ 36 (hS:=hS) (h:= ?_)
       refine aS 37 (hS:=hS) (h:= ?_)
       refine aS 38 (hS:=hS) (h:= ?_)
       refine wpAnyH_done (by kernel_rfl) ?_ _
       refine NoPanic.normal ?_
       clear hS
       go_wp2_with fail
       go_ret
       exact mI.out _ _ (Below.refl _ _).drew
     ·refine aS 11 (hS:=hS) (h:= ?_)
      refine aS 12 (hS:=hS) (h:= ?_)
      refine aS 13 (hS:=hS) (h:= ?_)
      refine b_ 14 (hS:=hS) (h:= ?_)
      refine b_ 15 (hS:=hS) (h:= ?_)
      refine b_ 16 (hS:=hS) (h:= ?_)
      refine aS 17 (hS:=hS) (h:= ?_)
      refine aS 18 (hS:=hS) (h:= ?_)
      refine b_ 19 (hS:=hS) (h:= ?_)
      refine b_ 20 (hS:=hS) (h:= ?_)
      refine b_ 21 (hS:=hS) (h:= ?_)
      refine aS 22 (hS:=hS) (h:= ?_)
      refine aS 23 (hS:=hS) (h:= ?_)
      refine b_ 24 (hS:=hS) (h:= ?_)
      refine b_ 25 (hS:=hS) (h:= ?_)
      refine b_ 26 (hS:=hS) (h:= ?_)
      refine aS 27 (hS:=hS) (h:= ?_)
      refine aS 28 (hS:=hS) (h:= ?_)
      refine b_ 29 (hS:=hS) (h:= ?_)
      refine b_ 30 (hS:=hS) (h:= ?_)
      refine b_ 31 (hS:=hS) (h:= ?_)
      refine b_ 32 (hS:=hS) (h:= ?_)
      refine b_ 33 (hS:=hS) (h:= ?_)
      refine b_ 34 (hS:=hS) (h:= ?_)
      refine b_ 35 (hS:=hS) (h:= ?_)
      refine b_ 36 (hS:=hS) (h:= ?_)
      refine aS 37 (hS:=hS) (h:= ?_)
      refine aS 38 (hS:=hS) (h:= ?_)
      refine wpAnyH_done (by kernel_rfl) ?_ _
      refine NoPanic.normal ?_
      clear hS
      go_wp2_with fail
      go_ret
      exact mI.out _ _ (Below.refl _ _).drew
    ·have he1:(Rw==lr2)=false:=by simpa using he
     have he2:decide (Rw=lr2)=false:=by simpa using he
     clear he
     refine aS 6 (hS:=hS) (h:= ?_)
     refine aS 7 (hS:=hS) (h:= ?_)
     refine aS 8 (hS:=hS) (h:= ?_)
     refine b_ 9 (hS:=hS) (h:= ?_)
     refine b_ 10 (hS:=hS) (h:= ?_)
     refine b_ 11 (hS:=hS) (h:= ?_)
     refine aS 12 (hS:=hS) (h:= ?_)
     refine aS 13 (hS:=hS) (h:= ?_)
     refine b_ 14 (hS:=hS) (h:= ?_)
     refine b_ 15 (hS:=hS) (h:= ?_)
     refine b_ 16 (hS:=hS) (h:= ?_)
     refine aS 17 (hS:=hS) (h:= ?_)
     refine aS 18 (hS:=hS) (h:= ?_)
     refine b_ 19 (hS:=hS) (h:= ?_)
     refine b_ 20 (hS:=hS) (h:= ?_)
     refine b_ 21 (hS:=hS) (h:= ?_)
     refine aS 22 (hS:=hS) (h:= ?_)
     refine aS 23 (hS:=hS) (h:= ?_)
     refine b_ 24 (hS:=hS) (h:= ?_)
     refine b_ 25 (hS:=hS) (h:= ?_)
     refine b_ 26 (hS:=hS) (h:= ?_)
     refine aS 27 (hS:=hS) (h:= ?_)
     refine aS 28 (hS:=hS) (h:= ?_)
     refine b_ 29 (hS:=hS) (h:= ?_)
     refine b_ 30 (hS:=hS) (h:= ?_)
     refine b_ 31 (hS:=hS) (h:= ?_)
     refine b_ 32 (hS:=hS) (h:= ?_)
     refine b_ 33 (hS:=hS) (h:= ?_)
     refine b_ 34 (hS:=hS) (h:= ?_)
     refine b_ 35 (hS:=hS) (h:= ?_)
     refine b_ 36 (hS:=hS) (h:= ?_)
     refine aS 37 (hS:=hS) (h:= ?_)
     refine aS 38 (hS:=hS) (h:= ?_)
     refine wpAnyH_done (by kernel_rfl) ?_ _
     refine NoPanic.normal ?_
     clear hS
     go_wp2_with fail
     go_ret
     exact mI.out _ _ (Below.refl _ _).drew
   ·have hd1:(Rv==lr1)=false:=by simpa using hd
    have hd2:decide (Rv=lr1)=false:=by simpa using hd
    clear hd
    refine aS 2 (hS:=hS) (h:= ?_)
    refine aS 3 (hS:=hS) (h:= ?_)
    refine b_ 4 (hS:=hS) (h:= ?_)
    refine b_ 5 (hS:=hS) (h:= ?_)
    refine b_ 6 (hS:=hS) (h:= ?_)
    refine aS 7 (hS:=hS) (h:= ?_)
    refine aS 8 (hS:=hS) (h:= ?_)
    refine b_ 9 (hS:=hS) (h:= ?_)
    refine b_ 10 (hS:=hS) (h:= ?_)
    refine b_ 11 (hS:=hS) (h:= ?_)
    refine aS 12 (hS:=hS) (h:= ?_)
    refine aS 13 (hS:=hS) (h:= ?_)
    refine b_ 14 (hS:=hS) (h:= ?_)
    refine b_ 15 (hS:=hS) (h:= ?_)
    refine b_ 16 (hS:=hS) (h:= ?_)
    refine aS 17 (hS:=hS) (h:= ?_)
    refine aS 18 (hS:=hS) (h:= ?_)
    refine b_ 19 (hS:=hS) (h:= ?_)
    refine b_ 20 (hS:=hS) (h:= ?_)
    refine b_ 21 (hS:=hS) (h:= ?_)
    refine aS 22 (hS:=hS) (h:= ?_)
    refine aS 23 (hS:=hS) (h:= ?_)
    refine b_ 24 (hS:=hS) (h:= ?_)
    refine b_ 25 (hS:=hS) (h:= ?_)
    refine b_ 26 (hS:=hS) (h:= ?_)
    refine aS 27 (hS:=hS) (h:= ?_)
    refine aS 28 (hS:=hS) (h:= ?_)
    refine b_ 29 (hS:=hS) (h:= ?_)
    refine b_ 30 (hS:=hS) (h:= ?_)
    refine b_ 31 (hS:=hS) (h:= ?_)
    refine b_ 32 (hS:=hS) (h:= ?_)
    refine b_ 33 (hS:=hS) (h:= ?_)
    refine b_ 34 (hS:=hS) (h:= ?_)
    refine b_ 35 (hS:=hS) (h:= ?_)
    refine b_ 36 (hS:=hS) (h:= ?_)
    refine aS 37 (hS:=hS) (h:= ?_)
    refine aS 38 (hS:=hS) (h:= ?_)
    refine wpAnyH_done (by kernel_rfl) ?_ _
    refine NoPanic.normal ?_
    clear hS
    go_wp2_with fail
    go_ret
    exact mI.out _ _ (Below.refl _ _).drew
end Go.Proofs.YtohpcppeajijnaaGreat
