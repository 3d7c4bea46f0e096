/- permafrostlaw11.do. -/
import Derived.Test.YtmabllemjkcobaaGreatM30
import Derived.Test.YtmabllemjkcobaaGreatM31
namespace Go.Proofs.YtmabllemjkcobaaGreat
open Go.ChangeShapes Go.WideShapes Go.ChangeAt Go.RowKit
set_option linter.unusedVariables false
set_option linter.unusedSimpArgs false
structure oO where
 kind:Int
 P:Int
 yU:Int
 dir:Bool
 id:Int
 at_:Int
 n:Int
 b:List UInt8
 aQ:Int
structure oO.Ok (x:oO):Prop where
 wk:(Lit.int .i64 x.kind).wf=true
 wp:(Lit.int .i64 x.P).wf=true
 wt:(Lit.int .i64 x.yU).wf=true
 wi:(Lit.int .i64 x.id).wf=true
 wa:(Lit.int .i64 x.at_).wf=true
 wn:(Lit.int .i64 x.n).wf=true
 wu:0≤x.aQ∧x.aQ≤18446744073709551615
def oV (ba:Option Addr) (bn bc:Nat) (x:oO):Value:= .agg #[.int .i64 x.kind, .int .i64 x.P, .int .i64 x.yU, .bool x.dir, .int .i64 x.id, .int .i64 x.at_, .int .i64 x.n, .slice ba bn bc, .int .u64 x.aQ]
def oz (ba:Option Addr) (bn bc:Nat) (x:oO):Array Value:= #[.int .i64 x.kind, .int .i64 x.P, .int .i64 x.yU, .bool x.dir, .int .i64 x.id, .int .i64 x.at_, .int .i64 x.n, .slice ba bn bc, .int .u64 x.aQ]
theorem eH {w:World} {q:Nat} {ba:Option Addr} {bn bc:Nat} {x:oO} (h:w.heap[q]? =some (.cells (oz ba bn bc x) 79 (0,0))):w.cell? ⟨q,0,none⟩=some (.int .i64 x.kind)∧w.cell? ⟨q,1,none⟩=some (.int .i64 x.P)∧w.cell? ⟨q,2,none⟩=some (.int .i64 x.yU)∧w.cell? ⟨q,3,none⟩=some (.bool x.dir)∧w.cell? ⟨q,4,none⟩=some (.int .i64 x.id)∧w.cell? ⟨q,5,none⟩=some (.int .i64 x.at_)∧w.cell? ⟨q,6,none⟩=some (.int .i64 x.n)∧w.cell? ⟨q,7,none⟩=some (.slice ba bn bc)∧w.cell? ⟨q,8,none⟩=some (.int .u64 x.aQ):=by
 refine⟨?_,?_,?_,?_,?_,?_,?_,?_,?_⟩<;>simp[World.cell?,h,oz]
def Z4 (W:World) (Q:Nat→Prop) (w:World) (t r:Nat) (e:Ending) (w':World):Prop:=
 e= .returned (.bool true)∧∃T',FT W Q w' t r T'∧(∀b,Q b→w'.heap[b]? =w.heap[b]?)∧w.heap.size≤w'.heap.size∧Below W.heap.size W w'
def um (W:World) (Q:Nat→Prop) (w:World) (t r:Nat) (wx:World):Prop:=
 ∃T',FT W Q wx t r T'∧(∀b,Q b→wx.heap[b]? =w.heap[b]?)∧w.heap.size≤wx.heap.size∧Below W.heap.size W wx
theorem fB.then_ {W w w1 w2:World} {P:Nat→Prop} {t:Nat} {T:aG} {v:Value} {e:Ending} (h:fB W P w t T v e w1) (hb:Below w1.heap.size w1 w2):fB W P w t T v e w2:=
 ⟨h.1,h.2.1.grow hb,h.2.2.trans (fp':=fun x=>w1.heap.size≤x) (Keeps.below hb) fun x hx hf=>by have:=h.2.2.size;omega⟩
theorem fB.behind {W w0 w w1:World} {P:Nat→Prop} {t:Nat} {T:aG} {v:Value} {e:Ending} (h:fB W P w t T v e w1) (hb:Below w0.heap.size w0 w):fB W P w0 t T v e w1:=
 ⟨h.1,h.2.1,(Keeps.mono (Keeps.below hb) (fun x hx hf=>by omega)).trans h.2.2 fun x _ hx=>hx⟩
theorem jq.Lj {W w:World} {Q P F:Nat→Prop} {t r:Nat} {T:aG} (h:jq W Q P F w t r T):dX T:=h.okay.1.1
theorem jq.ok1 {W w:World} {Q P F:Nat→Prop} {t r:Nat} {T:aG} (h:jq W Q P F w t r T):fG T:=h.okay.1
theorem fB.kp {W w w1:World} {P:Nat→Prop} {t:Nat} {T:aG} {v:Value} {e:Ending} (h:fB W P w t T v e w1):Keeps (Fa W P) w w1:=h.2.2
theorem um.of {W w w1 w2:World} {Q P F:Nat→Prop} {t r:Nat} {T T':aG} {v1 v2:Value} {e1 e2:Ending} (h:jq W Q P F w t r T) (h1:fB W P w t T' v1 e1 w1) (h2:bX F w1 r T' v2 e2 w2) (hO:oM T'):um W Q w t r w2:=⟨T',h.step h1 h2 hO⟩
theorem um.rest {W w w1:World} {Q P F:Nat→Prop} {t r:Nat} {T:aG} (h:jq W Q P F w t r T) (hb:Below w.heap.size w w1):um W Q w t r w1:=⟨T,h.rest hb⟩
theorem lK {W w w1:World} {P S:Nat→Prop} {a:Option Addr} {n:Nat} {ss:List ByteArray} (h:aK S w a n ss) (hS:∀b,S b→P b) (hK:Keeps (Fa W P) w w1):aK S w1 a n ss:=
 h.kept hK.size fun b hb hbw=>hK.block b hbw fun hw=>hw.2 (hS b hb)
theorem nG (n:Int):∀m∈eZ n,m.length≤1:=by
 unfold eZ
 rw[List.getD_eq_getElem?_getD]
 cases h:jV[pK n]? with
 |none=>simp
 |some ls=>
  have hm:=List.mem_of_getElem? h
  have:∀l∈jV,∀m∈l,m.length≤1:=by decide
  exact this ls hm
theorem FU (ba:Option Addr) (bn bc:Nat) (x:oO) (w:World):Calls Tryz.prog 118 #[oV ba bn bc x] w fun e w'=>e= .returned (.int .i64 (if x.dir=true then 2 else 1))∧Below w.heap.size w w':=by
 unfold oV
 cases hd:x.dir with
 |true=>
  go_enter Tryz.func118,Tryz.ntmps118
  go_wp2
  go_ret
  exact⟨rfl,wall w _⟩
 |false=>
  go_enter Tryz.func118,Tryz.ntmps118
  go_wp2
  go_ret
  exact⟨rfl,wall w _⟩
set_option maxRecDepth 100000 in
set_option maxHeartbeats 32000000 in
theorem FV {W w:World} {Q P F:Nat→Prop} {t r:Nat} {T:aG} (x:oO) (ba:Option Addr) (bn bc:Nat) (hB:jq W Q P F w t r T) (hx:x.Ok) (hbr:aC (fun b=>b<W.heap.size) w ba bn (x.b.map bv)) (hbc:bn≤bc) (hbl:bn≤140737488351232):
  Calls Tryz.prog 50 #[ptr t,ptr r,oV ba bn bc x] w (Z4 W Q w t r):=by
 have HB:=Lib.hid hB
 have HX:=Lib.hid hx
 have Qa:=Lib.hid hbr
 have hWw:=hB.tree.below.size
 unfold oV
 clear hB hx hbr
 go_enter Tryz.func50,Tryz.ntmps50
 go_wp2_with fail
 have Oq:(w.alloc (.cells (oz ba bn bc x) 79)).heap[w.heap.size]? =some (.cells (oz ba bn bc x) 79):=(MapKept.heap_alloc w _).1
 have hBa:Below w.heap.size w (w.alloc (.cells (oz ba bn bc x) 79)):=wall w _
 have hza:(w.alloc (.cells (oz ba bn bc x) 79)).heap.size=w.heap.size+1:=by simp
 unfold oz at Oq hBa hza
 generalize (w.alloc (.cells #[.int .i64 x.kind, .int .i64 x.P, .int .i64 x.yU, .bool x.dir, .int .i64 x.id, .int .i64 x.at_, .int .i64 x.n, .slice ba bn bc, .int .u64 x.aQ] 79))=w1 at*
 obtain⟨q,hq⟩:∃q,q=w.heap.size:=⟨_,rfl⟩
 rw[←hq]at Oq⊢
 have Z5:=Lib.hid Oq
 obtain⟨c0,c1,c2,c3,c4,c5,c6,c7,c8⟩:=eH (q:=q) (x:=x) Oq
 have Ho:=Lib.hid hBa
 have SY:=Lib.hid hq
 have UO:q<w1.heap.size:=by omega
 have kU:Hid (∀w',Below w1.heap.size w1 w'→w'.cell? ⟨q,1,none⟩=some (.int .i64 x.P)∧w'.cell? ⟨q,2,none⟩=some (.int .i64 x.yU)):=fun w' hb=>⟨(hb.cell (p:=⟨q,1,none⟩) UO).trans c1,(hb.cell (p:=⟨q,2,none⟩) UO).trans c2⟩
 clear Oq hBa hq c0 c3 c4 c5 c6 c7 c8
 refine wp_region_noPanic ?_
 refine wp_region_held_drew (S:=(fun w'=>w'.cell? ⟨q,1,none⟩=some (.int .i64 x.P)∧w'.cell? ⟨q,2,none⟩=some (.int .i64 x.yU))) (by kernel_rfl) ?_ (fun hS=> ?_)
 ·exact kU.out _ (Below.refl _ _).drew
 refine aV 0 (hS:=hS) (h:= ?_)
 refine aV 1 (hS:=hS) (h:= ?_)
 refine aV 3 (hS:=hS) (h:= ?_)
 refine aV 4 (hS:=hS) (h:= ?_)
 refine lJ 2 (h:=fun K hK=> ?_)
 go_simp
 (with_reducible refine(tZ _ HX.out.wp _).mono ?_)
 rintro e w2 ⟨a1,k1,rfl,hk1,hs1,hb2⟩
 have nH:Below w1.heap.size w1 w2:=(Below.refl _ _).drew.trans hb2
 go_wp2_with fail
 refine hK.out _ _ (kU.out _ nH) (fun hS=> ?_)
 clear hK K
 try simp only[Act.put,List.setIfInBounds_toArray,List.set_cons_zero,List.set_cons_succ]
 refine lJ 5 (h:=fun K hK=> ?_)
 go_simp
 (with_reducible refine(tZ _ HX.out.wt _).mono ?_)
 rintro e w3 ⟨a2,k2,rfl,hk2,hs2,hb3⟩
 have Ai:Below w1.heap.size w1 w3:=nH.trans (hb3.mono nH.size)
 go_wp2_with fail
 refine hK.out _ _ (kU.out _ Ai) (fun hS=> ?_)
 clear hK K
 try simp only[Act.put,List.setIfInBounds_toArray,List.set_cons_zero,List.set_cons_succ]
 refine aV 6 (hS:=hS) (h:= ?_)
 refine aV 7 (hS:=hS) (h:= ?_)
 refine wpAnyH_done (by kernel_rfl) ?_ _
 refine NoPanic.normal ?_
 clear hS
 have mQ:Hid (aK (fun b=>w1.heap.size≤b∧b<w3.heap.size) w3 a1 (eZ x.P).length ((eZ x.P).map strOf)):=by
  refine(hs1.below hb3 (Nat.le_refl _)).mono fun b hb=>⟨hb.1,?_⟩
  have:=hb3.size
  omega
 have HS2:Hid (aK (fun b=>w1.heap.size≤b∧b<w3.heap.size) w3 a2 (eZ x.yU).length ((eZ x.yU).map strOf)):=by
  refine hs2.mono fun b hb=>⟨?_,hb.2⟩
  have:=nH.size
  omega
 have Z6:=Lib.hid (nG x.P)
 have Xv:=Lib.hid (nG x.yU)
 have hn1:=nE x.P
 have hn2:=nE x.yU
 generalize hg1:eZ x.P=l1 at*
 generalize hg2:eZ x.yU=l2 at*
 obtain⟨m1,hm1⟩:∃m,m=l1.length:=⟨_,rfl⟩
 obtain⟨m2,hm2⟩:∃m,m=l2.length:=⟨_,rfl⟩
 rw[←hm1]at hk1 hn1 mQ⊢
 rw[←hm2]at hk2 hn2 HS2⊢
 have hh3:w3.heap[q]? =some (.cells (oz ba bn bc x) 79 (0,0)):=(Ai.block q UO).trans Z5.out
 have Q5:=Lib.hid hh3
 have BP:Below w.heap.size w w3:=Ho.out.trans (Ai.mono (by omega))
 have wR:=HB.out.zJ BP
 have hq3:q<w3.heap.size:=by have:=Ai.size;omega
 have Ng:Hid ((fun z=>Q z∨(w.heap.size≤z∧z<w3.heap.size)) q∧(fun z=>P z∨(w.heap.size≤z∧z<w3.heap.size)) q):=⟨.inr ⟨by have:=SY.out;omega,hq3⟩, .inr ⟨by have:=SY.out;omega,hq3⟩⟩
 have Qb:Hid (∀b,w1.heap.size≤b∧b<w3.heap.size→(fun z=>P z∨(w.heap.size≤z∧z<w3.heap.size)) b):=fun b hb=> .inr ⟨by omega,hb.2⟩
 have HSQ:Hid (∀b,w1.heap.size≤b∧b<w3.heap.size→(fun z=>Q z∨(w.heap.size≤z∧z<w3.heap.size)) b):=fun b hb=> .inr ⟨by omega,hb.2⟩
 have K8:Hid (∀b,w1.heap.size≤b∧b<w3.heap.size→b≠r):=fun b hb he=>by
  have:=HB.out.ref.low r HB.out.ref.own
  omega
 have UQ:=Lib.hid (Qa.out.below BP (Nat.le_refl _))
 have Ot:=Lib.hid BP
 have Z7:Hid (∀z,Q z→(fun z=>Q z∨(w.heap.size≤z∧z<w3.heap.size)) z):=fun z hz=> .inl hz
 generalize hQ1:(fun z=>Q z∨(w.heap.size≤z∧z<w3.heap.size))=Q1 at wR Ng Z7 HSQ
 generalize hP1:(fun z=>P z∨(w.heap.size≤z∧z<w3.heap.size))=P1 at wR Ng Qb
 have gT:=Lib.hid wR
 obtain⟨c0,c1',c2',c3,c4,c5,c6,c7,c8⟩:=eH hh3
 have He:Hid (∀wz:World,Calls Tryz.prog 55 #[.slice ba bn bc, .int .i64 100] wz fun e w'=>e= .returned (.slice ba (min bn 100) bc)∧wz=w'):=fun wz=>Kc ba bn bc 100 hbc (by omega) (by unfold maxLen;omega) wz
 clear hs1 hs2 hb2 hb3 nH Ai hg1 hg2 hm1 hm2 hh3 BP wR hQ1 hP1 c1 c2
 go_wp2_with fail
 (with_reducible refine(He.out _).mono ?_)
 rintro e w4 ⟨rfl,rfl⟩
 have hWr:W.heap.size≤r:=(HB.out.Q0 r HB.out.ref.own).2
 have BQ:Hid (aC (fun b=>b<W.heap.size) w3 ba (min bn 100) ((x.b.take 100).map bv)):=by
  have:=UQ.out.take 100
  rwa [←List.map_take]at this
 have UR:min bn 100≤100:=Nat.min_le_right _ _
 have Xw:Hid (∀w6,Keeps (Fa W P1) w3 w6→aC (fun b=>b<W.heap.size) w6 ba (min bn 100) ((x.b.take 100).map bv)):=fun w6 hK=>BQ.out.kept hK.size fun b hb hbw=>hK.block b hbw fun hw=>by have:=hw.1;omega
 have Z8:Hid (∀b,b<W.heap.size→b≠r):=fun b hb he=>by omega
 generalize min bn 100=bm at*
 go_upto_block 0 with(fail)
 go_cut [] (fun wx=>um W Q1 w3 t r wx)
 case first=>
  by_cases hk:x.kind=1
  ·have e1:(x.kind==1)=true:=by simpa using hk
   clear hk
   as_aux_lemma=>
    have Q6:Hid (∀wz,Calls Tryz.prog 118 #[oV ba bn bc x] wz fun e w'=>e= .returned (.int .i64 (if x.dir=true then 2 else 1))∧Below wz.heap.size wz w'):=fun wz=>FU ba bn bc x wz
    generalize (if x.dir=true then 2 else 1:Int)=kd at Q6
    unfold oV at Q6
    go_wp2_with fail
    (with_reducible refine(Q6.out _).mono ?_)
    rintro e w5 ⟨rfl,hb5⟩
    have iW:=Lib.hid hb5
    clear hb5
    go_wp2_with fail
    (with_reducible refine(D6 (gT.out.tree.grow iW.out) a1 m1 k1 l1 kd (mQ.out.below iW.out (Nat.le_refl _)) hk1 (by omega)).mono ?_)
    rintro e w6 nC
    have iY:=Lib.hid (nC.behind iW.out)
    obtain rfl:=nC.1
    clear nC
    have Qc:=(iY.out.kp.block q hq3 (fun hw=>hw.2 Ng.out.2)).trans Q5.out
    obtain⟨d0,d1,d2,d3,d4,d5,d6,d7,d8⟩:=eH Qc
    clear Qc
    have BR:q<w6.heap.size:=Nat.lt_of_lt_of_le hq3 iY.out.kp.size
    go_wp2_with fail
    (with_reducible refine(Q6.out _).mono ?_)
    rintro e w7 ⟨rfl,Ou⟩
    have pO:=Lib.hid Ou
    clear Ou
    go_wp2_with fail
    (with_reducible refine(Dg a1 m1 k1 l1 kd w7 ((gT.out.mid iY.out).below pO.out (Nat.le_refl _)) gT.out.Lj ((lK mQ.out Qb.out iY.out.kp).below pO.out (Nat.le_refl _)) hk1 (by omega)).mono ?_)
    rintro e w8 pQ
    have FW:=Lib.hid pQ
    obtain rfl:=pQ.1
    clear pQ
    go_wp2_with fail
    go_meet
    exact um.of gT.out (iY.out.then_ pO.out) FW.out (gT.out.okay.dP Z6.out _)
  ·have e1:(x.kind==1)=false:=by simpa using hk
   clear hk
   by_cases hk:x.kind=2
   ·have e2:(x.kind==2)=true:=by simpa using hk
    clear hk
    as_aux_lemma=>
     go_wp2_with fail
     (with_reducible refine(JV gT.out.tree a1 m1 k1 l1 a2 m2 k2 l2 mQ.out HS2.out hk2 (by omega)).mono ?_)
     rintro e w6 nC
     have iY:=Lib.hid nC
     obtain rfl:=nC.1
     clear nC
     go_wp2_with fail
     (with_reducible refine(CX a1 m1 k1 l1 a2 m2 k2 l2 w6 (gT.out.mid iY.out) gT.out.Lj (lK mQ.out Qb.out iY.out.kp) (lK HS2.out Qb.out iY.out.kp) hk2 (by omega)).mono ?_)
     rintro e w8 pQ
     have FW:=Lib.hid pQ
     obtain rfl:=pQ.1
     clear pQ
     go_wp2_with fail
     go_meet
     exact um.of gT.out iY.out FW.out (gT.out.okay.eD _ Xv.out)
   ·have e2:(x.kind==2)=false:=by simpa using hk
    clear hk
    by_cases hk:x.kind=3
    ·have e3:(x.kind==3)=true:=by simpa using hk
     clear hk
     as_aux_lemma=>
      go_wp2_with fail
      (with_reducible refine(Lg gT.out.tree a1 m1 k1 l1 mQ.out hk1 (by omega)).mono ?_)
      rintro e w6 nC
      have iY:=Lib.hid nC
      obtain rfl:=nC.1
      clear nC
      go_wp2_with fail
      (with_reducible refine(yw a1 m1 k1 l1 w6 (gT.out.mid iY.out) gT.out.Lj (lK mQ.out Qb.out iY.out.kp) hk1 (by omega)).mono ?_)
      rintro e w8 pQ
      have FW:=Lib.hid pQ
      obtain rfl:=pQ.1
      clear pQ
      go_wp2_with fail
      go_meet
      exact um.of gT.out iY.out FW.out (gT.out.okay.bT _)
    ·have e3:(x.kind==3)=false:=by simpa using hk
     clear hk
     by_cases hk:x.kind=4
     ·have e4:(x.kind==4)=true:=by simpa using hk
      clear hk
      as_aux_lemma=>
       go_wp2_with fail
       (with_reducible refine(Ol gT.out.tree a1 m1 k1 l1 mQ.out hk1 (by omega)).mono ?_)
       rintro e w6 nC
       have iY:=Lib.hid nC
       obtain rfl:=nC.1
       clear nC
       go_wp2_with fail
       (with_reducible refine(Ac a1 m1 k1 l1 w6 (gT.out.mid iY.out) gT.out.Lj (lK mQ.out Qb.out iY.out.kp) hk1 (by omega)).mono ?_)
       rintro e w8 pQ
       have FW:=Lib.hid pQ
       obtain rfl:=pQ.1
       clear pQ
       go_wp2_with fail
       go_meet
       exact um.of gT.out iY.out FW.out (gT.out.okay.dG _)
     ·have e4:(x.kind==4)=false:=by simpa using hk
      clear hk
      by_cases hk:x.kind=5
      ·have e5:(x.kind==5)=true:=by simpa using hk
       clear hk
       as_aux_lemma=>
        go_wp2_with fail
        (with_reducible refine(Lh gT.out.tree gT.out.ok1 a1 m1 k1 l1 a2 m2 k2 l2 mQ.out HS2.out hk1 (by omega) hk2 (by omega)).mono ?_)
        rintro e w6 nC
        have iY:=Lib.hid nC
        obtain rfl:=nC.1
        clear nC
        go_wp2_with fail
        (with_reducible refine(yx a1 m1 k1 l1 a2 m2 k2 l2 w6 (gT.out.mid iY.out) gT.out.ok1 (lK mQ.out Qb.out iY.out.kp) (lK HS2.out Qb.out iY.out.kp) hk1 (by omega) hk2 (by omega)).mono ?_)
        rintro e w8 pQ
        have FW:=Lib.hid pQ
        obtain rfl:=pQ.1
        clear pQ
        go_wp2_with fail
        go_meet
        exact um.of gT.out iY.out FW.out (gT.out.okay.bB _ Xv.out)
      ·have e5:(x.kind==5)=false:=by simpa using hk
       clear hk
       by_cases hk:x.kind=6
       ·have e6:(x.kind==6)=true:=by simpa using hk
        clear hk
        as_aux_lemma=>
         have Em:Hid (∀w',Keeps (Fa W P1) w3 w'→w'.cell? ⟨q,4,none⟩=some (.int .i64 x.id)∧w'.cell? ⟨q,8,none⟩=some (.int .u64 x.aQ)):=fun w' hK=>by
          have Qc:=(hK.block q hq3 (fun hw=>hw.2 Ng.out.2)).trans Q5.out
          obtain⟨d0,d1,d2,d3,d4,d5,d6,d7,d8⟩:=eH Qc
          exact⟨d4,d8⟩
         have HDR:=Lib.hid (gT.out.below (Below.refl _ _).drew)
         go_wp2_with fail
         refine wp_region_noPanic ?_
         refine wp_region_held_drew (S:=(fun w'=>w'.cell? ⟨q,4,none⟩=some (.int .i64 x.id)∧w'.cell? ⟨q,8,none⟩=some (.int .u64 x.aQ))) (by kernel_rfl) ?_ (fun hS=> ?_)
         ·exact⟨c4,c8⟩
         refine aV 0 (hS:=hS) (h:= ?_)
         refine aV 1 (hS:=hS) (h:= ?_)
         refine aV 2 (hS:=hS) (h:= ?_)
         refine aV 3 (hS:=hS) (h:= ?_)
         refine aV 5 (hS:=hS) (h:= ?_)
         refine aV 6 (hS:=hS) (h:= ?_)
         refine aV 7 (hS:=hS) (h:= ?_)
         refine aV 8 (hS:=hS) (h:= ?_)
         refine lJ 4 (h:=fun K hK=> ?_)
         go_simp
         (with_reducible refine(KU HDR.out.tree x.id ba bm bc (x.b.take 100) HX.out.wi (BQ.out.below (Below.refl _ _).drew (Nat.le_refl _)) (by omega)).mono ?_)
         rintro e w6 nC
         have iY:=Lib.hid (nC.behind (Below.refl _ _).drew)
         obtain rfl:=nC.1
         clear nC
         go_wp2_with fail
         refine hK.out _ _ (Em.out _ iY.out.kp) (fun hS=> ?_)
         clear hK K
         try simp only[Act.put,List.setIfInBounds_toArray,List.set_cons_zero,List.set_cons_succ]
         refine lJ 9 (h:=fun K hK=> ?_)
         go_simp
         (with_reducible refine(yC x.id ba bm bc (x.b.take 100) w6 (gT.out.mid iY.out) gT.out.Lj (Xw.out w6 iY.out.kp) Z8.out (by omega)).mono ?_)
         rintro e w8 pQ
         have FW:=Lib.hid pQ
         obtain rfl:=pQ.1
         have zl:w8.cell? ⟨q,4,none⟩=some (.int .i64 x.id)∧w8.cell? ⟨q,8,none⟩=some (.int .u64 x.aQ):=by
          have BR:q<w6.heap.size:=Nat.lt_of_lt_of_le hq3 iY.out.kp.size
          have h9:=Em.out _ iY.out.kp
          have hqr:q≠r:=fun he=>by
           have:=HB.out.ref.low r HB.out.ref.own
           have:=SY.out
           omega
          exact⟨(pQ.2.1.cell_ BR hqr 4).trans h9.1,(pQ.2.1.cell_ BR hqr 8).trans h9.2⟩
         clear pQ
         go_wp2_with fail
         refine hK.out _ _ (zl) (fun hS=> ?_)
         clear hK K
         try simp only[Act.put,List.setIfInBounds_toArray,List.set_cons_zero,List.set_cons_succ]
         refine aV 10 (hS:=hS) (h:= ?_)
         refine wpAnyH_done (by kernel_rfl) ?_ _
         refine NoPanic.normal ?_
         clear hS
         go_wp2_with fail
         go_meet
         exact um.of gT.out iY.out FW.out (gT.out.okay.dh _ _)
       ·have e6:(x.kind==6)=false:=by simpa using hk
        clear hk
        by_cases hk:x.kind=7
        ·have e7:(x.kind==7)=true:=by simpa using hk
         clear hk
         as_aux_lemma=>
          go_wp2_with fail
          (with_reducible refine(Qv gT.out.tree x.id x.at_ x.n HX.out.wi HX.out.wa HX.out.wn).mono ?_)
          rintro e w6 ⟨a6,n6,k6,rfl,-,Xx,hb6⟩
          have ou:=Lib.hid hb6
          have Aj:=Lib.hid Xx
          have HRR:=Lib.hid (CZ x.id x.at_ x.n w6 (gT.out.ref.below hb6 (Nat.le_refl _)) gT.out.Lj.toyQ HX.out.wa HX.out.wn)
          have d4:=(hb6.cell (p:=⟨q,4,none⟩) hq3).trans c4
          have d5:=(hb6.cell (p:=⟨q,5,none⟩) hq3).trans c5
          have d6:=(hb6.cell (p:=⟨q,6,none⟩) hq3).trans c6
          clear hb6 Xx
          generalize nX T x.id x.at_ x.n=rb at*
          generalize nW T x.id x.at_ x.n=re at*
          go_wp2_with fail
          (with_reducible refine HRR.out.mono ?_)
          rintro e w7 ⟨a7,n7,k7,rfl,Xy,rfl⟩
          have Z9:(convert 39 9 (.slice a6 n6 k6)).run Tryz.prog w6= .ok (.string (strOf rb)) w6:=dW Aj.out
          have Z_:(convert 39 9 (.slice a7 n7 k7)).run Tryz.prog w6= .ok (.string (strOf rb)) w6:=dW Xy
          clear Xy
          go_wp2_with fail
          go_meet
          exact um.rest gT.out ou.out
        ·have e7:(x.kind==7)=false:=by simpa using hk
         clear hk
         by_cases hk:x.kind=8
         ·have e8:(x.kind==8)=true:=by simpa using hk
          clear hk
          as_aux_lemma=>
           have Em:Hid (∀w',Keeps (Fa W P1) w3 w'→w'.cell? ⟨q,4,none⟩=some (.int .i64 x.id)∧w'.cell? ⟨q,8,none⟩=some (.int .u64 x.aQ)):=fun w' hK=>by
            have Qc:=(hK.block q hq3 (fun hw=>hw.2 Ng.out.2)).trans Q5.out
            obtain⟨d0,d1,d2,d3,d4,d5,d6,d7,d8⟩:=eH Qc
            exact⟨d4,d8⟩
           have HDR:=Lib.hid (gT.out.below (Below.refl _ _).drew)
           go_wp2_with fail
           refine wp_region_noPanic ?_
           refine wp_region_held_drew (S:=(fun w'=>w'.cell? ⟨q,4,none⟩=some (.int .i64 x.id)∧w'.cell? ⟨q,8,none⟩=some (.int .u64 x.aQ))) (by kernel_rfl) ?_ (fun hS=> ?_)
           ·exact⟨c4,c8⟩
           refine aV 0 (hS:=hS) (h:= ?_)
           refine aV 1 (hS:=hS) (h:= ?_)
           refine aV 2 (hS:=hS) (h:= ?_)
           refine aV 3 (hS:=hS) (h:= ?_)
           refine aV 4 (hS:=hS) (h:= ?_)
           refine aV 6 (hS:=hS) (h:= ?_)
           refine aV 7 (hS:=hS) (h:= ?_)
           refine aV 8 (hS:=hS) (h:= ?_)
           refine aV 9 (hS:=hS) (h:= ?_)
           refine aV 10 (hS:=hS) (h:= ?_)
           refine lJ 5 (h:=fun K hK=> ?_)
           go_simp
           (with_reducible refine(Qt HDR.out.tree x.id x.aQ HX.out.wi HX.out.wu.1 HX.out.wu.2).mono ?_)
           rintro e w6 nC
           have iY:=Lib.hid (nC.behind (Below.refl _ _).drew)
           obtain rfl:=nC.1
           clear nC
           go_wp2_with fail
           refine hK.out _ _ (Em.out _ iY.out.kp) (fun hS=> ?_)
           clear hK K
           try simp only[Act.put,List.setIfInBounds_toArray,List.set_cons_zero,List.set_cons_succ]
           refine lJ 11 (h:=fun K hK=> ?_)
           go_simp
           (with_reducible refine(C_ x.id x.aQ w6 (gT.out.mid iY.out) gT.out.Lj HX.out.wu).mono ?_)
           rintro e w8 pQ
           have FW:=Lib.hid pQ
           obtain rfl:=pQ.1
           have zl:w8.cell? ⟨q,4,none⟩=some (.int .i64 x.id)∧w8.cell? ⟨q,8,none⟩=some (.int .u64 x.aQ):=by
            have BR:q<w6.heap.size:=Nat.lt_of_lt_of_le hq3 iY.out.kp.size
            have h9:=Em.out _ iY.out.kp
            have hqr:q≠r:=fun he=>by
             have:=HB.out.ref.low r HB.out.ref.own
             have:=SY.out
             omega
            exact⟨(pQ.2.1.cell_ BR hqr 4).trans h9.1,(pQ.2.1.cell_ BR hqr 8).trans h9.2⟩
           clear pQ
           go_wp2_with fail
           refine hK.out _ _ (zl) (fun hS=> ?_)
           clear hK K
           try simp only[Act.put,List.setIfInBounds_toArray,List.set_cons_zero,List.set_cons_succ]
           refine aV 12 (hS:=hS) (h:= ?_)
           refine wpAnyH_done (by kernel_rfl) ?_ _
           refine NoPanic.normal ?_
           clear hS
           go_wp2_with fail
           go_meet
           exact um.of gT.out iY.out FW.out (gT.out.okay.fA _ _ HX.out.wu.1)
         ·have e8:(x.kind==8)=false:=by simpa using hk
          clear hk
          by_cases hk:x.kind=9
          ·have e9:(x.kind==9)=true:=by simpa using hk
           clear hk
           as_aux_lemma=>
            have Em:Hid (∀w',Keeps (Fa W P1) w3 w'→w'.cell? ⟨q,4,none⟩=some (.int .i64 x.id)∧w'.cell? ⟨q,8,none⟩=some (.int .u64 x.aQ)):=fun w' hK=>by
             have Qc:=(hK.block q hq3 (fun hw=>hw.2 Ng.out.2)).trans Q5.out
             obtain⟨d0,d1,d2,d3,d4,d5,d6,d7,d8⟩:=eH Qc
             exact⟨d4,d8⟩
            have HDR:=Lib.hid (gT.out.below (Below.refl _ _).drew)
            go_wp2_with fail
            refine wp_region_noPanic ?_
            refine wp_region_held_drew (S:=(fun w'=>w'.cell? ⟨q,4,none⟩=some (.int .i64 x.id)∧w'.cell? ⟨q,8,none⟩=some (.int .u64 x.aQ))) (by kernel_rfl) ?_ (fun hS=> ?_)
            ·exact⟨c4,c8⟩
            refine aV 0 (hS:=hS) (h:= ?_)
            refine aV 1 (hS:=hS) (h:= ?_)
            refine aV 2 (hS:=hS) (h:= ?_)
            refine aV 3 (hS:=hS) (h:= ?_)
            refine aV 4 (hS:=hS) (h:= ?_)
            refine aV 6 (hS:=hS) (h:= ?_)
            refine aV 7 (hS:=hS) (h:= ?_)
            refine aV 8 (hS:=hS) (h:= ?_)
            refine aV 9 (hS:=hS) (h:= ?_)
            refine aV 10 (hS:=hS) (h:= ?_)
            refine lJ 5 (h:=fun K hK=> ?_)
            go_simp
            (with_reducible refine(Qu HDR.out.tree x.id x.aQ HX.out.wi HX.out.wu.1 HX.out.wu.2).mono ?_)
            rintro e w6 nC
            have iY:=Lib.hid (nC.behind (Below.refl _ _).drew)
            obtain rfl:=nC.1
            clear nC
            go_wp2_with fail
            refine hK.out _ _ (Em.out _ iY.out.kp) (fun hS=> ?_)
            clear hK K
            try simp only[Act.put,List.setIfInBounds_toArray,List.set_cons_zero,List.set_cons_succ]
            refine lJ 11 (h:=fun K hK=> ?_)
            go_simp
            (with_reducible refine(C8 x.id x.aQ w6 (gT.out.mid iY.out) gT.out.Lj HX.out.wu).mono ?_)
            rintro e w8 pQ
            have FW:=Lib.hid pQ
            obtain rfl:=pQ.1
            have zl:w8.cell? ⟨q,4,none⟩=some (.int .i64 x.id)∧w8.cell? ⟨q,8,none⟩=some (.int .u64 x.aQ):=by
             have BR:q<w6.heap.size:=Nat.lt_of_lt_of_le hq3 iY.out.kp.size
             have h9:=Em.out _ iY.out.kp
             have hqr:q≠r:=fun he=>by
              have:=HB.out.ref.low r HB.out.ref.own
              have:=SY.out
              omega
             exact⟨(pQ.2.1.cell_ BR hqr 4).trans h9.1,(pQ.2.1.cell_ BR hqr 8).trans h9.2⟩
            clear pQ
            go_wp2_with fail
            refine hK.out _ _ (zl) (fun hS=> ?_)
            clear hK K
            try simp only[Act.put,List.setIfInBounds_toArray,List.set_cons_zero,List.set_cons_succ]
            refine aV 12 (hS:=hS) (h:= ?_)
            refine wpAnyH_done (by kernel_rfl) ?_ _
            refine NoPanic.normal ?_
            clear hS
            go_wp2_with fail
            go_meet
            exact um.of gT.out iY.out FW.out (gT.out.okay.eU _ _ HX.out.wu.1)
          ·have e9:(x.kind==9)=false:=by simpa using hk
           clear hk
           by_cases hk:x.kind=10
           ·have e10:(x.kind==10)=true:=by simpa using hk
            clear hk
            as_aux_lemma=>
             have Em:Hid (∀w',Keeps (Fa W P1) w3 w'→w'.cell? ⟨q,4,none⟩=some (.int .i64 x.id)∧w'.cell? ⟨q,8,none⟩=some (.int .u64 x.aQ)):=fun w' hK=>by
              have Qc:=(hK.block q hq3 (fun hw=>hw.2 Ng.out.2)).trans Q5.out
              obtain⟨d0,d1,d2,d3,d4,d5,d6,d7,d8⟩:=eH Qc
              exact⟨d4,d8⟩
             have HDR:=Lib.hid (gT.out.below (Below.refl _ _).drew)
             go_wp2_with fail
             refine wp_region_noPanic ?_
             refine wp_region_held_drew (S:=(fun w'=>w'.cell? ⟨q,4,none⟩=some (.int .i64 x.id)∧w'.cell? ⟨q,8,none⟩=some (.int .u64 x.aQ))) (by kernel_rfl) ?_ (fun hS=> ?_)
             ·exact⟨c4,c8⟩
             refine aV 0 (hS:=hS) (h:= ?_)
             refine aV 1 (hS:=hS) (h:= ?_)
             refine aV 2 (hS:=hS) (h:= ?_)
             refine aV 4 (hS:=hS) (h:= ?_)
             refine aV 5 (hS:=hS) (h:= ?_)
             refine aV 6 (hS:=hS) (h:= ?_)
             refine lJ 3 (h:=fun K hK=> ?_)
             go_simp
             (with_reducible refine(QY HDR.out.tree x.id HX.out.wi).mono ?_)
             rintro e w6 nC
             have iY:=Lib.hid (nC.behind (Below.refl _ _).drew)
             obtain rfl:=nC.1
             clear nC
             go_wp2_with fail
             refine hK.out _ _ (Em.out _ iY.out.kp) (fun hS=> ?_)
             clear hK K
             try simp only[Act.put,List.setIfInBounds_toArray,List.set_cons_zero,List.set_cons_succ]
             refine lJ 7 (h:=fun K hK=> ?_)
             go_simp
             (with_reducible refine(Db x.id w6 (gT.out.mid iY.out) gT.out.Lj).mono ?_)
             rintro e w8 pQ
             have FW:=Lib.hid pQ
             obtain rfl:=pQ.1
             have zl:w8.cell? ⟨q,4,none⟩=some (.int .i64 x.id)∧w8.cell? ⟨q,8,none⟩=some (.int .u64 x.aQ):=by
              have BR:q<w6.heap.size:=Nat.lt_of_lt_of_le hq3 iY.out.kp.size
              have h9:=Em.out _ iY.out.kp
              have hqr:q≠r:=fun he=>by
               have:=HB.out.ref.low r HB.out.ref.own
               have:=SY.out
               omega
              exact⟨(pQ.2.1.cell_ BR hqr 4).trans h9.1,(pQ.2.1.cell_ BR hqr 8).trans h9.2⟩
             clear pQ
             go_wp2_with fail
             refine hK.out _ _ (zl) (fun hS=> ?_)
             clear hK K
             try simp only[Act.put,List.setIfInBounds_toArray,List.set_cons_zero,List.set_cons_succ]
             refine aV 8 (hS:=hS) (h:= ?_)
             refine wpAnyH_done (by kernel_rfl) ?_ _
             refine NoPanic.normal ?_
             clear hS
             go_wp2_with fail
             go_meet
             exact um.of gT.out iY.out FW.out (gT.out.okay.eX _)
           ·have e10:(x.kind==10)=false:=by simpa using hk
            clear hk
            go_wp2_with fail
            go_meet
            exact um.rest gT.out (Below.refl _ _)
 case rest=>
  as_aux_lemma=>
   obtain⟨T2,⟨P2,F2,UU⟩,hkp,hsz,hBW⟩:=hcut
   obtain⟨w5,rfl⟩:∃w5:World,w5=wc:=⟨_,rfl⟩
   have hS1:aK (fun b=>w1.heap.size≤b∧b<w3.heap.size) w5 a1 m1 (l1.map strOf):=mQ.out.kept hsz fun b hb hbw=>hkp b (HSQ.out b hb)
   have Xz:=(hkp q Ng.out.1).trans Q5.out
   have TP:=Lib.hid (fun b (hb:Q b)=>(hkp b (Z7.out b hb)).trans (Ot.out.block b (HB.out.tree.low b (HB.out.P_ b hb).1)))
   have hsz0:w.heap.size≤w5.heap.size:=by have:=Ot.out.size;omega
   have En:q<w5.heap.size:=by omega
   have HB2:=Lib.hid (UU.mono Z7.out)
   have S9:=Lib.hid hS1
   obtain⟨d0,d1,d2,d3,d4,d5,d6,d7,d8⟩:=eH Xz
   have hE2:(aT T2).length≤1000000:=by have:=gQ UU.Lj;omega
   have H1:=Lib.hid (QX HB2.out.tree a1 m1 k1 l1 hS1)
   have H2:=Lib.hid (fun wz (hb:Below w5.heap.size w5 wz)=>tQ a1 m1 k1 l1 wz (HB2.out.ref.below hb (Nat.le_refl _)) HB2.out.Lj hE2 (S9.out.below hb (Nat.le_refl _)))
   have H3:=Lib.hid (fun wz (hb:Below w5.heap.size w5 wz)=>JW (HB2.out.tree.grow hb) x.id HX.out.wi)
   have H4:=Lib.hid (fun wz (hb:Below w5.heap.size w5 wz)=>jA x.id wz (HB2.out.ref.below hb (Nat.le_refl _)) HB2.out.Lj.toyQ)
   have H5:=Lib.hid (fun wz (hb:Below w5.heap.size w5 wz)=>QZ (HB2.out.tree.grow hb) x.id HX.out.wi)
   have H6:=Lib.hid (fun wz (hb:Below w5.heap.size w5 wz)=>xB x.id wz (HB2.out.ref.below hb (Nat.le_refl _)) HB2.out.Lj)
   have H7:=Lib.hid (fun wz (hb:Below w5.heap.size w5 wz)=>Fb (HB2.out.tree.grow hb))
   obtain⟨v0,v1,v2,v3,v4,v5,hv⟩:∃(v0 v1 v2 v3 v4:Int) (v5:Bool),jf T2 x.id= .agg #[.int .i64 v0, .int .i64 v1, .int .i64 v2, .int .i64 v3, .int .u64 v4, .bool v5]:=by
    unfold jf
    cases aj x.id T2 with
    |none=>exact⟨_,_,_,_,_,_,rfl⟩
    |some y=>exact⟨_,_,_,_,_,_,rfl⟩
   rw[hv]at H3 H4
   have Ll:=Lib.hid (fun wz (hb:Below w5.heap.size w5 wz)=>(HB2.out.ref.below hb (Nat.le_refl _)).nodes)
   have hr5:r<w5.heap.size:=HB2.out.ref.low r HB2.out.ref.own
   generalize (aj x.id T2).isSome=sm at*
   generalize fE T2 l1=lk at*
   generalize hlm:mX T2 x.id=lm at*
   clear UU hkp Xz hS1 hE2 hv hBW d0 d1 d2 d3 d5 d6 d7 d8 hlm c0 c1' c2' c3 c4 c5 c6 c7 c8
   go_wp2_with fail
   (with_reducible refine H1.out.mono ?_)
   rintro e w6 ⟨rfl,hb6⟩
   have ou:=Lib.hid hb6
   have e4:=(hb6.cell (p:=⟨q,4,none⟩) En).trans d4
   clear hb6
   go_wp2_with fail
   (with_reducible refine(H2.out w6 ou.out).mono ?_)
   rintro e w7 ⟨rfl,Ou⟩
   have pO:=Lib.hid (ou.out.trans (Ou.mono ou.out.size))
   have d4:=(pO.out.cell (p:=⟨q,4,none⟩) En).trans d4
   clear Ou e4
   go_wp2_with fail
   (with_reducible refine(H3.out w7 pO.out).mono ?_)
   rintro e w8 ⟨rfl,uR⟩
   have vY:=Lib.hid (pO.out.trans (uR.mono pO.out.size))
   have oC:=vY.out.size
   clear uR
   have hna:=(MapKept.heap_alloc w8 (.cells #[.int .i64 v0, .int .i64 v1, .int .i64 v2, .int .i64 v3, .int .u64 v4, .bool v5] 90)).1
   have Ak:=Lib.hid (vY.out.trans ((wall w8 (.cells #[.int .i64 v0, .int .i64 v1, .int .i64 v2, .int .i64 v3, .int .u64 v4, .bool v5] 90)).mono oC))
   have UW:=Lib.hid hna
   clear hna
   have d4a:=(Ak.out.cell (p:=⟨q,4,none⟩) En).trans ((pO.out.cell (p:=⟨q,4,none⟩) En).symm.trans d4)
   go_wp2_with fail
   have UY:(w8.alloc (.cells #[.int .i64 v0, .int .i64 v1, .int .i64 v2, .int .i64 v3, .int .u64 v4, .bool v5] 90)).heap.size=w8.heap.size+1:=by simp
   generalize (w8.alloc (.cells #[.int .i64 v0, .int .i64 v1, .int .i64 v2, .int .i64 v3, .int .u64 v4, .bool v5] 90))=XA at*
   obtain⟨qa,XB⟩:∃qa,qa=w8.heap.size:=⟨_,rfl⟩
   rw[←XB]at UW⊢
   have UZ:qa<XA.heap.size:=by omega
   clear XB UY
   (with_reducible refine(H4.out XA Ak.out).mono ?_)
   rintro e w9 ⟨rfl,oW⟩
   have BA:=Lib.hid (Ak.out.trans (oW.mono Ak.out.size))
   have Wn:=BA.out.size
   have U0:qa<w9.heap.size:=by have:=oW.size;omega
   have U1:=Lib.hid ((oW.block qa UZ).trans UW.out)
   have hnb:=(MapKept.heap_alloc w9 (.cells #[.int .i64 v0, .int .i64 v1, .int .i64 v2, .int .i64 v3, .int .u64 v4, .bool v5] 90)).1
   have Al:=Lib.hid (BA.out.trans ((wall w9 (.cells #[.int .i64 v0, .int .i64 v1, .int .i64 v2, .int .i64 v3, .int .u64 v4, .bool v5] 90)).mono Wn))
   have XC:=Lib.hid hnb
   have Ov:=Lib.hid (((wall w9 (.cells #[.int .i64 v0, .int .i64 v1, .int .i64 v2, .int .i64 v3, .int .u64 v4, .bool v5] 90)).block qa U0).trans U1.out)
   have d4b:=(Al.out.cell (p:=⟨q,4,none⟩) En).trans ((Ak.out.cell (p:=⟨q,4,none⟩) En).symm.trans d4a)
   have U2:(w9.alloc (.cells #[.int .i64 v0, .int .i64 v1, .int .i64 v2, .int .i64 v3, .int .u64 v4, .bool v5] 90)).heap.size=w9.heap.size+1:=by simp
   clear hnb oW
   go_wp2_with fail
   generalize (w9.alloc (.cells #[.int .i64 v0, .int .i64 v1, .int .i64 v2, .int .i64 v3, .int .u64 v4, .bool v5] 90))=U3 at*
   obtain⟨qb,FN⟩:∃qb,qb=w9.heap.size:=⟨_,rfl⟩
   rw[←FN]at XC⊢
   have U4:qb<U3.heap.size:=by omega
   have Ow:qa<U3.heap.size:=by omega
   clear FN U2
   (with_reducible refine(H5.out U3 Al.out).mono ?_)
   rintro e IK ⟨a3,k3,rfl,hk3,hs3,mR⟩
   have sH:=Lib.hid (Al.out.trans (mR.mono Al.out.size))
   have d4c:=(sH.out.cell (p:=⟨q,4,none⟩) En).trans ((Al.out.cell (p:=⟨q,4,none⟩) En).symm.trans d4b)
   have Ox:=Lib.hid ((mR.block qa Ow).trans Ov.out)
   have Oy:=Lib.hid ((mR.block qb U4).trans XC.out)
   have P5:=Lib.hid hs3
   have hz10:=mR.size
   clear hs3 mR
   go_wp2_with fail
   (with_reducible refine(H6.out IK sH.out).mono ?_)
   rintro e Am ⟨a4,k4,rfl,hk4,hs4,xD⟩
   have xE:=Lib.hid (sH.out.trans (xD.mono sH.out.size))
   have FX:=(xD.block qa (by omega)).trans Ox.out
   have FY:=(xD.block qb (by omega)).trans Oy.out
   have U5:=Lib.hid (P5.out.below xD (Nat.le_refl _))
   have M8:=Lib.hid hs4
   have hz11:=xD.size
   have IC:=Lib.hid (fun wz (hb:Below Am.heap.size Am wz)=>Ah a3 a4 lm.1.length k3 lm.1.length k4 (lm.1.map strOf) (lm.1.map strOf) wz (U5.out.below hb (Nat.le_refl _)) (M8.out.below hb (Nat.le_refl _)))
   have hsame:decide (lm.1.map strOf=lm.1.map strOf)=true:=by simp
   rw[hsame]at IC
   obtain⟨aZ,cZ,z0,-⟩:=Ll.out Am xE.out
   have U6:r<Am.heap.size:=by have:=xE.out.size;omega
   obtain⟨tl,htl⟩:∃tl,tl=T2.length:=⟨_,rfl⟩
   rw[←htl]at H7 z0
   have QT:=Lib.hid htl
   have U7:Hid (∀wz,Below Am.heap.size Am wz→((wz.cell? ⟨qa,0,none⟩=some (.int .i64 v0)∧wz.cell? ⟨qa,1,none⟩=some (.int .i64 v1)∧wz.cell? ⟨qa,2,none⟩=some (.int .i64 v2)∧wz.cell? ⟨qa,3,none⟩=some (.int .i64 v3)∧wz.cell? ⟨qa,4,none⟩=some (.int .u64 v4)∧wz.cell? ⟨qa,5,none⟩=some (.bool v5))∧(wz.cell? ⟨qb,0,none⟩=some (.int .i64 v0)∧wz.cell? ⟨qb,1,none⟩=some (.int .i64 v1)∧wz.cell? ⟨qb,2,none⟩=some (.int .i64 v2)∧wz.cell? ⟨qb,3,none⟩=some (.int .i64 v3)∧wz.cell? ⟨qb,4,none⟩=some (.int .u64 v4)∧wz.cell? ⟨qb,5,none⟩=some (.bool v5))∧wz.cell? ⟨r,0,none⟩=some (.slice aZ tl cZ))):=fun wz hb=>by
    have g1:=(hb.block qa (by omega)).trans FX
    have g2:=(hb.block qb (by omega)).trans FY
    refine⟨⟨?_,?_,?_,?_,?_,?_⟩,⟨?_,?_,?_,?_,?_,?_⟩,(hb.cell (p:=⟨r,0,none⟩) U6).trans z0⟩<;>simp[World.cell?,g1,g2]
   clear hs4 xD FX FY hsame htl
   generalize lm.1.length=ll at*
   obtain⟨YQ,YR⟩:=lk
   obtain⟨lm1,YS⟩:=lm
   go_wp2_with fail
   refine wp_region_noPanic ?_
   refine wp_region_held_drew (S:=(fun wz=>(wz.cell? ⟨qa,0,none⟩=some (.int .i64 v0)∧wz.cell? ⟨qa,1,none⟩=some (.int .i64 v1)∧wz.cell? ⟨qa,2,none⟩=some (.int .i64 v2)∧wz.cell? ⟨qa,3,none⟩=some (.int .i64 v3)∧wz.cell? ⟨qa,4,none⟩=some (.int .u64 v4)∧wz.cell? ⟨qa,5,none⟩=some (.bool v5))∧(wz.cell? ⟨qb,0,none⟩=some (.int .i64 v0)∧wz.cell? ⟨qb,1,none⟩=some (.int .i64 v1)∧wz.cell? ⟨qb,2,none⟩=some (.int .i64 v2)∧wz.cell? ⟨qb,3,none⟩=some (.int .i64 v3)∧wz.cell? ⟨qb,4,none⟩=some (.int .u64 v4)∧wz.cell? ⟨qb,5,none⟩=some (.bool v5))∧wz.cell? ⟨r,0,none⟩=some (.slice aZ tl cZ))) (by kernel_rfl) ?_ (fun hS=> ?_)
   ·exact U7.out _ (Below.refl _ _).drew
   refine aV 0 (hS:=hS) (h:= ?_)
   refine aV 1 (hS:=hS) (h:= ?_)
   refine aV 2 (hS:=hS) (h:= ?_)
   refine aV 3 (hS:=hS) (h:= ?_)
   refine aV 4 (hS:=hS) (h:= ?_)
   refine aV 5 (hS:=hS) (h:= ?_)
   refine aV 6 (hS:=hS) (h:= ?_)
   refine aV 7 (hS:=hS) (h:= ?_)
   refine aV 8 (hS:=hS) (h:= ?_)
   refine aV 9 (hS:=hS) (h:= ?_)
   refine aV 10 (hS:=hS) (h:= ?_)
   refine aV 11 (hS:=hS) (h:= ?_)
   refine aV 12 (hS:=hS) (h:= ?_)
   refine aV 13 (hS:=hS) (h:= ?_)
   refine aV 14 (hS:=hS) (h:= ?_)
   refine aV 15 (hS:=hS) (h:= ?_)
   refine aV 16 (hS:=hS) (h:= ?_)
   refine aV 17 (hS:=hS) (h:= ?_)
   refine aV 18 (hS:=hS) (h:= ?_)
   refine aV 19 (hS:=hS) (h:= ?_)
   refine aV 20 (hS:=hS) (h:= ?_)
   refine lJ 21 (h:=fun K hK=> ?_)
   go_simp
   (with_reducible refine(IC.out _ (Below.refl _ _).drew).mono ?_)
   rintro e w12 ⟨rfl,U8⟩
   have nH:Below Am.heap.size Am w12:=(Below.refl _ _).drew.trans U8
   go_wp2_with fail
   refine hK.out _ _ (U7.out _ nH) (fun hS=> ?_)
   clear hK K
   try simp only[Act.put,List.setIfInBounds_toArray,List.set_cons_zero,List.set_cons_succ]
   refine aV 22 (hS:=hS) (h:= ?_)
   refine aV 23 (hS:=hS) (h:= ?_)
   refine aV 24 (hS:=hS) (h:= ?_)
   refine aV 25 (hS:=hS) (h:= ?_)
   refine aV 26 (hS:=hS) (h:= ?_)
   refine aV 27 (hS:=hS) (h:= ?_)
   refine aV 28 (hS:=hS) (h:= ?_)
   refine aV 29 (hS:=hS) (h:= ?_)
   refine aV 31 (hS:=hS) (h:= ?_)
   refine aV 32 (hS:=hS) (h:= ?_)
   refine aV 33 (hS:=hS) (h:= ?_)
   refine aV 34 (hS:=hS) (h:= ?_)
   refine aV 35 (hS:=hS) (h:= ?_)
   refine lJ 30 (h:=fun K hK=> ?_)
   go_simp
   (with_reducible refine(H7.out _ (xE.out.trans (nH.mono xE.out.size))).mono ?_)
   rintro e w13 ⟨rfl,rfl⟩
   go_wp2_with fail
   refine hK.out _ _ (U7.out _ nH) (fun hS=> ?_)
   clear hK K
   try simp only[Act.put,List.setIfInBounds_toArray,List.set_cons_zero,List.set_cons_succ]
   refine aV 36 (hS:=hS) (h:= ?_)
   refine aV 37 (hS:=hS) (h:= ?_)
   refine aV 38 (hS:=hS) (h:= ?_)
   refine wpAnyH_done (by kernel_rfl) ?_ _
   refine NoPanic.normal ?_
   clear hS
   have HB12:=Lib.hid (xE.out.trans (nH.mono xE.out.size))
   clear nH
   go_wp2_with fail
   go_ret
   have h9:=HB2.out.rest HB12.out
   exact⟨rfl,T2,h9.1,fun b hb=>(h9.2.1 b hb).trans (TP.out b hb),Nat.le_trans hsz0 h9.2.2.1,h9.2.2.2⟩
end Go.Proofs.YtmabllemjkcobaaGreat
