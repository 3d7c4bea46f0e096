/- permafrostlaw11.do. The reference's tree: New. Arguments opened: lists of permafrostlaw11.Ask. permafrostlaw11.played. Literal slices of texts. permafrostlaw11.known. -/
import Derived.Test.YtjnhnlabpccgjaaGreatM26
import Derived.Test.YtjnhnlabpccgjaaGreatM25
import Derived.Test.YtjnhnlabpccgjaaGreatM19
import Derived.Test.YtjnhnlabpccgjaaGreatM12
import Derived.Test.YtjnhnlabpccgjaaGreatM10
namespace Go.Proofs.YtjnhnlabpccgjaaGreat
open Go.ChangeShapes Go.WideShapes Go.ChangeAt Go.RowKit
set_option linter.unusedVariables false
set_option linter.unusedSimpArgs false
structure Ez where
 kind:Int
 P:Int
 J3:Int
 dir:Bool
 id:Int
 at_:Int
 n:Int
 b:List UInt8
 aO:Int
structure Ez.Ok (x:Ez):Prop where
 wk:(Lit.int .i64 x.kind).wf=true
 wp:(Lit.int .i64 x.P).wf=true
 wt:(Lit.int .i64 x.J3).wf=true
 wi:(Lit.int .i64 x.id).wf=true
 wa:(Lit.int .i64 x.at_).wf=true
 wn:(Lit.int .i64 x.n).wf=true
 wu:0≤x.aO∧x.aO≤18446744073709551615
def zq (ba:Option Addr) (bn bc:Nat) (x:Ez):Value:= .agg #[.int .i64 x.kind, .int .i64 x.P, .int .i64 x.J3, .bool x.dir, .int .i64 x.id, .int .i64 x.at_, .int .i64 x.n, .slice ba bn bc, .int .u64 x.aO]
def wT (ba:Option Addr) (bn bc:Nat) (x:Ez):Array Value:= #[.int .i64 x.kind, .int .i64 x.P, .int .i64 x.J3, .bool x.dir, .int .i64 x.id, .int .i64 x.at_, .int .i64 x.n, .slice ba bn bc, .int .u64 x.aO]
theorem jT {w:World} {q:Nat} {ba:Option Addr} {bn bc:Nat} {x:Ez} (h:w.heap[q]? =some (.cells (wT ba bn bc x) 93 (0,0))):w.cell? ⟨q,0,none⟩=some (.int .i64 x.kind)∧w.cell? ⟨q,1,none⟩=some (.int .i64 x.P)∧w.cell? ⟨q,2,none⟩=some (.int .i64 x.J3)∧w.cell? ⟨q,3,none⟩=some (.bool x.dir)∧w.cell? ⟨q,4,none⟩=some (.int .i64 x.id)∧w.cell? ⟨q,5,none⟩=some (.int .i64 x.at_)∧w.cell? ⟨q,6,none⟩=some (.int .i64 x.n)∧w.cell? ⟨q,7,none⟩=some (.slice ba bn bc)∧w.cell? ⟨q,8,none⟩=some (.int .u64 x.aO):=by
 refine⟨?_,?_,?_,?_,?_,?_,?_,?_,?_⟩<;>simp[World.cell?,h,wT]
def Xm (W:World) (Q:Nat→Prop) (w:World) (t r:Nat) (e:Ending) (w':World):Prop:=
 e= .returned (.bool true)∧∃T',Ey W Q w' t r T'∧(∀b,Q b→w'.heap[b]? =w.heap[b]?)∧w.heap.size≤w'.heap.size∧Below W.heap.size W w'
def rV (W:World) (Q:Nat→Prop) (w:World) (t r:Nat) (wx:World):Prop:=
 ∃T',Ey W Q wx t r T'∧(∀b,Q b→wx.heap[b]? =w.heap[b]?)∧w.heap.size≤wx.heap.size∧Below W.heap.size W wx
theorem dR.then_ {W w w1 w2:World} {P:Nat→Prop} {t:Nat} {T:aF} {v:Value} {e:Ending} (h:dR W P w t T v e w1) (hb:Below w1.heap.size w1 w2):dR W P w t T v e w2:=
 ⟨h.1,h.2.1.grow hb,h.2.2.trans (fp':=fun x=>w1.heap.size≤x) (Keeps.below hb) fun x hx hf=>by have:=h.2.2.size;omega⟩
theorem dR.behind {W w0 w w1:World} {P:Nat→Prop} {t:Nat} {T:aF} {v:Value} {e:Ending} (h:dR W P w t T v e w1) (hb:Below w0.heap.size w0 w):dR W P w0 t T v e w1:=
 ⟨h.1,h.2.1,(Keeps.mono (Keeps.below hb) (fun x hx hf=>by omega)).trans h.2.2 fun x _ hx=>hx⟩
theorem iR.J4 {W w:World} {Q P F:Nat→Prop} {t r:Nat} {T:aF} (h:iR W Q P F w t r T):fB T:=h.okay.1.1
theorem iR.ok1 {W w:World} {Q P F:Nat→Prop} {t r:Nat} {T:aF} (h:iR W Q P F w t r T):gI T:=h.okay.1
theorem dR.kp {W w w1:World} {P:Nat→Prop} {t:Nat} {T:aF} {v:Value} {e:Ending} (h:dR W P w t T v e w1):Keeps (Dn W P) w w1:=h.2.2
theorem rV.of {W w w1 w2:World} {Q P F:Nat→Prop} {t r:Nat} {T T':aF} {v1 v2:Value} {e1 e2:Ending} (h:iR W Q P F w t r T) (h1:dR W P w t T' v1 e1 w1) (h2:bH F w1 r T' v2 e2 w2) (hO:rU T'):rV W Q w t r w2:=⟨T',h.step h1 h2 hO⟩
theorem rV.rest {W w w1:World} {Q P F:Nat→Prop} {t r:Nat} {T:aF} (h:iR W Q P F w t r T) (hb:Below w.heap.size w w1):rV W Q w t r w1:=⟨T,h.rest hb⟩
theorem kR {W w w1:World} {P S:Nat→Prop} {a:Option Addr} {n:Nat} {ss:List ByteArray} (h:aP S w a n ss) (hS:∀b,S b→P b) (hK:Keeps (Dn W P) w w1):aP S w1 a n ss:=
 h.kept hK.size fun b hb hbw=>hK.block b hbw fun hw=>hw.2 (hS b hb)
theorem uS (n:Int):∀m∈kQ n,m.length≤1:=by
 unfold kQ
 rw[List.getD_eq_getElem?_getD]
 cases h:jy[nJ n]? with
 |none=>simp
 |some ls=>
  have hm:=List.mem_of_getElem? h
  have:∀l∈jy,∀m∈l,m.length≤1:=by decide
  exact this ls hm
theorem MU (ba:Option Addr) (bn bc:Nat) (x:Ez) (w:World):Calls Tryz.prog 101 #[zq ba bn bc x] w fun e w'=>e= .returned (.int .i64 (if x.dir=true then 2 else 1))∧Below w.heap.size w w':=by
 unfold zq
 cases hd:x.dir with
 |true=>
  go_enter Tryz.func101,Tryz.ntmps101
  go_wp2
  go_ret
  exact⟨rfl,wall w _⟩
 |false=>
  go_enter Tryz.func101,Tryz.ntmps101
  go_wp2
  go_ret
  exact⟨rfl,wall w _⟩
set_option maxRecDepth 100000 in
set_option maxHeartbeats 32000000 in
theorem MV {W w:World} {Q P F:Nat→Prop} {t r:Nat} {T:aF} (x:Ez) (ba:Option Addr) (bn bc:Nat) (hB:iR W Q P F w t r T) (hx:x.Ok) (hbr:aj (fun b=>b<W.heap.size) w ba bn (x.b.map bv)) (hbc:bn≤bc) (hbl:bn≤140737488351232):
  Calls Tryz.prog 51 #[ptr t,ptr r,zq ba bn bc x] w (Xm W Q w t r):=by
 have HB:=Lib.hid hB
 have HX:=Lib.hid hx
 have Fh:=Lib.hid hbr
 have hWw:=hB.tree.below.size
 unfold zq
 clear hB hx hbr
 go_enter Tryz.func51,Tryz.ntmps51
 go_wp2_with fail
 have UK:(w.alloc (.cells (wT ba bn bc x) 93)).heap[w.heap.size]? =some (.cells (wT ba bn bc x) 93):=(MapKept.heap_alloc w _).1
 have hBa:Below w.heap.size w (w.alloc (.cells (wT ba bn bc x) 93)):=wall w _
 have hza:(w.alloc (.cells (wT ba bn bc x) 93)).heap.size=w.heap.size+1:=by simp
 unfold wT at UK hBa hza
 generalize (w.alloc (.cells #[.int .i64 x.kind, .int .i64 x.P, .int .i64 x.J3, .bool x.dir, .int .i64 x.id, .int .i64 x.at_, .int .i64 x.n, .slice ba bn bc, .int .u64 x.aO] 93))=w1 at*
 obtain⟨q,hq⟩:∃q,q=w.heap.size:=⟨_,rfl⟩
 rw[←hq]at UK⊢
 have HHA:=Lib.hid UK
 obtain⟨c0,c1,c2,c3,c4,c5,c6,c7,c8⟩:=jT (q:=q) (x:=x) UK
 have Io:=Lib.hid hBa
 have TB:=Lib.hid hq
 have Xn:q<w1.heap.size:=by omega
 have kV:Hid (∀w',Below w1.heap.size w1 w'→w'.cell? ⟨q,1,none⟩=some (.int .i64 x.P)∧w'.cell? ⟨q,2,none⟩=some (.int .i64 x.J3)):=fun w' hb=>⟨(hb.cell (p:=⟨q,1,none⟩) Xn).trans c1,(hb.cell (p:=⟨q,2,none⟩) Xn).trans c2⟩
 clear UK hBa hq c0 c3 c4 c5 c6 c7 c8
 refine KQ ((fun w'=>w'.cell? ⟨q,1,none⟩=some (.int .i64 x.P)∧w'.cell? ⟨q,2,none⟩=some (.int .i64 x.J3))) ?_ fun hS=> ?_
 ·exact kV.out _ (Below.refl _ _).drew
 refine dJ 0 hS ?_
 refine dJ 1 hS ?_
 refine dJ 3 hS ?_
 refine dJ 4 hS ?_
 refine sw 2 fun K hK=> ?_
 go_simp
 (with_reducible refine(Bw _ HX.out.wp _).mono ?_)
 rintro e w2 ⟨a1,k1,rfl,hk1,hs1,hb2⟩
 have zu:Below w1.heap.size w1 w2:=(Below.refl _ _).drew.trans hb2
 go_wp2_with fail
 refine sD hK (kV.out _ zu) fun hS=> ?_
 clear hK K
 refine sw 5 fun K hK=> ?_
 go_simp
 (with_reducible refine(Bw _ HX.out.wt _).mono ?_)
 rintro e w3 ⟨a2,k2,rfl,hk2,hs2,hb3⟩
 have MW:Below w1.heap.size w1 w3:=zu.trans (hb3.mono zu.size)
 go_wp2_with fail
 refine sD hK (kV.out _ MW) fun hS=> ?_
 clear hK K
 refine dJ 6 hS ?_
 refine dJ 7 hS ?_
 refine KP ?_
 clear hS
 have tK:Hid (aP (fun b=>w1.heap.size≤b∧b<w3.heap.size) w3 a1 (kQ x.P).length ((kQ x.P).map strOf)):=by
  refine(hs1.below hb3 (Nat.le_refl _)).mono fun b hb=>⟨hb.1,?_⟩
  have:=hb3.size
  omega
 have HS2:Hid (aP (fun b=>w1.heap.size≤b∧b<w3.heap.size) w3 a2 (kQ x.J3).length ((kQ x.J3).map strOf)):=by
  refine hs2.mono fun b hb=>⟨?_,hb.2⟩
  have:=zu.size
  omega
 have Xo:=Lib.hid (uS x.P)
 have UL:=Lib.hid (uS x.J3)
 have hn1:=uR x.P
 have hn2:=uR x.J3
 generalize hg1:kQ x.P=l1 at*
 generalize hg2:kQ x.J3=l2 at*
 obtain⟨m1,hm1⟩:∃m,m=l1.length:=⟨_,rfl⟩
 obtain⟨m2,hm2⟩:∃m,m=l2.length:=⟨_,rfl⟩
 rw[←hm1]at hk1 hn1 tK⊢
 rw[←hm2]at hk2 hn2 HS2⊢
 have hh3:w3.heap[q]? =some (.cells (wT ba bn bc x) 93 (0,0)):=(MW.block q Xn).trans HHA.out
 have TD:=Lib.hid hh3
 have Pp:Below w.heap.size w w3:=Io.out.trans (MW.mono (by omega))
 have Gt:=HB.out.B_ Pp
 have hq3:q<w3.heap.size:=by have:=MW.size;omega
 have Lm:Hid ((fun z=>Q z∨(w.heap.size≤z∧z<w3.heap.size)) q∧(fun z=>P z∨(w.heap.size≤z∧z<w3.heap.size)) q):=⟨.inr ⟨by have:=TB.out;omega,hq3⟩, .inr ⟨by have:=TB.out;omega,hq3⟩⟩
 have QI:Hid (∀b,w1.heap.size≤b∧b<w3.heap.size→(fun z=>P z∨(w.heap.size≤z∧z<w3.heap.size)) b):=fun b hb=> .inr ⟨by omega,hb.2⟩
 have Zr:Hid (∀b,w1.heap.size≤b∧b<w3.heap.size→(fun z=>Q z∨(w.heap.size≤z∧z<w3.heap.size)) b):=fun b hb=> .inr ⟨by omega,hb.2⟩
 have JG:Hid (∀b,w1.heap.size≤b∧b<w3.heap.size→b≠r):=fun b hb he=>by
  have:=HB.out.ref.low r HB.out.ref.own
  omega
 have Xp:=Lib.hid (Fh.out.below Pp (Nat.le_refl _))
 have UM:=Lib.hid Pp
 have Xq:Hid (∀z,Q z→(fun z=>Q z∨(w.heap.size≤z∧z<w3.heap.size)) z):=fun z hz=> .inl hz
 generalize hQ1:(fun z=>Q z∨(w.heap.size≤z∧z<w3.heap.size))=Q1 at Gt Lm Xq Zr
 generalize hP1:(fun z=>P z∨(w.heap.size≤z∧z<w3.heap.size))=P1 at Gt Lm QI
 have lT:=Lib.hid Gt
 obtain⟨c0,c1',c2',c3,c4,c5,c6,c7,c8⟩:=jT hh3
 have MI:Hid (∀wz:World,Calls Tryz.prog 12 #[.slice ba bn bc, .int .i64 100] wz fun e w'=>e= .returned (.slice ba (min bn 100) bc)∧wz=w'):=fun wz=>CF ba bn bc 100 hbc (by omega) (by unfold maxLen;omega) wz
 clear hs1 hs2 hb2 hb3 zu MW hg1 hg2 hm1 hm2 hh3 Pp Gt hQ1 hP1 c1 c2
 go_wp2_with fail
 (with_reducible refine(MI.out _).mono ?_)
 rintro e w4 ⟨rfl,rfl⟩
 have hWr:W.heap.size≤r:=(HB.out.Po r HB.out.ref.own).2
 have J5:Hid (aj (fun b=>b<W.heap.size) w3 ba (min bn 100) ((x.b.take 100).map bv)):=by
  have:=Xp.out.take 100
  rwa [←List.map_take]at this
 have Xr:min bn 100≤100:=Nat.min_le_right _ _
 have UN:Hid (∀w6,Keeps (Dn W P1) w3 w6→aj (fun b=>b<W.heap.size) w6 ba (min bn 100) ((x.b.take 100).map bv)):=fun w6 hK=>J5.out.kept hK.size fun b hb hbw=>hK.block b hbw fun hw=>by have:=hw.1;omega
 have Xt:Hid (∀b,b<W.heap.size→b≠r):=fun b hb he=>by omega
 generalize min bn 100=bm at*
 go_upto_block 0 with(fail)
 go_cut [] (fun wx=>rV W Q1 w3 t r wx)
 case first=>
  by_cases hk:x.kind=1
  ·have e1:(x.kind==1)=true:=by simpa using hk
   clear hk
   as_aux_lemma=>
    have VW:Hid (∀wz,Calls Tryz.prog 101 #[zq ba bn bc x] wz fun e w'=>e= .returned (.int .i64 (if x.dir=true then 2 else 1))∧Below wz.heap.size wz w'):=fun wz=>MU ba bn bc x wz
    generalize (if x.dir=true then 2 else 1:Int)=kd at VW
    unfold zq at VW
    go_wp2_with fail
    (with_reducible refine(VW.out _).mono ?_)
    rintro e w5 ⟨rfl,hb5⟩
    have iQ:=Lib.hid hb5
    clear hb5
    go_wp2_with fail
    (with_reducible refine(Ca (lT.out.tree.grow iQ.out) a1 m1 k1 l1 kd (tK.out.below iQ.out (Nat.le_refl _)) hk1 (by omega)).mono ?_)
    rintro e w6 mo
    have jS:=Lib.hid (mo.behind iQ.out)
    obtain rfl:=mo.1
    clear mo
    have N9:=(jS.out.kp.block q hq3 (fun hw=>hw.2 Lm.out.2)).trans TD.out
    obtain⟨d0,d1,d2,d3,d4,d5,d6,d7,d8⟩:=jT N9
    clear N9
    have KR:q<w6.heap.size:=Nat.lt_of_lt_of_le hq3 jS.out.kp.size
    go_wp2_with fail
    (with_reducible refine(VW.out _).mono ?_)
    rintro e w7 ⟨rfl,OZ⟩
    have vk:=Lib.hid OZ
    clear OZ
    go_wp2_with fail
    (with_reducible refine(JW a1 m1 k1 l1 kd w7 ((lT.out.mid jS.out).below vk.out (Nat.le_refl _)) lT.out.J4 ((kR tK.out QI.out jS.out.kp).below vk.out (Nat.le_refl _)) hk1 (by omega)).mono ?_)
    rintro e w8 nK
    have EA:=Lib.hid nK
    obtain rfl:=nK.1
    clear nK
    go_wp2_with fail
    go_meet
    exact rV.of lT.out (jS.out.then_ vk.out) EA.out (lT.out.okay.dQ Xo.out _)
  ·have e1:(x.kind==1)=false:=by simpa using hk
   clear hk
   by_cases hk:x.kind=2
   ·have e2:(x.kind==2)=true:=by simpa using hk
    clear hk
    as_aux_lemma=>
     go_wp2_with fail
     (with_reducible refine(H8 lT.out.tree a1 m1 k1 l1 a2 m2 k2 l2 tK.out HS2.out hk2 (by omega)).mono ?_)
     rintro e w6 mo
     have jS:=Lib.hid mo
     obtain rfl:=mo.1
     clear mo
     go_wp2_with fail
     (with_reducible refine(JI a1 m1 k1 l1 a2 m2 k2 l2 w6 (lT.out.mid jS.out) lT.out.J4 (kR tK.out QI.out jS.out.kp) (kR HS2.out QI.out jS.out.kp) hk2 (by omega)).mono ?_)
     rintro e w8 nK
     have EA:=Lib.hid nK
     obtain rfl:=nK.1
     clear nK
     go_wp2_with fail
     go_meet
     exact rV.of lT.out jS.out EA.out (lT.out.okay.dW _ UL.out)
   ·have e2:(x.kind==2)=false:=by simpa using hk
    clear hk
    by_cases hk:x.kind=3
    ·have e3:(x.kind==3)=true:=by simpa using hk
     clear hk
     as_aux_lemma=>
      go_wp2_with fail
      (with_reducible refine(Jv lT.out.tree a1 m1 k1 l1 tK.out hk1 (by omega)).mono ?_)
      rintro e w6 mo
      have jS:=Lib.hid mo
      obtain rfl:=mo.1
      clear mo
      go_wp2_with fail
      (with_reducible refine(En a1 m1 k1 l1 w6 (lT.out.mid jS.out) lT.out.J4 (kR tK.out QI.out jS.out.kp) hk1 (by omega)).mono ?_)
      rintro e w8 nK
      have EA:=Lib.hid nK
      obtain rfl:=nK.1
      clear nK
      go_wp2_with fail
      go_meet
      exact rV.of lT.out jS.out EA.out (lT.out.okay.b_ _)
    ·have e3:(x.kind==3)=false:=by simpa using hk
     clear hk
     by_cases hk:x.kind=4
     ·have e4:(x.kind==4)=true:=by simpa using hk
      clear hk
      as_aux_lemma=>
       go_wp2_with fail
       (with_reducible refine(Mq lT.out.tree a1 m1 k1 l1 tK.out hk1 (by omega)).mono ?_)
       rintro e w6 mo
       have jS:=Lib.hid mo
       obtain rfl:=mo.1
       clear mo
       go_wp2_with fail
       (with_reducible refine(Gm a1 m1 k1 l1 w6 (lT.out.mid jS.out) lT.out.J4 (kR tK.out QI.out jS.out.kp) hk1 (by omega)).mono ?_)
       rintro e w8 nK
       have EA:=Lib.hid nK
       obtain rfl:=nK.1
       clear nK
       go_wp2_with fail
       go_meet
       exact rV.of lT.out jS.out EA.out (lT.out.okay.dF _)
     ·have e4:(x.kind==4)=false:=by simpa using hk
      clear hk
      by_cases hk:x.kind=5
      ·have e5:(x.kind==5)=true:=by simpa using hk
       clear hk
       as_aux_lemma=>
        go_wp2_with fail
        (with_reducible refine(Jw lT.out.tree lT.out.ok1 a1 m1 k1 l1 a2 m2 k2 l2 tK.out HS2.out hk1 (by omega) hk2 (by omega)).mono ?_)
        rintro e w6 mo
        have jS:=Lib.hid mo
        obtain rfl:=mo.1
        clear mo
        go_wp2_with fail
        (with_reducible refine(Er a1 m1 k1 l1 a2 m2 k2 l2 w6 (lT.out.mid jS.out) lT.out.ok1 (kR tK.out QI.out jS.out.kp) (kR HS2.out QI.out jS.out.kp) hk1 (by omega) hk2 (by omega)).mono ?_)
        rintro e w8 nK
        have EA:=Lib.hid nK
        obtain rfl:=nK.1
        clear nK
        go_wp2_with fail
        go_meet
        exact rV.of lT.out jS.out EA.out (lT.out.okay.bg _ UL.out)
      ·have e5:(x.kind==5)=false:=by simpa using hk
       clear hk
       by_cases hk:x.kind=6
       ·have e6:(x.kind==6)=true:=by simpa using hk
        clear hk
        as_aux_lemma=>
         have MX:Hid (∀w',Keeps (Dn W P1) w3 w'→w'.cell? ⟨q,4,none⟩=some (.int .i64 x.id)∧w'.cell? ⟨q,8,none⟩=some (.int .u64 x.aO)):=fun w' hK=>by
          have N9:=(hK.block q hq3 (fun hw=>hw.2 Lm.out.2)).trans TD.out
          obtain⟨d0,d1,d2,d3,d4,d5,d6,d7,d8⟩:=jT N9
          exact⟨d4,d8⟩
         have HDR:=Lib.hid (lT.out.below (Below.refl _ _).drew)
         go_wp2_with fail
         refine KQ ((fun w'=>w'.cell? ⟨q,4,none⟩=some (.int .i64 x.id)∧w'.cell? ⟨q,8,none⟩=some (.int .u64 x.aO))) ?_ fun hS=> ?_
         ·exact⟨c4,c8⟩
         refine dJ 0 hS ?_
         refine dJ 1 hS ?_
         refine dJ 2 hS ?_
         refine dJ 3 hS ?_
         refine dJ 5 hS ?_
         refine dJ 6 hS ?_
         refine dJ 7 hS ?_
         refine dJ 8 hS ?_
         refine sw 4 fun K hK=> ?_
         go_simp
         (with_reducible refine(Je HDR.out.tree x.id ba bm bc (x.b.take 100) HX.out.wi (J5.out.below (Below.refl _ _).drew (Nat.le_refl _)) (by omega)).mono ?_)
         rintro e w6 mo
         have jS:=Lib.hid (mo.behind (Below.refl _ _).drew)
         obtain rfl:=mo.1
         clear mo
         go_wp2_with fail
         refine sD hK (MX.out _ jS.out.kp) fun hS=> ?_
         clear hK K
         refine sw 9 fun K hK=> ?_
         go_simp
         (with_reducible refine(Ew x.id ba bm bc (x.b.take 100) w6 (lT.out.mid jS.out) lT.out.J4 (UN.out w6 jS.out.kp) Xt.out (by omega)).mono ?_)
         rintro e w8 nK
         have EA:=Lib.hid nK
         obtain rfl:=nK.1
         have QJ:w8.cell? ⟨q,4,none⟩=some (.int .i64 x.id)∧w8.cell? ⟨q,8,none⟩=some (.int .u64 x.aO):=by
          have KR:q<w6.heap.size:=Nat.lt_of_lt_of_le hq3 jS.out.kp.size
          have h9:=MX.out _ jS.out.kp
          have hqr:q≠r:=fun he=>by
           have:=HB.out.ref.low r HB.out.ref.own
           have:=TB.out
           omega
          exact⟨(nK.2.1.cell_ KR hqr 4).trans h9.1,(nK.2.1.cell_ KR hqr 8).trans h9.2⟩
         clear nK
         go_wp2_with fail
         refine sD hK (QJ) fun hS=> ?_
         clear hK K
         refine dJ 10 hS ?_
         refine KP ?_
         clear hS
         go_wp2_with fail
         go_meet
         exact rV.of lT.out jS.out EA.out (lT.out.okay.dw _ _)
       ·have e6:(x.kind==6)=false:=by simpa using hk
        clear hk
        by_cases hk:x.kind=7
        ·have e7:(x.kind==7)=true:=by simpa using hk
         clear hk
         as_aux_lemma=>
          go_wp2_with fail
          (with_reducible refine(OC lT.out.tree x.id x.at_ x.n HX.out.wi HX.out.wa HX.out.wn).mono ?_)
          rintro e w6 ⟨a6,n6,k6,rfl,-,Zt,hb6⟩
          have rQ:=Lib.hid hb6
          have Xu:=Lib.hid Zt
          have HRR:=Lib.hid (JM x.id x.at_ x.n w6 (lT.out.ref.below hb6 (Nat.le_refl _)) lT.out.J4.torz HX.out.wa HX.out.wn)
          have d4:=(hb6.cell (p:=⟨q,4,none⟩) hq3).trans c4
          have d5:=(hb6.cell (p:=⟨q,5,none⟩) hq3).trans c5
          have d6:=(hb6.cell (p:=⟨q,6,none⟩) hq3).trans c6
          clear hb6 Zt
          generalize nO T x.id x.at_ x.n=rb at*
          generalize nN T x.id x.at_ x.n=re at*
          go_wp2_with fail
          (with_reducible refine HRR.out.mono ?_)
          rintro e w7 ⟨a7,n7,k7,rfl,Zu,rfl⟩
          have hcv1:(convert 23 9 (.slice a6 n6 k6)).run Tryz.prog w6= .ok (.string (strOf rb)) w6:=lq Xu.out
          have hcv2:(convert 23 9 (.slice a7 n7 k7)).run Tryz.prog w6= .ok (.string (strOf rb)) w6:=lq Zu
          clear Zu
          go_wp2_with fail
          go_meet
          exact rV.rest lT.out rQ.out
        ·have e7:(x.kind==7)=false:=by simpa using hk
         clear hk
         by_cases hk:x.kind=8
         ·have e8:(x.kind==8)=true:=by simpa using hk
          clear hk
          as_aux_lemma=>
           have MX:Hid (∀w',Keeps (Dn W P1) w3 w'→w'.cell? ⟨q,4,none⟩=some (.int .i64 x.id)∧w'.cell? ⟨q,8,none⟩=some (.int .u64 x.aO)):=fun w' hK=>by
            have N9:=(hK.block q hq3 (fun hw=>hw.2 Lm.out.2)).trans TD.out
            obtain⟨d0,d1,d2,d3,d4,d5,d6,d7,d8⟩:=jT N9
            exact⟨d4,d8⟩
           have HDR:=Lib.hid (lT.out.below (Below.refl _ _).drew)
           go_wp2_with fail
           refine KQ ((fun w'=>w'.cell? ⟨q,4,none⟩=some (.int .i64 x.id)∧w'.cell? ⟨q,8,none⟩=some (.int .u64 x.aO))) ?_ fun hS=> ?_
           ·exact⟨c4,c8⟩
           refine dJ 0 hS ?_
           refine dJ 1 hS ?_
           refine dJ 2 hS ?_
           refine dJ 3 hS ?_
           refine dJ 4 hS ?_
           refine dJ 6 hS ?_
           refine dJ 7 hS ?_
           refine dJ 8 hS ?_
           refine dJ 9 hS ?_
           refine dJ 10 hS ?_
           refine sw 5 fun K hK=> ?_
           go_simp
           (with_reducible refine(OA HDR.out.tree x.id x.aO HX.out.wi HX.out.wu.1 HX.out.wu.2).mono ?_)
           rintro e w6 mo
           have jS:=Lib.hid (mo.behind (Below.refl _ _).drew)
           obtain rfl:=mo.1
           clear mo
           go_wp2_with fail
           refine sD hK (MX.out _ jS.out.kp) fun hS=> ?_
           clear hK K
           refine sw 11 fun K hK=> ?_
           go_simp
           (with_reducible refine(JO x.id x.aO w6 (lT.out.mid jS.out) lT.out.J4 HX.out.wu).mono ?_)
           rintro e w8 nK
           have EA:=Lib.hid nK
           obtain rfl:=nK.1
           have QJ:w8.cell? ⟨q,4,none⟩=some (.int .i64 x.id)∧w8.cell? ⟨q,8,none⟩=some (.int .u64 x.aO):=by
            have KR:q<w6.heap.size:=Nat.lt_of_lt_of_le hq3 jS.out.kp.size
            have h9:=MX.out _ jS.out.kp
            have hqr:q≠r:=fun he=>by
             have:=HB.out.ref.low r HB.out.ref.own
             have:=TB.out
             omega
            exact⟨(nK.2.1.cell_ KR hqr 4).trans h9.1,(nK.2.1.cell_ KR hqr 8).trans h9.2⟩
           clear nK
           go_wp2_with fail
           refine sD hK (QJ) fun hS=> ?_
           clear hK K
           refine dJ 12 hS ?_
           refine KP ?_
           clear hS
           go_wp2_with fail
           go_meet
           exact rV.of lT.out jS.out EA.out (lT.out.okay.fU _ _ HX.out.wu.1)
         ·have e8:(x.kind==8)=false:=by simpa using hk
          clear hk
          by_cases hk:x.kind=9
          ·have e9:(x.kind==9)=true:=by simpa using hk
           clear hk
           as_aux_lemma=>
            have MX:Hid (∀w',Keeps (Dn W P1) w3 w'→w'.cell? ⟨q,4,none⟩=some (.int .i64 x.id)∧w'.cell? ⟨q,8,none⟩=some (.int .u64 x.aO)):=fun w' hK=>by
             have N9:=(hK.block q hq3 (fun hw=>hw.2 Lm.out.2)).trans TD.out
             obtain⟨d0,d1,d2,d3,d4,d5,d6,d7,d8⟩:=jT N9
             exact⟨d4,d8⟩
            have HDR:=Lib.hid (lT.out.below (Below.refl _ _).drew)
            go_wp2_with fail
            refine KQ ((fun w'=>w'.cell? ⟨q,4,none⟩=some (.int .i64 x.id)∧w'.cell? ⟨q,8,none⟩=some (.int .u64 x.aO))) ?_ fun hS=> ?_
            ·exact⟨c4,c8⟩
            refine dJ 0 hS ?_
            refine dJ 1 hS ?_
            refine dJ 2 hS ?_
            refine dJ 3 hS ?_
            refine dJ 4 hS ?_
            refine dJ 6 hS ?_
            refine dJ 7 hS ?_
            refine dJ 8 hS ?_
            refine dJ 9 hS ?_
            refine dJ 10 hS ?_
            refine sw 5 fun K hK=> ?_
            go_simp
            (with_reducible refine(OB HDR.out.tree x.id x.aO HX.out.wi HX.out.wu.1 HX.out.wu.2).mono ?_)
            rintro e w6 mo
            have jS:=Lib.hid (mo.behind (Below.refl _ _).drew)
            obtain rfl:=mo.1
            clear mo
            go_wp2_with fail
            refine sD hK (MX.out _ jS.out.kp) fun hS=> ?_
            clear hK K
            refine sw 11 fun K hK=> ?_
            go_simp
            (with_reducible refine(JN x.id x.aO w6 (lT.out.mid jS.out) lT.out.J4 HX.out.wu).mono ?_)
            rintro e w8 nK
            have EA:=Lib.hid nK
            obtain rfl:=nK.1
            have QJ:w8.cell? ⟨q,4,none⟩=some (.int .i64 x.id)∧w8.cell? ⟨q,8,none⟩=some (.int .u64 x.aO):=by
             have KR:q<w6.heap.size:=Nat.lt_of_lt_of_le hq3 jS.out.kp.size
             have h9:=MX.out _ jS.out.kp
             have hqr:q≠r:=fun he=>by
              have:=HB.out.ref.low r HB.out.ref.own
              have:=TB.out
              omega
             exact⟨(nK.2.1.cell_ KR hqr 4).trans h9.1,(nK.2.1.cell_ KR hqr 8).trans h9.2⟩
            clear nK
            go_wp2_with fail
            refine sD hK (QJ) fun hS=> ?_
            clear hK K
            refine dJ 12 hS ?_
            refine KP ?_
            clear hS
            go_wp2_with fail
            go_meet
            exact rV.of lT.out jS.out EA.out (lT.out.okay.fG _ _ HX.out.wu.1)
          ·have e9:(x.kind==9)=false:=by simpa using hk
           clear hk
           by_cases hk:x.kind=10
           ·have e10:(x.kind==10)=true:=by simpa using hk
            clear hk
            as_aux_lemma=>
             have MX:Hid (∀w',Keeps (Dn W P1) w3 w'→w'.cell? ⟨q,4,none⟩=some (.int .i64 x.id)∧w'.cell? ⟨q,8,none⟩=some (.int .u64 x.aO)):=fun w' hK=>by
              have N9:=(hK.block q hq3 (fun hw=>hw.2 Lm.out.2)).trans TD.out
              obtain⟨d0,d1,d2,d3,d4,d5,d6,d7,d8⟩:=jT N9
              exact⟨d4,d8⟩
             have HDR:=Lib.hid (lT.out.below (Below.refl _ _).drew)
             go_wp2_with fail
             refine KQ ((fun w'=>w'.cell? ⟨q,4,none⟩=some (.int .i64 x.id)∧w'.cell? ⟨q,8,none⟩=some (.int .u64 x.aO))) ?_ fun hS=> ?_
             ·exact⟨c4,c8⟩
             refine dJ 0 hS ?_
             refine dJ 1 hS ?_
             refine dJ 2 hS ?_
             refine dJ 4 hS ?_
             refine dJ 5 hS ?_
             refine dJ 6 hS ?_
             refine sw 3 fun K hK=> ?_
             go_simp
             (with_reducible refine(OV HDR.out.tree x.id HX.out.wi).mono ?_)
             rintro e w6 mo
             have jS:=Lib.hid (mo.behind (Below.refl _ _).drew)
             obtain rfl:=mo.1
             clear mo
             go_wp2_with fail
             refine sD hK (MX.out _ jS.out.kp) fun hS=> ?_
             clear hK K
             refine sw 7 fun K hK=> ?_
             go_simp
             (with_reducible refine(JV x.id w6 (lT.out.mid jS.out) lT.out.J4).mono ?_)
             rintro e w8 nK
             have EA:=Lib.hid nK
             obtain rfl:=nK.1
             have QJ:w8.cell? ⟨q,4,none⟩=some (.int .i64 x.id)∧w8.cell? ⟨q,8,none⟩=some (.int .u64 x.aO):=by
              have KR:q<w6.heap.size:=Nat.lt_of_lt_of_le hq3 jS.out.kp.size
              have h9:=MX.out _ jS.out.kp
              have hqr:q≠r:=fun he=>by
               have:=HB.out.ref.low r HB.out.ref.own
               have:=TB.out
               omega
              exact⟨(nK.2.1.cell_ KR hqr 4).trans h9.1,(nK.2.1.cell_ KR hqr 8).trans h9.2⟩
             clear nK
             go_wp2_with fail
             refine sD hK (QJ) fun hS=> ?_
             clear hK K
             refine dJ 8 hS ?_
             refine KP ?_
             clear hS
             go_wp2_with fail
             go_meet
             exact rV.of lT.out jS.out EA.out (lT.out.okay.eD _)
           ·have e10:(x.kind==10)=false:=by simpa using hk
            clear hk
            go_wp2_with fail
            go_meet
            exact rV.rest lT.out (Below.refl _ _)
 case rest=>
  as_aux_lemma=>
   obtain⟨T2,⟨P2,F2,R6⟩,hkp,hsz,hBW⟩:=hcut
   obtain⟨w5,rfl⟩:∃w5:World,w5=wc:=⟨_,rfl⟩
   have hS1:aP (fun b=>w1.heap.size≤b∧b<w3.heap.size) w5 a1 m1 (l1.map strOf):=tK.out.kept hsz fun b hb hbw=>hkp b (Zr.out b hb)
   have Zv:=(hkp q Lm.out.1).trans TD.out
   have Ra:=Lib.hid (fun b (hb:Q b)=>(hkp b (Xq.out b hb)).trans (UM.out.block b (HB.out.tree.low b (HB.out.N8 b hb).1)))
   have hsz0:w.heap.size≤w5.heap.size:=by have:=UM.out.size;omega
   have N_:q<w5.heap.size:=by omega
   have HB2:=Lib.hid (R6.mono Xq.out)
   have TF:=Lib.hid hS1
   obtain⟨d0,d1,d2,d3,d4,d5,d6,d7,d8⟩:=jT Zv
   have hE2:(aU T2).length≤1000000:=by have:=gX R6.J4;omega
   have H1:=Lib.hid (OU HB2.out.tree a1 m1 k1 l1 hS1)
   have H2:=Lib.hid (fun wz (hb:Below w5.heap.size w5 wz)=>vT a1 m1 k1 l1 wz (HB2.out.ref.below hb (Nat.le_refl _)) HB2.out.J4 hE2 (TF.out.below hb (Nat.le_refl _)))
   have H3:=Lib.hid (fun wz (hb:Below w5.heap.size w5 wz)=>H9 (HB2.out.tree.grow hb) x.id HX.out.wi)
   have H4:=Lib.hid (fun wz (hb:Below w5.heap.size w5 wz)=>jP x.id wz (HB2.out.ref.below hb (Nat.le_refl _)) HB2.out.J4.torz)
   have H5:=Lib.hid (fun wz (hb:Below w5.heap.size w5 wz)=>OW (HB2.out.tree.grow hb) x.id HX.out.wi)
   have H6:=Lib.hid (fun wz (hb:Below w5.heap.size w5 wz)=>Bo x.id wz (HB2.out.ref.below hb (Nat.le_refl _)) HB2.out.J4)
   have H7:=Lib.hid (fun wz (hb:Below w5.heap.size w5 wz)=>Dp (HB2.out.tree.grow hb))
   obtain⟨v0,v1,v2,v3,v4,v5,hv⟩:∃(v0 v1 v2 v3 v4:Int) (v5:Bool),iD T2 x.id= .agg #[.int .i64 v0, .int .i64 v1, .int .i64 v2, .int .i64 v3, .int .u64 v4, .bool v5]:=by
    unfold iD
    cases ah x.id T2 with
    |none=>exact⟨_,_,_,_,_,_,rfl⟩
    |some y=>exact⟨_,_,_,_,_,_,rfl⟩
   rw[hv]at H3 H4
   have QK:=Lib.hid (fun wz (hb:Below w5.heap.size w5 wz)=>(HB2.out.ref.below hb (Nat.le_refl _)).nodes)
   have hr5:r<w5.heap.size:=HB2.out.ref.low r HB2.out.ref.own
   generalize (ah x.id T2).isSome=sm at*
   generalize dY T2 l1=lk at*
   generalize hlm:oh T2 x.id=lm at*
   clear R6 hkp Zv hS1 hE2 hv hBW d0 d1 d2 d3 d5 d6 d7 d8 hlm c0 c1' c2' c3 c4 c5 c6 c7 c8
   go_wp2_with fail
   (with_reducible refine H1.out.mono ?_)
   rintro e w6 ⟨rfl,hb6⟩
   have rQ:=Lib.hid hb6
   have e4:=(hb6.cell (p:=⟨q,4,none⟩) N_).trans d4
   clear hb6
   go_wp2_with fail
   (with_reducible refine(H2.out w6 rQ.out).mono ?_)
   rintro e w7 ⟨rfl,OZ⟩
   have vk:=Lib.hid (rQ.out.trans (OZ.mono rQ.out.size))
   have d4:=(vk.out.cell (p:=⟨q,4,none⟩) N_).trans d4
   clear OZ e4
   go_wp2_with fail
   (with_reducible refine(H3.out w7 vk.out).mono ?_)
   rintro e w8 ⟨rfl,vv⟩
   have sZ:=Lib.hid (vk.out.trans (vv.mono vk.out.size))
   have Ip:=sZ.out.size
   clear vv
   have hna:=(MapKept.heap_alloc w8 (.cells #[.int .i64 v0, .int .i64 v1, .int .i64 v2, .int .i64 v3, .int .u64 v4, .bool v5] 101)).1
   have MZ:=Lib.hid (sZ.out.trans ((wall w8 (.cells #[.int .i64 v0, .int .i64 v1, .int .i64 v2, .int .i64 v3, .int .u64 v4, .bool v5] 101)).mono Ip))
   have Un:=Lib.hid hna
   clear hna
   have d4a:=(MZ.out.cell (p:=⟨q,4,none⟩) N_).trans ((vk.out.cell (p:=⟨q,4,none⟩) N_).symm.trans d4)
   go_wp2_with fail
   have Xv:(w8.alloc (.cells #[.int .i64 v0, .int .i64 v1, .int .i64 v2, .int .i64 v3, .int .u64 v4, .bool v5] 101)).heap.size=w8.heap.size+1:=by simp
   generalize (w8.alloc (.cells #[.int .i64 v0, .int .i64 v1, .int .i64 v2, .int .i64 v3, .int .u64 v4, .bool v5] 101))=Zw at*
   obtain⟨qa,Zx⟩:∃qa,qa=w8.heap.size:=⟨_,rfl⟩
   rw[←Zx]at Un⊢
   have Xw:qa<Zw.heap.size:=by omega
   clear Zx Xv
   (with_reducible refine(H4.out Zw MZ.out).mono ?_)
   rintro e w9 ⟨rfl,zw⟩
   have CG:=Lib.hid (MZ.out.trans (zw.mono MZ.out.size))
   have hs9:=CG.out.size
   have Xx:qa<w9.heap.size:=by have:=zw.size;omega
   have Xy:=Lib.hid ((zw.block qa Xw).trans Un.out)
   have hnb:=(MapKept.heap_alloc w9 (.cells #[.int .i64 v0, .int .i64 v1, .int .i64 v2, .int .i64 v3, .int .u64 v4, .bool v5] 101)).1
   have M0:=Lib.hid (CG.out.trans ((wall w9 (.cells #[.int .i64 v0, .int .i64 v1, .int .i64 v2, .int .i64 v3, .int .u64 v4, .bool v5] 101)).mono hs9))
   have Zy:=Lib.hid hnb
   have UO:=Lib.hid (((wall w9 (.cells #[.int .i64 v0, .int .i64 v1, .int .i64 v2, .int .i64 v3, .int .u64 v4, .bool v5] 101)).block qa Xx).trans Xy.out)
   have d4b:=(M0.out.cell (p:=⟨q,4,none⟩) N_).trans ((MZ.out.cell (p:=⟨q,4,none⟩) N_).symm.trans d4a)
   have Xz:(w9.alloc (.cells #[.int .i64 v0, .int .i64 v1, .int .i64 v2, .int .i64 v3, .int .u64 v4, .bool v5] 101)).heap.size=w9.heap.size+1:=by simp
   clear hnb zw
   go_wp2_with fail
   generalize (w9.alloc (.cells #[.int .i64 v0, .int .i64 v1, .int .i64 v2, .int .i64 v3, .int .u64 v4, .bool v5] 101))=XA at*
   obtain⟨qb,Il⟩:∃qb,qb=w9.heap.size:=⟨_,rfl⟩
   rw[←Il]at Zy⊢
   have XB:qb<XA.heap.size:=by omega
   have UQ:qa<XA.heap.size:=by omega
   clear Il Xz
   (with_reducible refine(H5.out XA M0.out).mono ?_)
   rintro e Es ⟨a3,k3,rfl,hk3,hs3,lU⟩
   have ow:=Lib.hid (M0.out.trans (lU.mono M0.out.size))
   have d4c:=(ow.out.cell (p:=⟨q,4,none⟩) N_).trans ((M0.out.cell (p:=⟨q,4,none⟩) N_).symm.trans d4b)
   have UR:=Lib.hid ((lU.block qa UQ).trans UO.out)
   have UU:=Lib.hid ((lU.block qb XB).trans Zy.out)
   have Lc:=Lib.hid hs3
   have hz10:=lU.size
   clear hs3 lU
   go_wp2_with fail
   (with_reducible refine(H6.out Es ow.out).mono ?_)
   rintro e CY ⟨a4,k4,rfl,hk4,hs4,J6⟩
   have tC:=Lib.hid (ow.out.trans (J6.mono ow.out.size))
   have QL:=(J6.block qa (by omega)).trans UR.out
   have QM:=(J6.block qb (by omega)).trans UU.out
   have XC:=Lib.hid (Lc.out.below J6 (Nat.le_refl _))
   have Om:=Lib.hid hs4
   have hz11:=J6.size
   have Ma:=Lib.hid (fun wz (hb:Below CY.heap.size CY wz)=>MS a3 a4 lm.1.length k3 lm.1.length k4 (lm.1.map strOf) (lm.1.map strOf) wz (XC.out.below hb (Nat.le_refl _)) (Om.out.below hb (Nat.le_refl _)))
   have hsame:decide (lm.1.map strOf=lm.1.map strOf)=true:=by simp
   rw[hsame]at Ma
   obtain⟨aZ,cZ,z0,-⟩:=QK.out CY tC.out
   have XD:r<CY.heap.size:=by have:=tC.out.size;omega
   obtain⟨tl,htl⟩:∃tl,tl=T2.length:=⟨_,rfl⟩
   rw[←htl]at H7 z0
   have Pk:=Lib.hid htl
   have XE:Hid (∀wz,Below CY.heap.size CY wz→((wz.cell? ⟨qa,0,none⟩=some (.int .i64 v0)∧wz.cell? ⟨qa,1,none⟩=some (.int .i64 v1)∧wz.cell? ⟨qa,2,none⟩=some (.int .i64 v2)∧wz.cell? ⟨qa,3,none⟩=some (.int .i64 v3)∧wz.cell? ⟨qa,4,none⟩=some (.int .u64 v4)∧wz.cell? ⟨qa,5,none⟩=some (.bool v5))∧(wz.cell? ⟨qb,0,none⟩=some (.int .i64 v0)∧wz.cell? ⟨qb,1,none⟩=some (.int .i64 v1)∧wz.cell? ⟨qb,2,none⟩=some (.int .i64 v2)∧wz.cell? ⟨qb,3,none⟩=some (.int .i64 v3)∧wz.cell? ⟨qb,4,none⟩=some (.int .u64 v4)∧wz.cell? ⟨qb,5,none⟩=some (.bool v5))∧wz.cell? ⟨r,0,none⟩=some (.slice aZ tl cZ))):=fun wz hb=>by
    have g1:=(hb.block qa (by omega)).trans QL
    have g2:=(hb.block qb (by omega)).trans QM
    refine⟨⟨?_,?_,?_,?_,?_,?_⟩,⟨?_,?_,?_,?_,?_,?_⟩,(hb.cell (p:=⟨r,0,none⟩) XD).trans z0⟩<;>simp[World.cell?,g1,g2]
   clear hs4 J6 QL QM hsame htl
   generalize lm.1.length=ll at*
   obtain⟨lk1,lk2⟩:=lk
   obtain⟨lm1,lm2⟩:=lm
   go_wp2_with fail
   refine KQ ((fun wz=>(wz.cell? ⟨qa,0,none⟩=some (.int .i64 v0)∧wz.cell? ⟨qa,1,none⟩=some (.int .i64 v1)∧wz.cell? ⟨qa,2,none⟩=some (.int .i64 v2)∧wz.cell? ⟨qa,3,none⟩=some (.int .i64 v3)∧wz.cell? ⟨qa,4,none⟩=some (.int .u64 v4)∧wz.cell? ⟨qa,5,none⟩=some (.bool v5))∧(wz.cell? ⟨qb,0,none⟩=some (.int .i64 v0)∧wz.cell? ⟨qb,1,none⟩=some (.int .i64 v1)∧wz.cell? ⟨qb,2,none⟩=some (.int .i64 v2)∧wz.cell? ⟨qb,3,none⟩=some (.int .i64 v3)∧wz.cell? ⟨qb,4,none⟩=some (.int .u64 v4)∧wz.cell? ⟨qb,5,none⟩=some (.bool v5))∧wz.cell? ⟨r,0,none⟩=some (.slice aZ tl cZ))) ?_ fun hS=> ?_
   ·exact XE.out _ (Below.refl _ _).drew
   refine dJ 0 hS ?_
   refine dJ 1 hS ?_
   refine dJ 2 hS ?_
   refine dJ 3 hS ?_
   refine dJ 4 hS ?_
   refine dJ 5 hS ?_
   refine dJ 6 hS ?_
   refine dJ 7 hS ?_
   refine dJ 8 hS ?_
   refine dJ 9 hS ?_
   refine dJ 10 hS ?_
   refine dJ 11 hS ?_
   refine dJ 12 hS ?_
   refine dJ 13 hS ?_
   refine dJ 14 hS ?_
   refine dJ 15 hS ?_
   refine dJ 16 hS ?_
   refine dJ 17 hS ?_
   refine dJ 18 hS ?_
   refine dJ 19 hS ?_
   refine dJ 20 hS ?_
   refine sw 21 fun K hK=> ?_
   go_simp
   (with_reducible refine(Ma.out _ (Below.refl _ _).drew).mono ?_)
   rintro e Zz ⟨rfl,J7⟩
   have zu:Below CY.heap.size CY Zz:=(Below.refl _ _).drew.trans J7
   go_wp2_with fail
   refine sD hK (XE.out _ zu) fun hS=> ?_
   clear hK K
   refine dJ 22 hS ?_
   refine dJ 23 hS ?_
   refine dJ 24 hS ?_
   refine dJ 25 hS ?_
   refine dJ 26 hS ?_
   refine dJ 27 hS ?_
   refine dJ 28 hS ?_
   refine dJ 29 hS ?_
   refine dJ 31 hS ?_
   refine dJ 32 hS ?_
   refine dJ 33 hS ?_
   refine dJ 34 hS ?_
   refine dJ 35 hS ?_
   refine sw 30 fun K hK=> ?_
   go_simp
   (with_reducible refine(H7.out _ (tC.out.trans (zu.mono tC.out.size))).mono ?_)
   rintro e w13 ⟨rfl,rfl⟩
   go_wp2_with fail
   refine sD hK (XE.out _ zu) fun hS=> ?_
   clear hK K
   refine dJ 36 hS ?_
   refine dJ 37 hS ?_
   refine dJ 38 hS ?_
   refine KP ?_
   clear hS
   have M4:=Lib.hid (tC.out.trans (zu.mono tC.out.size))
   clear zu
   go_wp2_with fail
   go_ret
   have h9:=HB2.out.rest M4.out
   exact⟨rfl,T2,h9.1,fun b hb=>(h9.2.1 b hb).trans (Ra.out b hb),Nat.le_trans hsz0 h9.2.2.1,h9.2.2.2⟩
def R7 (w:World) (e:Ending) (w':World):Prop:=∃r,e= .returned (ptr r)∧gW (fun x=>w.heap.size≤x∧x<w'.heap.size) w' r nM∧Below w.heap.size w w'
theorem J8 (w:World) (o1 o2 o3:Obj):(((w.alloc o1).alloc o2).alloc o3).heap[w.heap.size]? =some o1∧(((w.alloc o1).alloc o2).alloc o3).heap[w.heap.size+1]? =some o2∧(((w.alloc o1).alloc o2).alloc o3).heap[w.heap.size+2]? =some o3:=by
 have h1:=(MapKept.heap_alloc w o1).1
 have h2:=(MapKept.heap_alloc (w.alloc o1) o2).1
 have h3:=(MapKept.heap_alloc ((w.alloc o1).alloc o2) o3).1
 rw[World.size_alloc]at h2
 rw[World.size_alloc,World.size_alloc]at h3
 exact⟨((wall _ o3).block _ (by simp;omega)).trans (((wall _ o2).block _ (by simp)).trans h1),((wall _ o3).block _ (by simp)).trans h2,h3⟩
theorem M5 (w:World):Calls Tryz.prog 25 #[] w (R7 w):=by
 go_enter Tryz.func25,Tryz.ntmps25
 go_wp2
 go_ret
 obtain⟨h0,h1,h2⟩:=J8 w (.cells #[.int .i64 0, .int .i64 2, .int .i64 1, .int .i64 0, .int .u64 0, .bool true] 101) (.cells #[.slice none 0 0] 23) (.cells #[.slice (some ⟨w.heap.size,0,none⟩) 1 1, .slice (some ⟨w.heap.size+1,0,none⟩) 1 1, .slice none 0 0] 97)
 refine⟨w.heap.size+2,rfl,⟨⟨some ⟨w.heap.size,0,none⟩,1,some ⟨w.heap.size+1,0,none⟩,1,none,0,h2,Nat.le_refl _,Nat.le_refl _,Nat.le_refl _,?_,⟨[.slice none 0 0],?_,?_⟩,aj.nil _ _ _, .inl ⟨rfl,rfl⟩⟩,?_,?_⟩,?_⟩
 ·exact(kY (vs:=dx (0,bS 2)) h0 (by simp[dx,maxLen])).mono fun b hb=>by subst hb;exact⟨⟨Nat.le_refl _,by simp;omega⟩,by omega⟩
 ·exact(kY (vs:=[.slice none 0 0]) h1 (by simp[maxLen])).mono fun b hb=>by subst hb;exact⟨⟨by omega,by simp⟩,by omega⟩
 ·intro i b hb
  cases i with
  |zero=>
   have:b=[]:=(Option.some.inj hb).symm
   subst this
   exact⟨none,0,rfl,⟨Nat.le_refl _,by simp[maxLen]⟩,aj.nil _ _ _⟩
  |succ i=>simp[nM]at hb
 ·exact⟨by omega,by simp⟩
 ·exact fun b hb=>hb.2
 ·exact(((Below.refl _ _).alloc (Nat.le_refl _) _).alloc (by simp) _).alloc (by simp;omega) _
open Go.Joins Go.ChangeShapes Go.WideShapes Go.ChangeAt Go.RowKit Go.Deep
structure R8 (W:World) (g off:Nat) (x:Ez) (ba:Option Addr) (bn bc:Nat):Prop where
 cells:W.cell? ⟨g,off,none⟩=some (.int .i64 x.kind)∧W.cell? ⟨g,off+1,none⟩=some (.int .i64 x.P)∧W.cell? ⟨g,off+2,none⟩=some (.int .i64 x.J3)∧W.cell? ⟨g,off+3,none⟩=some (.bool x.dir)∧W.cell? ⟨g,off+4,none⟩=some (.int .i64 x.id)∧W.cell? ⟨g,off+5,none⟩=some (.int .i64 x.at_)∧W.cell? ⟨g,off+6,none⟩=some (.int .i64 x.n)∧W.cell? ⟨g,off+7,none⟩=some (.slice ba bn bc)∧W.cell? ⟨g,off+8,none⟩=some (.int .u64 x.aO)
 ok:x.Ok
 cap:bn≤bc
 row:aj (fun b=>b<W.heap.size) W ba bn (x.b.map bv)
 reach:bn≤140737488351232
def M6 (W:World) (a:Option Addr) (len:Nat):Prop:=
 len≤maxLen∧(0<len→∃b off,a=some ⟨b,off,none⟩∧b<W.heap.size∧∀k,k<len→∃x ba bn bc,R8 W b (off+k*9) x ba bn bc)
theorem J9 {z:Int} (h:(Lit.int .u64 z).wf=true):0≤z∧z≤18446744073709551615:=by
 simp[Lit.wf,IntKind.min,IntKind.max,IntKind.signed,IntKind.bits]at h
 omega
section
variable {H:Type} {enc:TypeId×Value→H} {W:World}
theorem EB {fuel:Nat} {v:Value} {x:DataW H×List MemPlace} (h:DataW.trod enc Tryz.prog W 0 (fun _=>true) true fuel 48 [v]=some x) (l:∀p∈x.2,p.block<W.heap.size) (hw:∀n∈x.1.weights Tryz.prog 48,n≤reachBytes):
  ∃a len cap,v= .slice a len cap∧len≤cap∧M6 W a len:=by
 rcases uI Tryz.underlying48 Tryz.underlying93 (by kernel_rfl) (by kernel_rfl) h with⟨hcs,hx⟩|⟨a,len,cap,m,D,Pl,hcs,_,hl,hm,hmm,hx,hi⟩
 ·simp only[List.cons.injEq,and_true]at hcs
  subst hcs
  exact⟨none,0,0,rfl,Nat.le_refl _,by simp,fun h=>by omega⟩
 ·simp only[List.cons.injEq,and_true]at hcs
  subst hcs
  subst hx
  simp only[if_true]at hmm
  subst hmm
  refine⟨some a,len,m,rfl,hl,by omega,fun h0=> ?_⟩
  have hsub:∀(i:Nat) (ys:List (DataW H×List MemPlace)) (j:Nat) (y:DataW H×List MemPlace),i<m→Pl i=ys.flatMap (·.2)→ys[j]? =some y→∀p∈y.2,p.block<W.heap.size:=by
   intro i ys j y hi' hp hy p hpy
   refine l p (List.mem_append_right _ (List.mem_flatMap.2 ⟨i,List.mem_range.2 hi',?_⟩))
   rw[hp]
   exact List.mem_flatMap.2 ⟨y,List.mem_of_getElem? hy,hpy⟩
  obtain⟨b,off,spot⟩:=a
  have hspot:spot=none:=by
   obtain⟨ys,n,_,_,_,hf⟩:=hi 0 (by omega)
   obtain⟨v,y,hc,_⟩:=hf 0 _ rfl
   simpa[Addr.add]using World.cell?_spot hc
  subst hspot
  have hb:b<W.heap.size:=l (.cell b off) (List.mem_append_left _ (MemPlace.mem_row.2 ⟨0,by simp;omega,by simp⟩))
  refine⟨b,off,rfl,hb,fun k hk=> ?_⟩
  obtain⟨ys,n,hD,hP,hyl,hf⟩:=hi k (by omega)
  obtain⟨v0,y0,c0,e0,t0⟩:=hf 0 _ rfl
  obtain⟨v1,y1,c1,e1,t1⟩:=hf 1 _ rfl
  obtain⟨v2,y2,c2,e2,t2⟩:=hf 2 _ rfl
  obtain⟨v3,y3,c3,e3,t3⟩:=hf 3 _ rfl
  obtain⟨v4,y4,c4,e4,t4⟩:=hf 4 _ rfl
  obtain⟨v5,y5,c5,e5,t5⟩:=hf 5 _ rfl
  obtain⟨v6,y6,c6,e6,t6⟩:=hf 6 _ rfl
  obtain⟨v7,y7,c7,e7,t7⟩:=hf 7 _ rfl
  obtain⟨v8,y8,c8,e8,t8⟩:=hf 8 _ rfl
  obtain⟨z0,f0,_,g0⟩:=DataW.trod_int Tryz.underlying3 t0
  obtain⟨z1,f1,_,g1⟩:=DataW.trod_int Tryz.underlying3 t1
  obtain⟨z2,f2,_,g2⟩:=DataW.trod_int Tryz.underlying3 t2
  obtain⟨z3,f3,_⟩:=DataW.trod_bool Tryz.underlying4 t3
  obtain⟨z4,f4,_,g4⟩:=DataW.trod_int Tryz.underlying3 t4
  obtain⟨z5,f5,_,g5⟩:=DataW.trod_int Tryz.underlying3 t5
  obtain⟨z6,f6,_,g6⟩:=DataW.trod_int Tryz.underlying3 t6
  obtain⟨a7,n7,k7,bs,rfl,q7,r7,r7w⟩:=D8 t7 (hsub k ys 7 y7 (by omega) hP e7) (fun n hn=>hw n (Cu Tryz.underlying48 (d:=D k) (List.mem_map.2 ⟨k,List.mem_range.2 hk,rfl⟩) (by
   rw[hD]
   exact Cv Tryz.underlying93 (j:=7) rfl (d:=y7.1) (by rw[List.getElem?_map,e7];rfl) hn)))
  obtain⟨z8,f8,_,g8⟩:=DataW.trod_int Tryz.underlying27 t8
  simp only[List.cons.injEq,and_true]at f0 f1 f2 f3 f4 f5 f6 f8
  subst f0 f1 f2 f3 f4 f5 f6 f8
  rw[add_plain]at c0 c1 c2 c3 c4 c5 c6 c7 c8
  refine⟨⟨z0,z1,z2,z3,z4,z5,z6,bs,z8⟩,a7,n7,k7,⟨⟨c0,?_,?_,?_,?_,?_,?_,?_,?_⟩,⟨g0,g1,g2,g4,g5,g6,J9 g8⟩,q7,r7,r7w⟩⟩
  ·rw[Nat.add_assoc];exact c1
  ·rw[Nat.add_assoc];exact c2
  ·rw[Nat.add_assoc];exact c3
  ·rw[Nat.add_assoc];exact c4
  ·rw[Nat.add_assoc];exact c5
  ·rw[Nat.add_assoc];exact c6
  ·rw[Nat.add_assoc];exact c7
  ·rw[Nat.add_assoc];exact c8
end
def uT (W w:World) (t r:Nat) (wx:World):Prop:=∃T,Ey W (fun x=>x<w.heap.size) wx t r T∧Below w.heap.size w wx
def R9 (W w:World) (e:Ending) (w':World):Prop:=∃t r,e= .returned (.tuple #[ptr t,ptr r])∧uT W w t r w'
theorem M7 {W w w1 w2:World} (hw:Below W.heap.size W w) (h1:Below w.heap.size w w1) (h2:Below W.heap.size W w2) (hk:∀b,b<w.heap.size→w2.heap[b]? =w1.heap[b]?) (hs:w1.heap.size≤w2.heap.size):Below w.heap.size w w2:=
 ⟨h2.os.trans hw.os.symm,h2.tape.trans hw.tape.symm,h2.output.trans hw.output.symm,Nat.le_trans h1.size hs,fun b hb=>(hk b hb).trans (h1.block b hb)⟩
set_option maxRecDepth 100000 in
set_option maxHeartbeats 8000000 in
theorem Gu {W w:World} (a:Option Addr) (len cap:Nat) (hA:M6 W a len) (hB:Below W.heap.size W w):Calls Tryz.prog 14 #[.slice a len cap] w (R9 W w):=by
 have hlm:=hA.1
 unfold maxLen at hlm
 have HA:=Lib.hid hA
 have ZA:=Lib.hid hB
 have hWw:=hB.size
 clear hA hB
 go_enter Tryz.func14,Tryz.ntmps14
 go_wp2_with fail
 (with_reducible refine(Lp W w ZA.out).mono ?_)
 rintro e w1 ⟨t,rfl,hT1,hb1⟩
 have HT1:=Lib.hid hT1
 have HB1:=Lib.hid hb1
 clear hT1 hb1
 go_wp2_with fail
 (with_reducible refine(M5 w1).mono ?_)
 rintro e w2 ⟨r,rfl,hR,hb2⟩
 have hs1:=HB1.out.size
 have hs2:=hb2.size
 have Gt:iR W (fun x=>x<w.heap.size) (fun x=>x<w.heap.size∨(w1.heap.size≤x∧x<w2.heap.size)) (fun x=>w1.heap.size≤x∧x<w2.heap.size) w2 t r nM:=by
  refine⟨HT1.out.B_ hb2,hR,fun x hx=>⟨.inr hx,by have:=hx.1;omega⟩,fun x hx=>⟨.inl hx,fun hf=>by have:=hf.1;omega⟩,rU.new⟩
 have HST:Hid (uT W w t r w2):=⟨nM,⟨_,_,Gt⟩,HB1.out.trans (hb2.mono hs1)⟩
 clear hR hb2 Gt
 go_upto_block 0 with(fail)
 go_cut [6]from 9 to 29 (fun i wx=>uT W w t r wx)
 case first=>
  go_wp2_with fail
  go_loopw [6] (fun i wr=>∃k:Nat,i= .int .i64 k∧k≤40∧uT W w t r wr) (fun i _=>40-(intOf i).toNat)
  case atStart=>exact⟨0,rfl,by omega,HST.out⟩
  case round=>
   obtain⟨k,rfl,hk40,hP⟩:=hrel
   have HP:=Lib.hid hP
   clear hP
   by_cases hlt:k<len
   ·have hd1:decide (k<len)=true:=by simpa using hlt
    by_cases h40:k<40
    ·obtain⟨g,off,rfl,hgw,hAk⟩:=HA.out.2 (by omega)
     obtain⟨x,ba,bn,bc,hx⟩:=hAk k hlt
     obtain⟨T,⟨P,F,Gt⟩,hbw⟩:=HP.out
     have hbW:=Gt.tree.below
     obtain⟨d0,d1,d2,d3,d4,d5,d6,d7,d8⟩:=hx.cells
     have c0:=(hbW.cell (p:=⟨g,off+k*9,none⟩) hgw).trans d0
     have c1:=(hbW.cell (p:=⟨g,off+k*9+1,none⟩) hgw).trans d1
     have c2:=(hbW.cell (p:=⟨g,off+k*9+2,none⟩) hgw).trans d2
     have c3:=(hbW.cell (p:=⟨g,off+k*9+3,none⟩) hgw).trans d3
     have c4:=(hbW.cell (p:=⟨g,off+k*9+4,none⟩) hgw).trans d4
     have c5:=(hbW.cell (p:=⟨g,off+k*9+5,none⟩) hgw).trans d5
     have c6:=(hbW.cell (p:=⟨g,off+k*9+6,none⟩) hgw).trans d6
     have c7:=(hbW.cell (p:=⟨g,off+k*9+7,none⟩) hgw).trans d7
     have c8:=(hbW.cell (p:=⟨g,off+k*9+8,none⟩) hgw).trans d8
     have ZB:=Lib.hid (MV x ba bn bc Gt hx.ok (hx.row.below hbW (Nat.le_refl _)) hx.cap hx.reach)
     have XF:=Lib.hid hbw
     unfold zq at ZB
     have i0:(0:Int)≤(k:Int):=by omega
     have i1:(k:Int)<(len:Int):=by omega
     have i2:(k:Int)<40:=by omega
     have hd2:decide ((k:Int)<40)=true:=by simpa using i2
     clear hAk hx Gt hbW d0 d1 d2 d3 d4 d5 d6 d7 d8 hbw
     go_wp2_with fail
     (with_reducible refine ZB.out.mono ?_)
     rintro e w3 ⟨rfl,T',ZC,hkq,hsz,UW⟩
     have XG:Hid (uT W w t r w3):=⟨T',ZC,M7 ZA.out XF.out UW hkq hsz⟩
     clear ZC hkq UW
     go_wp2_with fail
     go_roundw
     case rel=>exact⟨k+1,by go_num,by omega,XG.out⟩
     case measure=>simp[intOf];omega
    ·have hd2:decide ((k:Int)<40)=false:=by simp;omega
     go_wp2_with fail
     go_meet
     exact HP.out
   ·have hd1:decide (k<len)=false:=by simpa using hlt
    go_wp2_with fail
    go_meet
    exact HP.out
 case rest=>
  go_wp2_with fail
  go_ret2
  exact⟨t,r,rfl,hcut⟩
theorem uU {w:World} {vs:List Value} {ls:List Nm} {n:Nat} (t:TypeId) (h:vs=(ls.map strOf).map Value.string) (hn:vs.length=n) (hm:n≤1000) (hs:∀l∈ls,l.length≤1000):aP (fun b=>b=w.heap.size) (w.alloc (.cells vs.toArray t)) (some ⟨w.heap.size,0,none⟩) n (ls.map strOf):=by
 subst hn
 refine⟨?_,fun s hs'=> ?_⟩
 ·rw[←h]
  exact oU vs t (by unfold maxLen;omega)
 ·obtain⟨l,hl,rfl⟩:=List.mem_map.1 hs'
  rw[eT]
  have:=hs l hl
  unfold maxLen;omega
def XH:aF:=(dQ nM [[97]] 2).2
def XI:aF:=(dQ XH [[97],[98]] 1).2
def UY:aF:=(dW XI [[97],[98]] [[99]]).2
theorem R_:(dQ nM [[97]] 2).1=(1,0):=by kernel_rfl
theorem Sb:(dQ XH [[97],[98]] 1).1=(2,0):=by kernel_rfl
theorem Sc:(dW XI [[97],[98]] [[99]]).1=0:=by kernel_rfl
theorem M8:iD UY 2= .agg #[.int .i64 2, .int .i64 1, .int .i64 2, .int .i64 0, .int .u64 0, .bool false]:=by kernel_rfl
theorem M9:(ah 2 UY).isSome=true:=by kernel_rfl
theorem Pq:UY.length=3:=by kernel_rfl
set_option maxRecDepth 100000 in
set_option maxHeartbeats 4000000 in
theorem EC (w:World):Calls Tryz.prog 21 #[] w fun e w'=>e= .returned (.bool true)∧Below w.heap.size w w':=by
 go_enter Tryz.func21,Tryz.ntmps21
 go_wp2_with fail
 (with_reducible refine(Lp w w (Below.refl _ _)).mono ?_)
 rintro e w1 ⟨p,rfl,hT1,hb1⟩
 have J_:=Lib.hid (Ca (hT1.grow (wall w1 (.cells #[.string ⟨#[97]⟩] 9))) (some ⟨w1.heap.size,0,none⟩) 1 1 [[97]] 2 (uU (w:=w1) (vs:=[.string ⟨#[97]⟩]) 9 rfl rfl (by simp) (by simp)) (Nat.le_refl _) (by omega))
 rw[R_]at J_
 clear hT1 hb1
 go_wp2_with fail
 (with_reducible refine J_.out.mono ?_)
 rintro e w2 ⟨rfl,TV,hK2⟩
 have FK:=Lib.hid (Ca (T:=XH) (TV.grow (wall w2 (.cells #[.string ⟨#[97]⟩, .string ⟨#[98]⟩] 9))) (some ⟨w2.heap.size,0,none⟩) 2 2 [[97],[98]] 1 (uU (w:=w2) (vs:=[.string ⟨#[97]⟩, .string ⟨#[98]⟩]) 9 rfl rfl (by simp) (by simp)) (Nat.le_refl _) (by omega))
 rw[Sb]at FK
 clear TV hK2 J_
 go_wp2_with fail
 (with_reducible refine FK.out.mono ?_)
 rintro e w3 ⟨rfl,Qu,hK3⟩
 have KH:=Lib.hid (H8 (T:=XI) (Qu.grow ((wall w3 (.cells #[.string ⟨#[97]⟩, .string ⟨#[98]⟩] 9)).alloc (by simp) (.cells #[.string ⟨#[99]⟩] 9))) (some ⟨w3.heap.size,0,none⟩) 2 2 [[97],[98]] (some ⟨w3.heap.size+1,0,none⟩) 1 1 [[99]]
  ((uU (w:=w3) (vs:=[.string ⟨#[97]⟩, .string ⟨#[98]⟩]) 9 rfl rfl (by simp) (by simp)).below (wall _ _) (Nat.le_refl _))
  (by
   have:=uU (w:=w3.alloc (.cells #[.string ⟨#[97]⟩, .string ⟨#[98]⟩] 9)) (vs:=[.string ⟨#[99]⟩]) (ls:=[[99]]) 9 rfl rfl (by simp) (by simp)
   rw[World.size_alloc]at this
   exact this) (Nat.le_refl _) (by omega))
 rw[Sc]at KH
 clear Qu hK3 FK
 go_wp2_with fail
 (with_reducible refine KH.out.mono ?_)
 rintro e w4 ⟨rfl,qB,hK4⟩
 have HN:=Lib.hid (H9 (T:=UY) qB 2 (by rfl))
 rw[M8,M9]at HN
 have wH:=Lib.hid qB
 clear qB hK4 KH
 go_wp2_with fail
 (with_reducible refine HN.out.mono ?_)
 rintro e w5 ⟨rfl,hb5⟩
 have HC:=Lib.hid (fun w6 (hb:Below w4.heap.size w4 w6)=>Dp (T:=UY) (wH.out.grow hb))
 rw[Pq]at HC
 have iQ:=Lib.hid hb5
 clear hb5 HN
 go_wp2_with fail
 (with_reducible refine(HC.out _ ?_).mono ?_)
 ·exact iQ.out.trans ((wall _ _).mono iQ.out.size)
 rintro e w6 ⟨rfl,rfl⟩
 go_wp2_with fail
 go_ret
 exact⟨rfl,wH.out.below.trans ((iQ.out.trans ((wall _ _).mono iQ.out.size)).mono wH.out.below.size)⟩
end Go.Proofs.YtjnhnlabpccgjaaGreat
