/- permafrostlaw11.do. -/
import Derived.Test.YtohpcppeajijnaaGreatM29
import Derived.Test.YtohpcppeajijnaaGreatM30
namespace Go.Proofs.YtohpcppeajijnaaGreat
open Go.ChangeShapes Go.WideShapes Go.ChangeAt Go.RowKit
set_option linter.unusedVariables false
set_option linter.unusedSimpArgs false
structure mG where
 kind:Int
 P:Int
 vE:Int
 dir:Bool
 id:Int
 at_:Int
 n:Int
 b:List UInt8
 aK:Int
structure mG.Ok (x:mG):Prop where
 wk:(Lit.int .i64 x.kind).wf=true
 wp:(Lit.int .i64 x.P).wf=true
 wt:(Lit.int .i64 x.vE).wf=true
 wi:(Lit.int .i64 x.id).wf=true
 wa:(Lit.int .i64 x.at_).wf=true
 wn:(Lit.int .i64 x.n).wf=true
 wu:0≤x.aK∧x.aK≤18446744073709551615
def nN (ba:Option Addr) (bn bc:Nat) (x:mG):Value:= .agg #[.int .i64 x.kind, .int .i64 x.P, .int .i64 x.vE, .bool x.dir, .int .i64 x.id, .int .i64 x.at_, .int .i64 x.n, .slice ba bn bc, .int .u64 x.aK]
def mq (ba:Option Addr) (bn bc:Nat) (x:mG):Array Value:= #[.int .i64 x.kind, .int .i64 x.P, .int .i64 x.vE, .bool x.dir, .int .i64 x.id, .int .i64 x.at_, .int .i64 x.n, .slice ba bn bc, .int .u64 x.aK]
theorem dF {w:World} {q:Nat} {ba:Option Addr} {bn bc:Nat} {x:mG} (h:w.heap[q]? =some (.cells (mq ba bn bc x) 79 (0,0))):w.cell? ⟨q,0,none⟩=some (.int .i64 x.kind)∧w.cell? ⟨q,1,none⟩=some (.int .i64 x.P)∧w.cell? ⟨q,2,none⟩=some (.int .i64 x.vE)∧w.cell? ⟨q,3,none⟩=some (.bool x.dir)∧w.cell? ⟨q,4,none⟩=some (.int .i64 x.id)∧w.cell? ⟨q,5,none⟩=some (.int .i64 x.at_)∧w.cell? ⟨q,6,none⟩=some (.int .i64 x.n)∧w.cell? ⟨q,7,none⟩=some (.slice ba bn bc)∧w.cell? ⟨q,8,none⟩=some (.int .u64 x.aK):=by
 refine⟨?_,?_,?_,?_,?_,?_,?_,?_,?_⟩<;>simp[World.cell?,h,mq]
def Tz (W:World) (Q:Nat→Prop) (w:World) (t r:Nat) (e:Ending) (w':World):Prop:=
 e= .returned (.bool true)∧∃T',BN W Q w' t r T'∧(∀b,Q b→w'.heap[b]? =w.heap[b]?)∧w.heap.size≤w'.heap.size∧Below W.heap.size W w'
def qN (W:World) (Q:Nat→Prop) (w:World) (t r:Nat) (wx:World):Prop:=
 ∃T',BN W Q wx t r T'∧(∀b,Q b→wx.heap[b]? =w.heap[b]?)∧w.heap.size≤wx.heap.size∧Below W.heap.size W wx
theorem dS.then_ {W w w1 w2:World} {P:Nat→Prop} {t:Nat} {T:aF} {v:Value} {e:Ending} (h:dS W P w t T v e w1) (hb:Below w1.heap.size w1 w2):dS W P w t T v e w2:=
 ⟨h.1,h.2.1.grow hb,h.2.2.trans (fp':=fun x=>w1.heap.size≤x) (Keeps.below hb) fun x hx hf=>by have:=h.2.2.size;omega⟩
theorem dS.behind {W w0 w w1:World} {P:Nat→Prop} {t:Nat} {T:aF} {v:Value} {e:Ending} (h:dS W P w t T v e w1) (hb:Below w0.heap.size w0 w):dS W P w0 t T v e w1:=
 ⟨h.1,h.2.1,(Keeps.mono (Keeps.below hb) (fun x hx hf=>by omega)).trans h.2.2 fun x _ hx=>hx⟩
theorem iK.F7 {W w:World} {Q P F:Nat→Prop} {t r:Nat} {T:aF} (h:iK W Q P F w t r T):dG T:=h.okay.1.1
theorem iK.ok1 {W w:World} {Q P F:Nat→Prop} {t r:Nat} {T:aF} (h:iK W Q P F w t r T):fU T:=h.okay.1
theorem dS.kp {W w w1:World} {P:Nat→Prop} {t:Nat} {T:aF} {v:Value} {e:Ending} (h:dS W P w t T v e w1):Keeps (Bc W P) w w1:=h.2.2
theorem qN.of {W w w1 w2:World} {Q P F:Nat→Prop} {t r:Nat} {T T':aF} {v1 v2:Value} {e1 e2:Ending} (h:iK W Q P F w t r T) (h1:dS W P w t T' v1 e1 w1) (h2:bC F w1 r T' v2 e2 w2) (hO:mQ T'):qN W Q w t r w2:=⟨T',h.step h1 h2 hO⟩
theorem qN.rest {W w w1:World} {Q P F:Nat→Prop} {t r:Nat} {T:aF} (h:iK W Q P F w t r T) (hb:Below w.heap.size w w1):qN W Q w t r w1:=⟨T,h.rest hb⟩
theorem j_ {W w w1:World} {P S:Nat→Prop} {a:Option Addr} {n:Nat} {ss:List ByteArray} (h:aH S w a n ss) (hS:∀b,S b→P b) (hK:Keeps (Bc W P) w w1):aH S w1 a n ss:=
 h.kept hK.size fun b hb hbw=>hK.block b hbw fun hw=>hw.2 (hS b hb)
theorem lF (n:Int):∀m∈dO n,m.length≤1:=by
 unfold dO
 rw[List.getD_eq_getElem?_getD]
 cases h:jh[m_ n]? with
 |none=>simp
 |some ls=>
  have hm:=List.mem_of_getElem? h
  have:∀l∈jh,∀m∈l,m.length≤1:=by decide
  exact this ls hm
theorem BP (ba:Option Addr) (bn bc:Nat) (x:mG) (w:World):Calls Tryz.prog 114 #[nN ba bn bc x] w fun e w'=>e= .returned (.int .i64 (if x.dir=true then 2 else 1))∧Below w.heap.size w w':=by
 unfold nN
 cases hd:x.dir with
 |true=>
  go_enter Tryz.func114,Tryz.ntmps114
  go_wp2
  go_ret
  exact⟨rfl,wall w _⟩
 |false=>
  go_enter Tryz.func114,Tryz.ntmps114
  go_wp2
  go_ret
  exact⟨rfl,wall w _⟩
set_option maxRecDepth 100000 in
set_option maxHeartbeats 32000000 in
theorem I9 {W w:World} {Q P F:Nat→Prop} {t r:Nat} {T:aF} (x:mG) (ba:Option Addr) (bn bc:Nat) (hB:iK W Q P F w t r T) (hx:x.Ok) (hbr:av (fun b=>b<W.heap.size) w ba bn (x.b.map bv)) (hbc:bn≤bc) (hbl:bn≤140737488351232):
  Calls Tryz.prog 49 #[ptr t,ptr r,nN ba bn bc x] w (Tz W Q w t r):=by
 have HB:=Lib.hid hB
 have HX:=Lib.hid hx
 have JX:=Lib.hid hbr
 have hWw:=hB.tree.below.size
 unfold nN
 clear hB hx hbr
 go_enter Tryz.func49,Tryz.ntmps49
 go_wp2_with fail
 have I_:(w.alloc (.cells (mq ba bn bc x) 79)).heap[w.heap.size]? =some (.cells (mq ba bn bc x) 79):=(MapKept.heap_alloc w _).1
 have hBa:Below w.heap.size w (w.alloc (.cells (mq ba bn bc x) 79)):=wall w _
 have hza:(w.alloc (.cells (mq ba bn bc x) 79)).heap.size=w.heap.size+1:=by simp
 unfold mq at I_ hBa hza
 generalize (w.alloc (.cells #[.int .i64 x.kind, .int .i64 x.P, .int .i64 x.vE, .bool x.dir, .int .i64 x.id, .int .i64 x.at_, .int .i64 x.n, .slice ba bn bc, .int .u64 x.aK] 79))=w1 at*
 obtain⟨q,hq⟩:∃q,q=w.heap.size:=⟨_,rfl⟩
 rw[←hq]at I_⊢
 have TA:=Lib.hid I_
 obtain⟨c0,c1,c2,c3,c4,c5,c6,c7,c8⟩:=dF (q:=q) (x:=x) I_
 have Qq:=Lib.hid hBa
 have Mv:=Lib.hid hq
 have N8:q<w1.heap.size:=by omega
 have jR:Hid (∀w',Below w1.heap.size w1 w'→w'.cell? ⟨q,1,none⟩=some (.int .i64 x.P)∧w'.cell? ⟨q,2,none⟩=some (.int .i64 x.vE)):=fun w' hb=>⟨(hb.cell (p:=⟨q,1,none⟩) N8).trans c1,(hb.cell (p:=⟨q,2,none⟩) N8).trans c2⟩
 clear I_ hBa hq c0 c3 c4 c5 c6 c7 c8
 refine wp_region_noPanic ?_
 refine wp_region_held_drew (S:=(fun w'=>w'.cell? ⟨q,1,none⟩=some (.int .i64 x.P)∧w'.cell? ⟨q,2,none⟩=some (.int .i64 x.vE))) (by kernel_rfl) ?_ (fun hS=> ?_)
 ·exact jR.out _ (Below.refl _ _).drew
 refine aS 0 (hS:=hS) (h:= ?_)
 refine aS 1 (hS:=hS) (h:= ?_)
 refine aS 3 (hS:=hS) (h:= ?_)
 refine aS 4 (hS:=hS) (h:= ?_)
 refine p9 2 (h:=fun K hK=> ?_)
 go_simp
 (with_reducible refine(qG _ HX.out.wp _).mono ?_)
 rintro e w2 ⟨a1,k1,rfl,hk1,hs1,hb2⟩
 have lG:Below w1.heap.size w1 w2:=(Below.refl _ _).drew.trans hb2
 go_wp2_with fail
 refine hK.out _ _ (jR.out _ lG) (fun hS=> ?_)
 clear hK K
 try simp only[Act.put,List.setIfInBounds_toArray,List.set_cons_zero,List.set_cons_succ]
 refine p9 5 (h:=fun K hK=> ?_)
 go_simp
 (with_reducible refine(qG _ HX.out.wt _).mono ?_)
 rintro e w3 ⟨a2,k2,rfl,hk2,hs2,hb3⟩
 have wW:Below w1.heap.size w1 w3:=lG.trans (hb3.mono lG.size)
 go_wp2_with fail
 refine hK.out _ _ (jR.out _ wW) (fun hS=> ?_)
 clear hK K
 try simp only[Act.put,List.setIfInBounds_toArray,List.set_cons_zero,List.set_cons_succ]
 refine aS 6 (hS:=hS) (h:= ?_)
 refine aS 7 (hS:=hS) (h:= ?_)
 refine wpAnyH_done (by kernel_rfl) ?_ _
 refine NoPanic.normal ?_
 clear hS
 have lq:Hid (aH (fun b=>w1.heap.size≤b∧b<w3.heap.size) w3 a1 (dO x.P).length ((dO x.P).map strOf)):=by
  refine(hs1.below hb3 (Nat.le_refl _)).mono fun b hb=>⟨hb.1,?_⟩
  have:=hb3.size
  omega
 have HS2:Hid (aH (fun b=>w1.heap.size≤b∧b<w3.heap.size) w3 a2 (dO x.vE).length ((dO x.vE).map strOf)):=by
  refine hs2.mono fun b hb=>⟨?_,hb.2⟩
  have:=lG.size
  omega
 have TB:=Lib.hid (lF x.P)
 have Qs:=Lib.hid (lF x.vE)
 have hn1:=lD x.P
 have hn2:=lD x.vE
 generalize hg1:dO x.P=l1 at*
 generalize hg2:dO x.vE=l2 at*
 obtain⟨m1,hm1⟩:∃m,m=l1.length:=⟨_,rfl⟩
 obtain⟨m2,hm2⟩:∃m,m=l2.length:=⟨_,rfl⟩
 rw[←hm1]at hk1 hn1 lq⊢
 rw[←hm2]at hk2 hn2 HS2⊢
 have hh3:w3.heap[q]? =some (.cells (mq ba bn bc x) 79 (0,0)):=(wW.block q N8).trans TA.out
 have KW:=Lib.hid hh3
 have yh:Below w.heap.size w w3:=Qq.out.trans (wW.mono (by omega))
 have BQ:=HB.out.zX yh
 have hq3:q<w3.heap.size:=by have:=wW.size;omega
 have H9:Hid ((fun z=>Q z∨(w.heap.size≤z∧z<w3.heap.size)) q∧(fun z=>P z∨(w.heap.size≤z∧z<w3.heap.size)) q):=⟨.inr ⟨by have:=Mv.out;omega,hq3⟩, .inr ⟨by have:=Mv.out;omega,hq3⟩⟩
 have Mw:Hid (∀b,w1.heap.size≤b∧b<w3.heap.size→(fun z=>P z∨(w.heap.size≤z∧z<w3.heap.size)) b):=fun b hb=> .inr ⟨by omega,hb.2⟩
 have Vs:Hid (∀b,w1.heap.size≤b∧b<w3.heap.size→(fun z=>Q z∨(w.heap.size≤z∧z<w3.heap.size)) b):=fun b hb=> .inr ⟨by omega,hb.2⟩
 have FN:Hid (∀b,w1.heap.size≤b∧b<w3.heap.size→b≠r):=fun b hb he=>by
  have:=HB.out.ref.low r HB.out.ref.own
  omega
 have N9:=Lib.hid (JX.out.below yh (Nat.le_refl _))
 have Ja:=Lib.hid yh
 have TD:Hid (∀z,Q z→(fun z=>Q z∨(w.heap.size≤z∧z<w3.heap.size)) z):=fun z hz=> .inl hz
 generalize Xy:(fun z=>Q z∨(w.heap.size≤z∧z<w3.heap.size))=Q1 at BQ H9 TD Vs
 generalize hP1:(fun z=>P z∨(w.heap.size≤z∧z<w3.heap.size))=P1 at BQ H9 Mw
 have gu:=Lib.hid BQ
 obtain⟨c0,c1',c2',c3,c4,c5,c6,c7,c8⟩:=dF hh3
 have CF:Hid (∀wz:World,Calls Tryz.prog 54 #[.slice ba bn bc, .int .i64 100] wz fun e w'=>e= .returned (.slice ba (min bn 100) bc)∧wz=w'):=fun wz=>EK ba bn bc 100 hbc (by omega) (by unfold maxLen;omega) wz
 clear hs1 hs2 hb2 hb3 lG wW hg1 hg2 hm1 hm2 hh3 yh BQ Xy hP1 c1 c2
 go_wp2_with fail
 (with_reducible refine(CF.out _).mono ?_)
 rintro e w4 ⟨rfl,rfl⟩
 have Y7:W.heap.size≤r:=(HB.out.KV r HB.out.ref.own).2
 have Jb:Hid (av (fun b=>b<W.heap.size) w3 ba (min bn 100) ((x.b.take 100).map bv)):=by
  have:=N9.out.take 100
  rwa [←List.map_take]at this
 have N_:min bn 100≤100:=Nat.min_le_right _ _
 have Qt:Hid (∀w6,Keeps (Bc W P1) w3 w6→av (fun b=>b<W.heap.size) w6 ba (min bn 100) ((x.b.take 100).map bv)):=fun w6 hK=>Jb.out.kept hK.size fun b hb hbw=>hK.block b hbw fun hw=>by have:=hw.1;omega
 have TF:Hid (∀b,b<W.heap.size→b≠r):=fun b hb he=>by omega
 generalize min bn 100=bm at*
 go_upto_block 0 with(fail)
 go_cut [] (fun wx=>qN W Q1 w3 t r wx)
 case first=>
  by_cases hk:x.kind=1
  ·have e1:(x.kind==1)=true:=by simpa using hk
   clear hk
   as_aux_lemma=>
    have KX:Hid (∀wz,Calls Tryz.prog 114 #[nN ba bn bc x] wz fun e w'=>e= .returned (.int .i64 (if x.dir=true then 2 else 1))∧Below wz.heap.size wz w'):=fun wz=>BP ba bn bc x wz
    generalize (if x.dir=true then 2 else 1:Int)=kd at KX
    unfold nN at KX
    go_wp2_with fail
    (with_reducible refine(KX.out _).mono ?_)
    rintro e w5 ⟨rfl,hb5⟩
    have iR:=Lib.hid hb5
    clear hb5
    go_wp2_with fail
    (with_reducible refine(zY (gu.out.tree.grow iR.out) a1 m1 k1 l1 kd (lq.out.below iR.out (Nat.le_refl _)) hk1 (by omega)).mono ?_)
    rintro e w6 lu
    have g_:=Lib.hid (lu.behind iR.out)
    obtain rfl:=lu.1
    clear lu
    have JY:=(g_.out.kp.block q hq3 (fun hw=>hw.2 H9.out.2)).trans KW.out
    obtain⟨d0,d1,d2,d3,d4,d5,d6,d7,d8⟩:=dF JY
    clear JY
    have yj:q<w6.heap.size:=Nat.lt_of_lt_of_le hq3 g_.out.kp.size
    go_wp2_with fail
    (with_reducible refine(KX.out _).mono ?_)
    rintro e w7 ⟨rfl,Jc⟩
    have qO:=Lib.hid Jc
    clear Jc
    go_wp2_with fail
    (with_reducible refine(zu a1 m1 k1 l1 kd w7 ((gu.out.mid g_.out).below qO.out (Nat.le_refl _)) gu.out.F7 ((j_ lq.out Mw.out g_.out.kp).below qO.out (Nat.le_refl _)) hk1 (by omega)).mono ?_)
    rintro e w8 ng
    have BR:=Lib.hid ng
    obtain rfl:=ng.1
    clear ng
    go_wp2_with fail
    go_meet
    exact qN.of gu.out (g_.out.then_ qO.out) BR.out (gu.out.okay.cu TB.out _)
  ·have e1:(x.kind==1)=false:=by simpa using hk
   clear hk
   by_cases hk:x.kind=2
   ·have e2:(x.kind==2)=true:=by simpa using hk
    clear hk
    as_aux_lemma=>
     go_wp2_with fail
     (with_reducible refine(Et gu.out.tree a1 m1 k1 l1 a2 m2 k2 l2 lq.out HS2.out hk2 (by omega)).mono ?_)
     rintro e w6 lu
     have g_:=Lib.hid lu
     obtain rfl:=lu.1
     clear lu
     go_wp2_with fail
     (with_reducible refine(ze a1 m1 k1 l1 a2 m2 k2 l2 w6 (gu.out.mid g_.out) gu.out.F7 (j_ lq.out Mw.out g_.out.kp) (j_ HS2.out Mw.out g_.out.kp) hk2 (by omega)).mono ?_)
     rintro e w8 ng
     have BR:=Lib.hid ng
     obtain rfl:=ng.1
     clear ng
     go_wp2_with fail
     go_meet
     exact qN.of gu.out g_.out BR.out (gu.out.okay.dz _ Qs.out)
   ·have e2:(x.kind==2)=false:=by simpa using hk
    clear hk
    by_cases hk:x.kind=3
    ·have e3:(x.kind==3)=true:=by simpa using hk
     clear hk
     as_aux_lemma=>
      go_wp2_with fail
      (with_reducible refine(FZ gu.out.tree a1 m1 k1 l1 lq.out hk1 (by omega)).mono ?_)
      rintro e w6 lu
      have g_:=Lib.hid lu
      obtain rfl:=lu.1
      clear lu
      go_wp2_with fail
      (with_reducible refine(uQ a1 m1 k1 l1 w6 (gu.out.mid g_.out) gu.out.F7 (j_ lq.out Mw.out g_.out.kp) hk1 (by omega)).mono ?_)
      rintro e w8 ng
      have BR:=Lib.hid ng
      obtain rfl:=ng.1
      clear ng
      go_wp2_with fail
      go_meet
      exact qN.of gu.out g_.out BR.out (gu.out.okay.bB _)
    ·have e3:(x.kind==3)=false:=by simpa using hk
     clear hk
     by_cases hk:x.kind=4
     ·have e4:(x.kind==4)=true:=by simpa using hk
      clear hk
      as_aux_lemma=>
       go_wp2_with fail
       (with_reducible refine(I6 gu.out.tree a1 m1 k1 l1 lq.out hk1 (by omega)).mono ?_)
       rintro e w6 lu
       have g_:=Lib.hid lu
       obtain rfl:=lu.1
       clear lu
       go_wp2_with fail
       (with_reducible refine(wR a1 m1 k1 l1 w6 (gu.out.mid g_.out) gu.out.F7 (j_ lq.out Mw.out g_.out.kp) hk1 (by omega)).mono ?_)
       rintro e w8 ng
       have BR:=Lib.hid ng
       obtain rfl:=ng.1
       clear ng
       go_wp2_with fail
       go_meet
       exact qN.of gu.out g_.out BR.out (gu.out.okay.bU _)
     ·have e4:(x.kind==4)=false:=by simpa using hk
      clear hk
      by_cases hk:x.kind=5
      ·have e5:(x.kind==5)=true:=by simpa using hk
       clear hk
       as_aux_lemma=>
        go_wp2_with fail
        (with_reducible refine(F3 gu.out.tree gu.out.ok1 a1 m1 k1 l1 a2 m2 k2 l2 lq.out HS2.out hk1 (by omega) hk2 (by omega)).mono ?_)
        rintro e w6 lu
        have g_:=Lib.hid lu
        obtain rfl:=lu.1
        clear lu
        go_wp2_with fail
        (with_reducible refine(uR a1 m1 k1 l1 a2 m2 k2 l2 w6 (gu.out.mid g_.out) gu.out.ok1 (j_ lq.out Mw.out g_.out.kp) (j_ HS2.out Mw.out g_.out.kp) hk1 (by omega) hk2 (by omega)).mono ?_)
        rintro e w8 ng
        have BR:=Lib.hid ng
        obtain rfl:=ng.1
        clear ng
        go_wp2_with fail
        go_meet
        exact qN.of gu.out g_.out BR.out (gu.out.okay.aT _ Qs.out)
      ·have e5:(x.kind==5)=false:=by simpa using hk
       clear hk
       by_cases hk:x.kind=6
       ·have e6:(x.kind==6)=true:=by simpa using hk
        clear hk
        as_aux_lemma=>
         have Aj:Hid (∀w',Keeps (Bc W P1) w3 w'→w'.cell? ⟨q,4,none⟩=some (.int .i64 x.id)∧w'.cell? ⟨q,8,none⟩=some (.int .u64 x.aK)):=fun w' hK=>by
          have JY:=(hK.block q hq3 (fun hw=>hw.2 H9.out.2)).trans KW.out
          obtain⟨d0,d1,d2,d3,d4,d5,d6,d7,d8⟩:=dF JY
          exact⟨d4,d8⟩
         have HDR:=Lib.hid (gu.out.below (Below.refl _ _).drew)
         go_wp2_with fail
         refine wp_region_noPanic ?_
         refine wp_region_held_drew (S:=(fun w'=>w'.cell? ⟨q,4,none⟩=some (.int .i64 x.id)∧w'.cell? ⟨q,8,none⟩=some (.int .u64 x.aK))) (by kernel_rfl) ?_ (fun hS=> ?_)
         ·exact⟨c4,c8⟩
         refine aS 0 (hS:=hS) (h:= ?_)
         refine aS 1 (hS:=hS) (h:= ?_)
         refine aS 2 (hS:=hS) (h:= ?_)
         refine aS 3 (hS:=hS) (h:= ?_)
         refine aS 5 (hS:=hS) (h:= ?_)
         refine aS 6 (hS:=hS) (h:= ?_)
         refine aS 7 (hS:=hS) (h:= ?_)
         refine aS 8 (hS:=hS) (h:= ?_)
         refine p9 4 (h:=fun K hK=> ?_)
         go_simp
         (with_reducible refine(Fy HDR.out.tree x.id ba bm bc (x.b.take 100) HX.out.wi (Jb.out.below (Below.refl _ _).drew (Nat.le_refl _)) (by omega)).mono ?_)
         rintro e w6 lu
         have g_:=Lib.hid (lu.behind (Below.refl _ _).drew)
         obtain rfl:=lu.1
         clear lu
         go_wp2_with fail
         refine hK.out _ _ (Aj.out _ g_.out.kp) (fun hS=> ?_)
         clear hK K
         try simp only[Act.put,List.setIfInBounds_toArray,List.set_cons_zero,List.set_cons_succ]
         refine p9 9 (h:=fun K hK=> ?_)
         go_simp
         (with_reducible refine(uU x.id ba bm bc (x.b.take 100) w6 (gu.out.mid g_.out) gu.out.F7 (Qt.out w6 g_.out.kp) TF.out (by omega)).mono ?_)
         rintro e w8 ng
         have BR:=Lib.hid ng
         obtain rfl:=ng.1
         have vL:w8.cell? ⟨q,4,none⟩=some (.int .i64 x.id)∧w8.cell? ⟨q,8,none⟩=some (.int .u64 x.aK):=by
          have yj:q<w6.heap.size:=Nat.lt_of_lt_of_le hq3 g_.out.kp.size
          have h9:=Aj.out _ g_.out.kp
          have hqr:q≠r:=fun he=>by
           have:=HB.out.ref.low r HB.out.ref.own
           have:=Mv.out
           omega
          exact⟨(ng.2.1.cell_ yj hqr 4).trans h9.1,(ng.2.1.cell_ yj hqr 8).trans h9.2⟩
         clear ng
         go_wp2_with fail
         refine hK.out _ _ (vL) (fun hS=> ?_)
         clear hK K
         try simp only[Act.put,List.setIfInBounds_toArray,List.set_cons_zero,List.set_cons_succ]
         refine aS 10 (hS:=hS) (h:= ?_)
         refine wpAnyH_done (by kernel_rfl) ?_ _
         refine NoPanic.normal ?_
         clear hS
         go_wp2_with fail
         go_meet
         exact qN.of gu.out g_.out BR.out (gu.out.okay.bK _ _)
       ·have e6:(x.kind==6)=false:=by simpa using hk
        clear hk
        by_cases hk:x.kind=7
        ·have e7:(x.kind==7)=true:=by simpa using hk
         clear hk
         as_aux_lemma=>
          go_wp2_with fail
          (with_reducible refine(Kk gu.out.tree x.id x.at_ x.n HX.out.wi HX.out.wa HX.out.wn).mono ?_)
          rintro e w6 ⟨a6,n6,k6,rfl,-,Qu,hb6⟩
          have oM:=Lib.hid hb6
          have wX:=Lib.hid Qu
          have HRR:=Lib.hid (zh x.id x.at_ x.n w6 (gu.out.ref.below hb6 (Nat.le_refl _)) gu.out.F7.tovw HX.out.wa HX.out.wn)
          have d4:=(hb6.cell (p:=⟨q,4,none⟩) hq3).trans c4
          have d5:=(hb6.cell (p:=⟨q,5,none⟩) hq3).trans c5
          have d6:=(hb6.cell (p:=⟨q,6,none⟩) hq3).trans c6
          clear hb6 Qu
          generalize lZ T x.id x.at_ x.n=rb at*
          generalize lY T x.id x.at_ x.n=re at*
          go_wp2_with fail
          (with_reducible refine HRR.out.mono ?_)
          rintro e w7 ⟨a7,n7,k7,rfl,Qv,rfl⟩
          have TG:(convert 39 9 (.slice a6 n6 k6)).run Tryz.prog w6= .ok (.string (strOf rb)) w6:=dK wX.out
          have TH:(convert 39 9 (.slice a7 n7 k7)).run Tryz.prog w6= .ok (.string (strOf rb)) w6:=dK Qv
          clear Qv
          go_wp2_with fail
          go_meet
          exact qN.rest gu.out oM.out
        ·have e7:(x.kind==7)=false:=by simpa using hk
         clear hk
         by_cases hk:x.kind=8
         ·have e8:(x.kind==8)=true:=by simpa using hk
          clear hk
          as_aux_lemma=>
           have Aj:Hid (∀w',Keeps (Bc W P1) w3 w'→w'.cell? ⟨q,4,none⟩=some (.int .i64 x.id)∧w'.cell? ⟨q,8,none⟩=some (.int .u64 x.aK)):=fun w' hK=>by
            have JY:=(hK.block q hq3 (fun hw=>hw.2 H9.out.2)).trans KW.out
            obtain⟨d0,d1,d2,d3,d4,d5,d6,d7,d8⟩:=dF JY
            exact⟨d4,d8⟩
           have HDR:=Lib.hid (gu.out.below (Below.refl _ _).drew)
           go_wp2_with fail
           refine wp_region_noPanic ?_
           refine wp_region_held_drew (S:=(fun w'=>w'.cell? ⟨q,4,none⟩=some (.int .i64 x.id)∧w'.cell? ⟨q,8,none⟩=some (.int .u64 x.aK))) (by kernel_rfl) ?_ (fun hS=> ?_)
           ·exact⟨c4,c8⟩
           refine aS 0 (hS:=hS) (h:= ?_)
           refine aS 1 (hS:=hS) (h:= ?_)
           refine aS 2 (hS:=hS) (h:= ?_)
           refine aS 3 (hS:=hS) (h:= ?_)
           refine aS 4 (hS:=hS) (h:= ?_)
           refine aS 6 (hS:=hS) (h:= ?_)
           refine aS 7 (hS:=hS) (h:= ?_)
           refine aS 8 (hS:=hS) (h:= ?_)
           refine aS 9 (hS:=hS) (h:= ?_)
           refine aS 10 (hS:=hS) (h:= ?_)
           refine p9 5 (h:=fun K hK=> ?_)
           go_simp
           (with_reducible refine(Ki HDR.out.tree x.id x.aK HX.out.wi HX.out.wu.1 HX.out.wu.2).mono ?_)
           rintro e w6 lu
           have g_:=Lib.hid (lu.behind (Below.refl _ _).drew)
           obtain rfl:=lu.1
           clear lu
           go_wp2_with fail
           refine hK.out _ _ (Aj.out _ g_.out.kp) (fun hS=> ?_)
           clear hK K
           try simp only[Act.put,List.setIfInBounds_toArray,List.set_cons_zero,List.set_cons_succ]
           refine p9 11 (h:=fun K hK=> ?_)
           go_simp
           (with_reducible refine(zl x.id x.aK w6 (gu.out.mid g_.out) gu.out.F7 HX.out.wu).mono ?_)
           rintro e w8 ng
           have BR:=Lib.hid ng
           obtain rfl:=ng.1
           have vL:w8.cell? ⟨q,4,none⟩=some (.int .i64 x.id)∧w8.cell? ⟨q,8,none⟩=some (.int .u64 x.aK):=by
            have yj:q<w6.heap.size:=Nat.lt_of_lt_of_le hq3 g_.out.kp.size
            have h9:=Aj.out _ g_.out.kp
            have hqr:q≠r:=fun he=>by
             have:=HB.out.ref.low r HB.out.ref.own
             have:=Mv.out
             omega
            exact⟨(ng.2.1.cell_ yj hqr 4).trans h9.1,(ng.2.1.cell_ yj hqr 8).trans h9.2⟩
           clear ng
           go_wp2_with fail
           refine hK.out _ _ (vL) (fun hS=> ?_)
           clear hK K
           try simp only[Act.put,List.setIfInBounds_toArray,List.set_cons_zero,List.set_cons_succ]
           refine aS 12 (hS:=hS) (h:= ?_)
           refine wpAnyH_done (by kernel_rfl) ?_ _
           refine NoPanic.normal ?_
           clear hS
           go_wp2_with fail
           go_meet
           exact qN.of gu.out g_.out BR.out (gu.out.okay.dR _ _ HX.out.wu.1)
         ·have e8:(x.kind==8)=false:=by simpa using hk
          clear hk
          by_cases hk:x.kind=9
          ·have e9:(x.kind==9)=true:=by simpa using hk
           clear hk
           as_aux_lemma=>
            have Aj:Hid (∀w',Keeps (Bc W P1) w3 w'→w'.cell? ⟨q,4,none⟩=some (.int .i64 x.id)∧w'.cell? ⟨q,8,none⟩=some (.int .u64 x.aK)):=fun w' hK=>by
             have JY:=(hK.block q hq3 (fun hw=>hw.2 H9.out.2)).trans KW.out
             obtain⟨d0,d1,d2,d3,d4,d5,d6,d7,d8⟩:=dF JY
             exact⟨d4,d8⟩
            have HDR:=Lib.hid (gu.out.below (Below.refl _ _).drew)
            go_wp2_with fail
            refine wp_region_noPanic ?_
            refine wp_region_held_drew (S:=(fun w'=>w'.cell? ⟨q,4,none⟩=some (.int .i64 x.id)∧w'.cell? ⟨q,8,none⟩=some (.int .u64 x.aK))) (by kernel_rfl) ?_ (fun hS=> ?_)
            ·exact⟨c4,c8⟩
            refine aS 0 (hS:=hS) (h:= ?_)
            refine aS 1 (hS:=hS) (h:= ?_)
            refine aS 2 (hS:=hS) (h:= ?_)
            refine aS 3 (hS:=hS) (h:= ?_)
            refine aS 4 (hS:=hS) (h:= ?_)
            refine aS 6 (hS:=hS) (h:= ?_)
            refine aS 7 (hS:=hS) (h:= ?_)
            refine aS 8 (hS:=hS) (h:= ?_)
            refine aS 9 (hS:=hS) (h:= ?_)
            refine aS 10 (hS:=hS) (h:= ?_)
            refine p9 5 (h:=fun K hK=> ?_)
            go_simp
            (with_reducible refine(Kj HDR.out.tree x.id x.aK HX.out.wi HX.out.wu.1 HX.out.wu.2).mono ?_)
            rintro e w6 lu
            have g_:=Lib.hid (lu.behind (Below.refl _ _).drew)
            obtain rfl:=lu.1
            clear lu
            go_wp2_with fail
            refine hK.out _ _ (Aj.out _ g_.out.kp) (fun hS=> ?_)
            clear hK K
            try simp only[Act.put,List.setIfInBounds_toArray,List.set_cons_zero,List.set_cons_succ]
            refine p9 11 (h:=fun K hK=> ?_)
            go_simp
            (with_reducible refine(zi x.id x.aK w6 (gu.out.mid g_.out) gu.out.F7 HX.out.wu).mono ?_)
            rintro e w8 ng
            have BR:=Lib.hid ng
            obtain rfl:=ng.1
            have vL:w8.cell? ⟨q,4,none⟩=some (.int .i64 x.id)∧w8.cell? ⟨q,8,none⟩=some (.int .u64 x.aK):=by
             have yj:q<w6.heap.size:=Nat.lt_of_lt_of_le hq3 g_.out.kp.size
             have h9:=Aj.out _ g_.out.kp
             have hqr:q≠r:=fun he=>by
              have:=HB.out.ref.low r HB.out.ref.own
              have:=Mv.out
              omega
             exact⟨(ng.2.1.cell_ yj hqr 4).trans h9.1,(ng.2.1.cell_ yj hqr 8).trans h9.2⟩
            clear ng
            go_wp2_with fail
            refine hK.out _ _ (vL) (fun hS=> ?_)
            clear hK K
            try simp only[Act.put,List.setIfInBounds_toArray,List.set_cons_zero,List.set_cons_succ]
            refine aS 12 (hS:=hS) (h:= ?_)
            refine wpAnyH_done (by kernel_rfl) ?_ _
            refine NoPanic.normal ?_
            clear hS
            go_wp2_with fail
            go_meet
            exact qN.of gu.out g_.out BR.out (gu.out.okay.dL _ _ HX.out.wu.1)
          ·have e9:(x.kind==9)=false:=by simpa using hk
           clear hk
           by_cases hk:x.kind=10
           ·have e10:(x.kind==10)=true:=by simpa using hk
            clear hk
            as_aux_lemma=>
             have Aj:Hid (∀w',Keeps (Bc W P1) w3 w'→w'.cell? ⟨q,4,none⟩=some (.int .i64 x.id)∧w'.cell? ⟨q,8,none⟩=some (.int .u64 x.aK)):=fun w' hK=>by
              have JY:=(hK.block q hq3 (fun hw=>hw.2 H9.out.2)).trans KW.out
              obtain⟨d0,d1,d2,d3,d4,d5,d6,d7,d8⟩:=dF JY
              exact⟨d4,d8⟩
             have HDR:=Lib.hid (gu.out.below (Below.refl _ _).drew)
             go_wp2_with fail
             refine wp_region_noPanic ?_
             refine wp_region_held_drew (S:=(fun w'=>w'.cell? ⟨q,4,none⟩=some (.int .i64 x.id)∧w'.cell? ⟨q,8,none⟩=some (.int .u64 x.aK))) (by kernel_rfl) ?_ (fun hS=> ?_)
             ·exact⟨c4,c8⟩
             refine aS 0 (hS:=hS) (h:= ?_)
             refine aS 1 (hS:=hS) (h:= ?_)
             refine aS 2 (hS:=hS) (h:= ?_)
             refine aS 4 (hS:=hS) (h:= ?_)
             refine aS 5 (hS:=hS) (h:= ?_)
             refine aS 6 (hS:=hS) (h:= ?_)
             refine p9 3 (h:=fun K hK=> ?_)
             go_simp
             (with_reducible refine(KT HDR.out.tree x.id HX.out.wi).mono ?_)
             rintro e w6 lu
             have g_:=Lib.hid (lu.behind (Below.refl _ _).drew)
             obtain rfl:=lu.1
             clear lu
             go_wp2_with fail
             refine hK.out _ _ (Aj.out _ g_.out.kp) (fun hS=> ?_)
             clear hK K
             try simp only[Act.put,List.setIfInBounds_toArray,List.set_cons_zero,List.set_cons_succ]
             refine p9 7 (h:=fun K hK=> ?_)
             go_simp
             (with_reducible refine(zn x.id w6 (gu.out.mid g_.out) gu.out.F7).mono ?_)
             rintro e w8 ng
             have BR:=Lib.hid ng
             obtain rfl:=ng.1
             have vL:w8.cell? ⟨q,4,none⟩=some (.int .i64 x.id)∧w8.cell? ⟨q,8,none⟩=some (.int .u64 x.aK):=by
              have yj:q<w6.heap.size:=Nat.lt_of_lt_of_le hq3 g_.out.kp.size
              have h9:=Aj.out _ g_.out.kp
              have hqr:q≠r:=fun he=>by
               have:=HB.out.ref.low r HB.out.ref.own
               have:=Mv.out
               omega
              exact⟨(ng.2.1.cell_ yj hqr 4).trans h9.1,(ng.2.1.cell_ yj hqr 8).trans h9.2⟩
             clear ng
             go_wp2_with fail
             refine hK.out _ _ (vL) (fun hS=> ?_)
             clear hK K
             try simp only[Act.put,List.setIfInBounds_toArray,List.set_cons_zero,List.set_cons_succ]
             refine aS 8 (hS:=hS) (h:= ?_)
             refine wpAnyH_done (by kernel_rfl) ?_ _
             refine NoPanic.normal ?_
             clear hS
             go_wp2_with fail
             go_meet
             exact qN.of gu.out g_.out BR.out (gu.out.okay.dM _)
           ·have e10:(x.kind==10)=false:=by simpa using hk
            clear hk
            go_wp2_with fail
            go_meet
            exact qN.rest gu.out (Below.refl _ _)
 case rest=>
  as_aux_lemma=>
   obtain⟨T2,⟨P2,F2,Oa⟩,hkp,hsz,hBW⟩:=hcut
   obtain⟨w5,rfl⟩:∃w5:World,w5=wc:=⟨_,rfl⟩
   have hS1:aH (fun b=>w1.heap.size≤b∧b<w3.heap.size) w5 a1 m1 (l1.map strOf):=lq.out.kept hsz fun b hb hbw=>hkp b (Vs.out b hb)
   have Qw:=(hkp q H9.out.1).trans KW.out
   have M5:=Lib.hid (fun b (hb:Q b)=>(hkp b (TD.out b hb)).trans (Ja.out.block b (HB.out.tree.low b (HB.out.JW b hb).1)))
   have hsz0:w.heap.size≤w5.heap.size:=by have:=Ja.out.size;omega
   have Ak:q<w5.heap.size:=by omega
   have HB2:=Lib.hid (Oa.mono TD.out)
   have Pj:=Lib.hid hS1
   obtain⟨d0,d1,d2,d3,d4,d5,d6,d7,d8⟩:=dF Qw
   have hE2:(aV T2).length≤1000000:=by have:=gQ Oa.F7;omega
   have H1:=Lib.hid (KS HB2.out.tree a1 m1 k1 l1 hS1)
   have H2:=Lib.hid (fun wz (hb:Below w5.heap.size w5 wz)=>qB a1 m1 k1 l1 wz (HB2.out.ref.below hb (Nat.le_refl _)) HB2.out.F7 hE2 (Pj.out.below hb (Nat.le_refl _)))
   have H3:=Lib.hid (fun wz (hb:Below w5.heap.size w5 wz)=>Eu (HB2.out.tree.grow hb) x.id HX.out.wi)
   have H4:=Lib.hid (fun wz (hb:Below w5.heap.size w5 wz)=>iV x.id wz (HB2.out.ref.below hb (Nat.le_refl _)) HB2.out.F7.tovw)
   have H5:=Lib.hid (fun wz (hb:Below w5.heap.size w5 wz)=>KU (HB2.out.tree.grow hb) x.id HX.out.wi)
   have H6:=Lib.hid (fun wz (hb:Below w5.heap.size w5 wz)=>um x.id wz (HB2.out.ref.below hb (Nat.le_refl _)) HB2.out.F7)
   have H7:=Lib.hid (fun wz (hb:Below w5.heap.size w5 wz)=>Bd (HB2.out.tree.grow hb))
   obtain⟨v0,v1,v2,v3,v4,v5,hv⟩:∃(v0 v1 v2 v3 v4:Int) (v5:Bool),iI T2 x.id= .agg #[.int .i64 v0, .int .i64 v1, .int .i64 v2, .int .i64 v3, .int .u64 v4, .bool v5]:=by
    unfold iI
    cases aj x.id T2 with
    |none=>exact⟨_,_,_,_,_,_,rfl⟩
    |some y=>exact⟨_,_,_,_,_,_,rfl⟩
   rw[hv]at H3 H4
   have KY:=Lib.hid (fun wz (hb:Below w5.heap.size w5 wz)=>(HB2.out.ref.below hb (Nat.le_refl _)).nodes)
   have Xz:r<w5.heap.size:=HB2.out.ref.low r HB2.out.ref.own
   generalize (aj x.id T2).isSome=sm at*
   generalize eO T2 l1=lk at*
   generalize hlm:kT T2 x.id=lm at*
   clear Oa hkp Qw hS1 hE2 hv hBW d0 d1 d2 d3 d5 d6 d7 d8 hlm c0 c1' c2' c3 c4 c5 c6 c7 c8
   go_wp2_with fail
   (with_reducible refine H1.out.mono ?_)
   rintro e w6 ⟨rfl,hb6⟩
   have oM:=Lib.hid hb6
   have e4:=(hb6.cell (p:=⟨q,4,none⟩) Ak).trans d4
   clear hb6
   go_wp2_with fail
   (with_reducible refine(H2.out w6 oM.out).mono ?_)
   rintro e w7 ⟨rfl,Jc⟩
   have qO:=Lib.hid (oM.out.trans (Jc.mono oM.out.size))
   have d4:=(qO.out.cell (p:=⟨q,4,none⟩) Ak).trans d4
   clear Jc e4
   go_wp2_with fail
   (with_reducible refine(H3.out w7 qO.out).mono ?_)
   rintro e w8 ⟨rfl,BM⟩
   have vD:=Lib.hid (qO.out.trans (BM.mono qO.out.size))
   have mH:=vD.out.size
   clear BM
   have hna:=(MapKept.heap_alloc w8 (.cells #[.int .i64 v0, .int .i64 v1, .int .i64 v2, .int .i64 v3, .int .u64 v4, .bool v5] 98)).1
   have wY:=Lib.hid (vD.out.trans ((wall w8 (.cells #[.int .i64 v0, .int .i64 v1, .int .i64 v2, .int .i64 v3, .int .u64 v4, .bool v5] 98)).mono mH))
   have Qx:=Lib.hid hna
   clear hna
   have TI:=(wY.out.cell (p:=⟨q,4,none⟩) Ak).trans ((qO.out.cell (p:=⟨q,4,none⟩) Ak).symm.trans d4)
   go_wp2_with fail
   have Ob:(w8.alloc (.cells #[.int .i64 v0, .int .i64 v1, .int .i64 v2, .int .i64 v3, .int .u64 v4, .bool v5] 98)).heap.size=w8.heap.size+1:=by simp
   generalize (w8.alloc (.cells #[.int .i64 v0, .int .i64 v1, .int .i64 v2, .int .i64 v3, .int .u64 v4, .bool v5] 98))=Qy at*
   obtain⟨qa,Qz⟩:∃qa,qa=w8.heap.size:=⟨_,rfl⟩
   rw[←Qz]at Qx⊢
   have Oc:qa<Qy.heap.size:=by omega
   clear Qz Ob
   (with_reducible refine(H4.out Qy wY.out).mono ?_)
   rintro e w9 ⟨rfl,qP⟩
   have zx:=Lib.hid (wY.out.trans (qP.mono wY.out.size))
   have Pk:=zx.out.size
   have Od:qa<w9.heap.size:=by have:=qP.size;omega
   have Oe:=Lib.hid ((qP.block qa Oc).trans Qx.out)
   have hnb:=(MapKept.heap_alloc w9 (.cells #[.int .i64 v0, .int .i64 v1, .int .i64 v2, .int .i64 v3, .int .u64 v4, .bool v5] 98)).1
   have wZ:=Lib.hid (zx.out.trans ((wall w9 (.cells #[.int .i64 v0, .int .i64 v1, .int .i64 v2, .int .i64 v3, .int .u64 v4, .bool v5] 98)).mono Pk))
   have QA:=Lib.hid hnb
   have Jd:=Lib.hid (((wall w9 (.cells #[.int .i64 v0, .int .i64 v1, .int .i64 v2, .int .i64 v3, .int .u64 v4, .bool v5] 98)).block qa Od).trans Oe.out)
   have TJ:=(wZ.out.cell (p:=⟨q,4,none⟩) Ak).trans ((wY.out.cell (p:=⟨q,4,none⟩) Ak).symm.trans TI)
   have Og:(w9.alloc (.cells #[.int .i64 v0, .int .i64 v1, .int .i64 v2, .int .i64 v3, .int .u64 v4, .bool v5] 98)).heap.size=w9.heap.size+1:=by simp
   clear hnb qP
   go_wp2_with fail
   generalize (w9.alloc (.cells #[.int .i64 v0, .int .i64 v1, .int .i64 v2, .int .i64 v3, .int .u64 v4, .bool v5] 98))=Oh at*
   obtain⟨qb,BJ⟩:∃qb,qb=w9.heap.size:=⟨_,rfl⟩
   rw[←BJ]at QA⊢
   have Oi:qb<Oh.heap.size:=by omega
   have Je:qa<Oh.heap.size:=by omega
   clear BJ Og
   (with_reducible refine(H5.out Oh wZ.out).mono ?_)
   rintro e Dv ⟨a3,k3,rfl,hk3,hs3,kR⟩
   have qc:=Lib.hid (wZ.out.trans (kR.mono wZ.out.size))
   have XA:=(qc.out.cell (p:=⟨q,4,none⟩) Ak).trans ((wZ.out.cell (p:=⟨q,4,none⟩) Ak).symm.trans TJ)
   have Jf:=Lib.hid ((kR.block qa Je).trans Jd.out)
   have Jg:=Lib.hid ((kR.block qb Oi).trans QA.out)
   have Mh:=Lib.hid hs3
   have TK:=kR.size
   clear hs3 kR
   go_wp2_with fail
   (with_reducible refine(H6.out Dv qc.out).mono ?_)
   rintro e w_ ⟨a4,k4,rfl,hk4,hs4,uq⟩
   have uw:=Lib.hid (qc.out.trans (uq.mono qc.out.size))
   have BS:=(uq.block qa (by omega)).trans Jf.out
   have BU:=(uq.block qb (by omega)).trans Jg.out
   have Oj:=Lib.hid (Mh.out.below uq (Nat.le_refl _))
   have J8:=Lib.hid hs4
   have TL:=uq.size
   have Kw:=Lib.hid (fun wz (hb:Below w_.heap.size w_ wz)=>BO a3 a4 lm.1.length k3 lm.1.length k4 (lm.1.map strOf) (lm.1.map strOf) wz (Oj.out.below hb (Nat.le_refl _)) (J8.out.below hb (Nat.le_refl _)))
   have hsame:decide (lm.1.map strOf=lm.1.map strOf)=true:=by simp
   rw[hsame]at Kw
   obtain⟨aZ,cZ,z0,-⟩:=KY.out w_ uw.out
   have Ol:r<w_.heap.size:=by have:=uw.out.size;omega
   obtain⟨tl,htl⟩:∃tl,tl=T2.length:=⟨_,rfl⟩
   rw[←htl]at H7 z0
   have KM:=Lib.hid htl
   have Om:Hid (∀wz,Below w_.heap.size w_ wz→((wz.cell? ⟨qa,0,none⟩=some (.int .i64 v0)∧wz.cell? ⟨qa,1,none⟩=some (.int .i64 v1)∧wz.cell? ⟨qa,2,none⟩=some (.int .i64 v2)∧wz.cell? ⟨qa,3,none⟩=some (.int .i64 v3)∧wz.cell? ⟨qa,4,none⟩=some (.int .u64 v4)∧wz.cell? ⟨qa,5,none⟩=some (.bool v5))∧(wz.cell? ⟨qb,0,none⟩=some (.int .i64 v0)∧wz.cell? ⟨qb,1,none⟩=some (.int .i64 v1)∧wz.cell? ⟨qb,2,none⟩=some (.int .i64 v2)∧wz.cell? ⟨qb,3,none⟩=some (.int .i64 v3)∧wz.cell? ⟨qb,4,none⟩=some (.int .u64 v4)∧wz.cell? ⟨qb,5,none⟩=some (.bool v5))∧wz.cell? ⟨r,0,none⟩=some (.slice aZ tl cZ))):=fun wz hb=>by
    have g1:=(hb.block qa (by omega)).trans BS
    have g2:=(hb.block qb (by omega)).trans BU
    refine⟨⟨?_,?_,?_,?_,?_,?_⟩,⟨?_,?_,?_,?_,?_,?_⟩,(hb.cell (p:=⟨r,0,none⟩) Ol).trans z0⟩<;>simp[World.cell?,g1,g2]
   clear hs4 uq BS BU hsame htl
   generalize lm.1.length=ll at*
   obtain⟨Rv,Rw⟩:=lk
   obtain⟨XB,Rx⟩:=lm
   go_wp2_with fail
   refine wp_region_noPanic ?_
   refine wp_region_held_drew (S:=(fun wz=>(wz.cell? ⟨qa,0,none⟩=some (.int .i64 v0)∧wz.cell? ⟨qa,1,none⟩=some (.int .i64 v1)∧wz.cell? ⟨qa,2,none⟩=some (.int .i64 v2)∧wz.cell? ⟨qa,3,none⟩=some (.int .i64 v3)∧wz.cell? ⟨qa,4,none⟩=some (.int .u64 v4)∧wz.cell? ⟨qa,5,none⟩=some (.bool v5))∧(wz.cell? ⟨qb,0,none⟩=some (.int .i64 v0)∧wz.cell? ⟨qb,1,none⟩=some (.int .i64 v1)∧wz.cell? ⟨qb,2,none⟩=some (.int .i64 v2)∧wz.cell? ⟨qb,3,none⟩=some (.int .i64 v3)∧wz.cell? ⟨qb,4,none⟩=some (.int .u64 v4)∧wz.cell? ⟨qb,5,none⟩=some (.bool v5))∧wz.cell? ⟨r,0,none⟩=some (.slice aZ tl cZ))) (by kernel_rfl) ?_ (fun hS=> ?_)
   ·exact Om.out _ (Below.refl _ _).drew
   refine aS 0 (hS:=hS) (h:= ?_)
   refine aS 1 (hS:=hS) (h:= ?_)
   refine aS 2 (hS:=hS) (h:= ?_)
   refine aS 3 (hS:=hS) (h:= ?_)
   refine aS 4 (hS:=hS) (h:= ?_)
   refine aS 5 (hS:=hS) (h:= ?_)
   refine aS 6 (hS:=hS) (h:= ?_)
   refine aS 7 (hS:=hS) (h:= ?_)
   refine aS 8 (hS:=hS) (h:= ?_)
   refine aS 9 (hS:=hS) (h:= ?_)
   refine aS 10 (hS:=hS) (h:= ?_)
   refine aS 11 (hS:=hS) (h:= ?_)
   refine aS 12 (hS:=hS) (h:= ?_)
   refine aS 13 (hS:=hS) (h:= ?_)
   refine aS 14 (hS:=hS) (h:= ?_)
   refine aS 15 (hS:=hS) (h:= ?_)
   refine aS 16 (hS:=hS) (h:= ?_)
   refine aS 17 (hS:=hS) (h:= ?_)
   refine aS 18 (hS:=hS) (h:= ?_)
   refine aS 19 (hS:=hS) (h:= ?_)
   refine aS 20 (hS:=hS) (h:= ?_)
   refine p9 21 (h:=fun K hK=> ?_)
   go_simp
   (with_reducible refine(Kw.out _ (Below.refl _ _).drew).mono ?_)
   rintro e TM ⟨rfl,Oo⟩
   have lG:Below w_.heap.size w_ TM:=(Below.refl _ _).drew.trans Oo
   go_wp2_with fail
   refine hK.out _ _ (Om.out _ lG) (fun hS=> ?_)
   clear hK K
   try simp only[Act.put,List.setIfInBounds_toArray,List.set_cons_zero,List.set_cons_succ]
   refine aS 22 (hS:=hS) (h:= ?_)
   refine aS 23 (hS:=hS) (h:= ?_)
   refine aS 24 (hS:=hS) (h:= ?_)
   refine aS 25 (hS:=hS) (h:= ?_)
   refine aS 26 (hS:=hS) (h:= ?_)
   refine aS 27 (hS:=hS) (h:= ?_)
   refine aS 28 (hS:=hS) (h:= ?_)
   refine aS 29 (hS:=hS) (h:= ?_)
   refine aS 31 (hS:=hS) (h:= ?_)
   refine aS 32 (hS:=hS) (h:= ?_)
   refine aS 33 (hS:=hS) (h:= ?_)
   refine aS 34 (hS:=hS) (h:= ?_)
   refine aS 35 (hS:=hS) (h:= ?_)
   refine p9 30 (h:=fun K hK=> ?_)
   go_simp
   (with_reducible refine(H7.out _ (uw.out.trans (lG.mono uw.out.size))).mono ?_)
   rintro e XC ⟨rfl,rfl⟩
   go_wp2_with fail
   refine hK.out _ _ (Om.out _ lG) (fun hS=> ?_)
   clear hK K
   try simp only[Act.put,List.setIfInBounds_toArray,List.set_cons_zero,List.set_cons_succ]
   refine aS 36 (hS:=hS) (h:= ?_)
   refine aS 37 (hS:=hS) (h:= ?_)
   refine aS 38 (hS:=hS) (h:= ?_)
   refine wpAnyH_done (by kernel_rfl) ?_ _
   refine NoPanic.normal ?_
   clear hS
   have TN:=Lib.hid (uw.out.trans (lG.mono uw.out.size))
   clear lG
   go_wp2_with fail
   go_ret
   have h9:=HB2.out.rest TN.out
   exact⟨rfl,T2,h9.1,fun b hb=>(h9.2.1 b hb).trans (M5.out b hb),Nat.le_trans hsz0 h9.2.2.1,h9.2.2.2⟩
end Go.Proofs.YtohpcppeajijnaaGreat
