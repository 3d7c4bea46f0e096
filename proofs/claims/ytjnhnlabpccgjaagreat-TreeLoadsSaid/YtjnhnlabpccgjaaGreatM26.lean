/- The reference: Append. The tree and the reference's, side by side. permafrostbook.Within. permafrostkeep.Names. permafrostbook.Same at texts. permafrostkeep.Cut. A drawn region taken by hand: the condition S may be made stronger on the way. -/
import Derived.Test.YtjnhnlabpccgjaaGreatM23
import Derived.Test.YtjnhnlabpccgjaaGreatM25
import Derived.Test.YtjnhnlabpccgjaaGreatM18
import Derived.Test.YtjnhnlabpccgjaaGreatM01
import Derived.Test.YtjnhnlabpccgjaaGreatM08
import Derived.Deep.CutBlock
import Derived.Deep.DeepCutAuto
import Derived.Test.YtjnhnlabpccgjaaGreatM19
import Derived.BigQuiet
import Derived.Deep.QuietTactic
import Derived.Deep.RegionHeld3
namespace Go.Proofs.YtjnhnlabpccgjaaGreat
open Go.ChangeShapes Go.WideShapes Go.ChangeAt Go.RowKit
set_option linter.unusedVariables false
set_option linter.unusedSimpArgs false
theorem qR {T:aF} {id:Int} {bs:List UInt8} {v:Int} (h:jF T id bs=v) (hv:v≠0):dw T id bs=(v,T):=by
 unfold dw
 rw[h,if_neg hv]
structure zl (F:Nat→Prop) (w:World) (r:Nat) (x2:Value) (T:aF) (D:List (List UInt8)) (gN oN cN gD oD cD:Nat) (vs:List Value) (wx:World):Prop where
 keeps:Keeps (fun x=>x=r) w wx
 Zk:r<w.heap.size
 head:wx.heap[r]? =some (.cells #[.slice (some ⟨gN,oN,none⟩) T.length cN, .slice (some ⟨gD,oD,none⟩) D.length cD,x2] 97 (0,0))
 UD:T.length≤cN
 UE:D.length≤cD
 R3:aj (fun b=>b=gN) wx (some ⟨gN,oN,none⟩) (T.length*6) (T.flatMap dx)
 Zl:Plain wx (some ⟨gN,oN,none⟩)
 Pm:aj (fun b=>b=gD) wx (some ⟨gD,oD,none⟩) D.length vs
 Zm:Plain wx (some ⟨gD,oD,none⟩)
 UF:w.heap.size≤gN∧gN<wx.heap.size
 R4:w.heap.size≤gD∧gD<wx.heap.size
 ne:gN≠gD
 each:Each (fun b=>(F b∧b<w.heap.size∧b≠r)∨(w.heap.size≤b∧b<wx.heap.size∧b≠gN∧b≠gD)) wx vs D
def xJ (F:Nat→Prop) (w:World) (r:Nat) (x2:Value) (T:aF) (D:List (List UInt8)) (wx:World):Prop:=∃gN oN cN gD oD cD vs,zl F w r x2 T D gN oN cN gD oD cD vs wx
theorem Pn {F:Nat→Prop} {w w1 w2:World} {r n c:Nat} {x1 x2:Value} {T:aF} {D:List (List UInt8)} {a:Option Addr} {vs:List Value} (hm:bP w r x1 x2 T w1) (hT:0<T.length) (hn:0<n) (hD:D.length=n) (hb:Below w1.heap.size w1 w2)
  (hown:w2.ownsRow w1.heap.size 23 1 (.slice a (0+n) c) (0+n) ([]++vs)) (hmx:(0+n)*1≤maxLen) (he:Each (Off F r) w vs D) (hlow:∀b,F b→b<w.heap.size):xJ F w r x2 T D (w2.setCell ⟨r,1,none⟩ (.slice a n c)):=by
 obtain⟨hK,hr,aN,cN,h2,h3,h4,h5⟩:=hm
 have hs1:=hK.size
 have hs2:=hb.size
 obtain⟨-,hcc,-,hrow⟩:=aj.uL hown hmx
 rw[Nat.zero_add]at hcc
 rw[Nat.zero_add,Nat.mul_one,List.nil_append]at hrow
 obtain⟨gN,oN,rfl,Ut,hbN,-⟩:=h4.at_ (by omega)
 obtain⟨gD,oD,rfl,Ze,hbD,-⟩:=hrow.at_ (by omega)
 have hp:=jR hown
 have Xg:=Ut.1
 have hFD1:=Ze.1
 have Xh:gN≠r:=by omega
 have Xi:gD≠r:=by omega
 have hrN:aj (fun b=>b=gN) w1 (some ⟨gN,oN,none⟩) (T.length*6) (T.flatMap dx):=⟨h4.length,h4.small,fun h0=>by
  obtain⟨b,o,e,_,hb',hc'⟩:=h4.at_ h0
  simp only[Option.some.injEq,Addr.mk.injEq,and_true]at e
  obtain⟨rfl,rfl⟩:=e
  exact⟨_,_,rfl,rfl,hb',hc'⟩⟩
 have hrD:aj (fun b=>b=gD) w2 (some ⟨gD,oD,none⟩) n vs:=⟨hrow.length,hrow.small,fun h0=>by
  obtain⟨b,o,e,_,hb',hc'⟩:=hrow.at_ h0
  simp only[Option.some.injEq,Addr.mk.injEq,and_true]at e
  obtain⟨rfl,rfl⟩:=e
  exact⟨_,_,rfl,rfl,hb',hc'⟩⟩
 have hDn:=hD
 have hK2:Keeps (fun x=>x=r) w w2:=hK.trans (Keeps.below hb) (fun x hx hf=>by omega)
 refine⟨gN,oN,cN,gD,oD,c,vs,⟨hK2.trans (Keeps.iG _ _ _) fun x _ hx=>hx,hr,?_,h3,by rw[hDn];exact hcc,?_,?_,?_,?_,⟨Xg,by rw[size_set];omega⟩,⟨by omega,by rw[size_set];exact hbD⟩,by omega,?_⟩⟩
 ·rw[bX ((hb.block r (by omega)).trans h2),hDn]
  rfl
 ·exact(hrN.below hb (Nat.le_refl _)).apart ⟨r,1,none⟩ _ fun b hb'=>by subst hb';exact Xh
 ·exact(h5.kept fun g off e=>by
   simp only[Option.some.injEq,Addr.mk.injEq,and_true]at e
   obtain⟨rfl,_⟩:=e
   exact hb.block _ hbN).iG _ _ rfl
 ·rw[hDn]
  exact hrD.apart ⟨r,1,none⟩ _ fun b hb'=>by subst hb';exact Xi
 ·exact hp.iG _ _ rfl
 ·refine he.move (by rw[size_set];omega) fun b hb' hbw=>⟨.inl ⟨hb'.1,hbw,hb'.2⟩,?_⟩
  rw[bI _ _ _ _ hb'.2]
  exact hK2.block b hbw hb'.2
theorem JY {F:Nat→Prop} {w w2 u:World} {r gN oN cN gD oD cD k c n m:Nat} {x2:Value} {T:aF} {D:List (List UInt8)} {vs:List Value} {a:Option Addr} {nb:List UInt8} {ys:List Value} (h:zl F w r x2 T D gN oN cN gD oD cD vs w2) (hk:k<D.length) (hb:Below w2.heap.size w2 u)
  (hown:u.ownsRow w2.heap.size 5 1 (.slice a m c) m ys) (hys:ys=nb.map bv∧m=nb.length∧n=m) (hmx:m*1≤maxLen):xJ F w r x2 T (D.set k nb) (u.setCell ⟨gD,oD+k,none⟩ (.slice a n c)):=by
 obtain⟨rfl,rfl,rfl⟩:=hys
 have hs:=hb.size
 have hs0:=h.keeps.size
 have Xj:=h.UF
 have hnD:=h.R4
 have hne:=h.ne
 have UG:=h.Zk
 obtain⟨a',c',e,hlc,hcm⟩:=Aw hown
 simp only[Value.slice.injEq,true_and]at e
 obtain⟨rfl,rfl⟩:=e
 obtain⟨-,-,-,hrow⟩:=aj.uL hown hmx
 rw[Nat.mul_one]at hrow
 have hK2:Keeps (fun x=>x=r) w u:=h.keeps.trans (Keeps.below hb) (fun x hx hf=>by omega)
 have hK3:Keeps (fun x=>x=r) w (u.setCell ⟨gD,oD+k,none⟩ (.slice a nb.length c)):=hK2.trans (fp':=fun x=>x=gD) (Keeps.iG u ⟨gD,oD+k,none⟩ _) (fun x hx hf=>by omega)
 refine⟨gN,oN,cN,gD,oD,cD,vs.set k (.slice a nb.length c),⟨hK3,UG,?_,h.UD,by rw[List.length_set];exact h.UE,?_,?_,?_,?_,⟨Xj.1,by rw[size_set];omega⟩,⟨hnD.1,by rw[size_set];omega⟩,hne,?_⟩⟩
 ·rw[bI _ _ _ _ (show r≠gD by omega),List.length_set]
  exact(hb.block r (by omega)).trans h.head
 ·exact(h.R3.below hb (Nat.le_refl _)).apart ⟨gD,oD+k,none⟩ _ fun b hb'=>by subst hb';exact hne
 ·exact(h.Zl.kept fun g off e=>by
   simp only[Option.some.injEq,Addr.mk.injEq,and_true]at e
   obtain⟨rfl,_⟩:=e
   exact hb.block _ Xj.2).iG _ _ rfl
 ·have:=(h.Pm.below hb (Nat.le_refl _)).iG (j:=k) hk (.slice a nb.length c)
  rw[List.length_set]
  exact this
 ·exact(h.Zm.kept fun g off e=>by
   simp only[Option.some.injEq,Addr.mk.injEq,and_true]at e
   obtain⟨rfl,_⟩:=e
   exact hb.block _ hnD.2).iG _ _ rfl
 ·have hvl:vs.length=D.length:=h.Pm.length
  intro i b hbi
  by_cases hik:i=k
  ·subst hik
   rw[List.getElem?_set_self hk]at hbi
   cases hbi
   refine⟨a,c,List.getElem?_set_self (by omega),⟨hlc,hcm⟩,?_⟩
   exact hrow.move (by rw[size_set];exact Nat.le_refl _) fun b hb1 hb2=>⟨.inr ⟨by omega,by rw[size_set];exact hb2,by omega,by omega⟩,bI _ _ _ _ (show b≠gD by omega)⟩
  ·rw[List.getElem?_set_ne (Ne.symm hik)]at hbi⊢
   obtain⟨a2,c2,e1,e2,e3⟩:=h.each i b hbi
   refine⟨a2,c2,e1,e2,e3.move (by rw[size_set];omega) fun b hb1 hb2=>⟨?_,?_⟩⟩
   ·rcases hb1 with hb1|hb1
    ·exact .inl hb1
    ·exact .inr ⟨hb1.1,by rw[size_set];omega,hb1.2.2⟩
   ·have:b≠gD:=by rcases hb1 with hb1|hb1<;>omega
    rw[bI _ _ _ _ this]
    exact hb.block b hb2
theorem MO {F:Nat→Prop} {w w3:World} {r gN oN cN gD oD cD k:Nat} {x0 x1 x2:Value} {T:aF} {D0 D:List (List UInt8)} {E:List iM} {vs:List Value} {q q':Int×bA} {v3:Value} (hR:fQ F w r T D0 E) (h1:w.heap[r]? =some (.cells #[x0,x1,x2] 97 (0,0))) (h:zl F w r x2 T D gN oN cN gD oD cD vs w3) (hq:T[k]? =some q) (hv:dx q'=(dx q).set 3 v3) (v:Value):
  dB F w r (T.set k q') D E v (.returned v) (w3.setCell ⟨gN,oN+(k*6+3),none⟩ v3):=by
 have Xj:=h.UF
 have hnD:=h.R4
 have hne:=h.ne
 have UG:=h.Zk
 have hkl:k<T.length:=(List.getElem?_eq_some_iff.1 hq).1
 obtain⟨aN,WY,aD,cD',aE,cE,g1,-,g3,g4,-,g9,g10,g11⟩:=hR.head
 rw[h1]at g1
 simp only[Option.some.injEq,Obj.cells.injEq,Array.mk.injEq,List.cons.injEq,and_true,true_and]at g1
 obtain⟨-,-,rfl⟩:=g1
 have hK3:Keeps (fun x=>x=r) w (w3.setCell ⟨gN,oN+(k*6+3),none⟩ v3):=h.keeps.trans (fp':=fun x=>x=gN) (Keeps.iG w3 ⟨gN,oN+(k*6+3),none⟩ _) (fun x hx hf=>by omega)
 refine⟨rfl,hK3,hR.turn (aN:=some ⟨gN,oN,none⟩) (aD:=some ⟨gD,oD,none⟩) (cN:=cN) (cD:=cD) hK3 ?_ (by rw[List.length_set];exact h.UD) h.UE g4 ?_ ⟨vs,?_,?_⟩ (pE hK3 g10) g11⟩
 ·rw[bI _ _ _ _ (show r≠gN by omega),List.length_set]
  exact h.head
 ·have:=h.R3.iG (j:=k*6+3) (by omega) v3
  rw[vU dx 6 fu (by omega) hv T k hq]at this
  rw[List.length_set]
  exact this.mono fun b hb=>⟨.inr ⟨by omega,by rw[size_set];omega⟩,by omega⟩
 ·exact(h.Pm.apart ⟨gN,oN+(k*6+3),none⟩ v3 fun b hb=>by subst hb;exact Ne.symm hne).mono fun b hb=>⟨.inr ⟨by omega,by rw[size_set];omega⟩,by omega⟩
 ·refine h.each.move (by rw[size_set];exact Nat.le_refl _) fun b hb1 hb2=>⟨⟨?_,?_⟩,?_⟩
  ·rcases hb1 with hb1|hb1
   ·exact .inl hb1.1
   ·exact .inr ⟨hb1.1,by rw[size_set];exact hb1.2.1⟩
  ·rcases hb1 with hb1|hb1
   ·exact hb1.2.2
   ·omega
  ·exact bI _ _ _ _ (show b≠gN by rcases hb1 with hb1|hb1<;>omega)
theorem zl.facts {F:Nat→Prop} {w wx:World} {r gN oN cN gD oD cD k:Nat} {x2:Value} {T:aF} {D:List (List UInt8)} {vs:List Value} (h:zl F w r x2 T D gN oN cN gD oD cD vs wx) {d:List UInt8} (hd:D[k]? =some d):∃a c,wx.cell? ⟨r,0,none⟩=some (.slice (some ⟨gN,oN,none⟩) T.length cN)∧wx.cell? ⟨r,1,none⟩=some (.slice (some ⟨gD,oD,none⟩) D.length cD)∧wx.cell? ⟨gD,oD+k,none⟩=some (.slice a d.length c)∧lu d.length c∧aj (fun b=>(F b∧b<w.heap.size∧b≠r)∨(w.heap.size≤b∧b<wx.heap.size∧b≠gN∧b≠gD)) wx a d.length (d.map bv):=by
 obtain⟨a,c,e1,e2,e3⟩:=h.each k d hd
 have hk:k<D.length:=(List.getElem?_eq_some_iff.1 hd).1
 obtain⟨p0,p1,-,-⟩:=gF h.head
 obtain⟨b,o,e,-,hb,hc⟩:=h.Pm.at_ (by omega)
 simp only[Option.some.injEq,Addr.mk.injEq,and_true]at e
 obtain⟨rfl,rfl⟩:=e
 exact⟨a,c,p0,p1,(hc k hk).trans e1,e2,e3⟩
section
variable {F:Nat→Prop} {r:Nat} {T:aF}
theorem R5:(Tryz.prog.info? 5).map (fun i=>(i.zero,i.size,i.bytes))=some (some (.int .u8 0),1,1):=by kernel_rfl
set_option maxRecDepth 100000 in
set_option maxHeartbeats 16000000 in
theorem Ew {S:Nat→Prop} (id:Int) (ab:Option Addr) (nb cb:Nat) (bs:List UInt8) (w:World) (h:gW F w r T) (hT:fB T) (hbs:aj S w ab nb (bs.map bv)) (hSr:∀b,S b→b≠r) (hnb:nb≤1000000):
  Calls Tryz.prog 30 #[ptr r, .int .i64 id, .slice ab nb cb] w (bH F w r (dw T id bs).2 (.int .i64 (dw T id bs).1)):=by
 have hbl:bs.length=nb:=by have:=hbs.length;simpa using this
 have HF:=Lib.hid (oo id w h hT.torz)
 have hr0:=h.low r h.own
 have HH:=Lib.hid h
 by_cases h0:bM T id=0
 ·obtain⟨x,hx,hk⟩:∃x,ah id T=some x∧x.kind≠2:=by
   unfold bM at h0
   cases hx:ah id T with
   |none=>rw[hx]at h0;cases h0
   |some x=>
    rw[hx]at h0
    exact⟨x,rfl,fun hk=>by simp[hk]at h0⟩
  obtain⟨k,hi,hq⟩:=jr hT.sorted hx
  have hrf:Ec T id=k:=by unfold Ec;rw[if_pos h0];exact hi
  rw[hrf,h0]at HF
  obtain⟨bN,oN,cN,hc0,hO,hbw,hkl,c0,c1,c2,c3,c4,c5⟩:=h.node hq
  simp only at c0 c1 c2 c3 c4 c5
  have i0:(0:Int)≤k:=by omega
  have hlen:=hT.len
  have Bq:=Lib.hid hq
  have HS:=Lib.hid hT.sorted
  obtain⟨i6,a6,b6,s6,d6⟩:=info_parts nodeInfo
  have jh:=Lib.hid (And.intro a6 (And.intro b6 (And.intro s6 d6)))
  obtain⟨aN,WY,aD,cD,aE,cE,h1,h2,h3,h4,h8,h9,h10,h11⟩:=h.head
  obtain⟨p0,p1,p2,pf⟩:=gF h1
  rw[p0]at hc0
  simp only[Option.some.injEq,Value.slice.injEq,true_and]at hc0
  obtain⟨rfl,rfl⟩:=hc0
  have vW:=Lib.hid h1
  have VU:=Lib.hid hbs
  have JG:=Lib.hid h8
  obtain⟨n,hn⟩:∃n,n=T.length:=⟨_,rfl⟩
  rw[←hn]at p0 hlen hkl h2 JG
  have iE:=Lib.hid hn
  have hf0:=pf 0
  have hfp:=hO.2
  have i1:(k:Int)<n:=by omega
  have hrw:=hr0
  have hsz:=(hT.each id x hx).size
  have Xk:=Lib.hid h.low
  obtain⟨vs,hv,Ev⟩:=h9
  have vV:=Lib.hid (hT.each id x hx)
  have HX:=Lib.hid hx
  have hkx:=hk
  clear a6 b6 s6 d6 h1 h8 h10 h11 hi hrf h hq hn p1 p2 pf hO hT h0 hbs
  have he:jF T id bs=if x.closed then 27 else if 4096<x.b.length+bs.length then 15 else 0:=by
   unfold jF
   rw[hx]
   simp only[if_neg hk]
  rw[hbl]at he
  obtain⟨l,hl⟩:∃l,l=x.b.length:=⟨_,rfl⟩
  rw[←hl]at he hsz c3
  have Hy:=Lib.hid hbl
  have CW:=Lib.hid hl
  have HV:=Lib.hid hv
  have QH:Hid (Each (Off F r) w vs (T.map fun q=>q.2.b)):=Ev
  have Rv:=Lib.hid hv.length
  have HSD:=Lib.hid hSr
  clear hx hk hl hv Ev hbl hSr
  cases hcl:x.closed with
  |true=>
   rw[hcl]at c5
   have HQ:=Lib.hid (qR (he.trans (if_pos hcl)) (by omega))
   clear hcl he
   go_enter Tryz.func30,Tryz.ntmps30
   go_wp2_with fail
   (with_reducible refine HF.out.mono ?_)
   rintro e w1 ⟨rfl,rfl⟩
   go_wp2_with fail
   go_ret
   exact bH.no HH.out (Below.refl _ _) HQ.out
  |false=>
   rw[hcl]at c5
   rw[if_neg (by rw[hcl];decide)]at he
   have e1:IntKind.i64.wrap (4096-(l:Int))=4096-(l:Int):=IntWalk.i64_in _ (by omega)
   by_cases h6:4096<l+nb
   ·have HQ:=Lib.hid (qR (he.trans (if_pos h6)) (by omega))
    have hd6:decide ((4096:Int)-(l:Int)<(nb:Int))=true:=by simp;omega
    clear hcl he
    go_enter Tryz.func30,Tryz.ntmps30
    go_wp2_with fail
    (with_reducible refine HF.out.mono ?_)
    rintro e w1 ⟨rfl,rfl⟩
    go_wp2_with fail
    go_ret
    exact bH.no HH.out (Below.refl _ _) HQ.out
   ·have hd6:decide ((4096:Int)-(l:Int)<(nb:Int))=false:=by simp;omega
    have HQ:Hid (dw T id bs=(0,aX id (fun x=>{x with b:=x.b++bs}) T)):=by
     show dw T id bs=_
     unfold dw
     rw[he,if_neg h6]
     rfl
    clear hcl he
    go_enter Tryz.func30,Tryz.ntmps30
    go_wp2_with fail
    (with_reducible refine HF.out.mono ?_)
    rintro e w1 ⟨rfl,rfl⟩
    go_upto_region 8 with(fail)
    go_cut [] (fun wx=>bP w r (.slice aD (List.map (fun q:Int×bA=>q.2.b) T).length cD) (.slice aE (aU T).length cE) T wx)
    case first=>
     go_wp2_with ((at_builtin;refine fA rfl _ _ 94 rfl w.heap.size 101 _ _ 6 48 Tryz.underlying94 jh.out.1 jh.out.2.1 jh.out.2.2.1 jh.out.2.2.2 rfl (by omega) _ 0 [] rfl (eH (MapKept.heap_alloc w _).1 (Nat.le_refl _)) _ n _ (T.flatMap dx) rfl (JG.out.below ((Below.refl _ _).alloc (Nat.le_refl _) _) (Nat.le_refl _)) (f_ _) (by unfold maxLen;omega) (by omega) (by simp) ?_;intro A1 c1' w1 hown1 hb1;have hB1:=((Below.refl w.heap.size w).alloc (Nat.le_refl _) _).trans hb1;have hf1:w1.frozen? ⟨r,0,none⟩=false:=(hB1.frozen (p:=⟨r,0,none⟩) hrw).trans hf0;have Pf:=(hB1.cell (p:=⟨r,0,none⟩) hrw).trans p0))
     go_meet
     obtain⟨-,hcc,-,hrow2⟩:=mh (w:=w) hown1 (by unfold maxLen;omega) (Nat.le_refl _)
     have hn:=iE.out
     rw[List.nil_append,Nat.zero_add,hn]at hrow2
     rw[Nat.zero_add,hn]at hcc
     have:=bP.RH hrw vW.out hB1 hcc hrow2 (jR hown1)
     rw[←hn]at this
     exact this
    case rest=>
     obtain⟨w1,rfl⟩:∃w1:World,w1=wc:=⟨_,rfl⟩
     have UH:0<n:=by omega
     have zS:Hid ((List.map (fun q:Int×bA=>q.2.b) T).length=n):=by
      show _=_
      rw[List.length_map];exact iE.out.symm
     obtain⟨g,off,c,q0,s1,-,hlc,qf,hgr,hg1,hg2,hr1,gf,d0,d1,d2,d3,d4,d5⟩:=hcut.facts Bq.out
     rw[zS.out]at s1
     have Zn:=qf 1
     have HV1:Hid (aj (Off (Grow F w w1) r) w1 aD (n*1) vs):=by
      have:=pE hcut.1 HV.out
      rw[zS.out]at this
      rw[Nat.mul_one]
      exact this
     have HVO:Hid (∀u∈vs,u.oneCell'=true):=Each.one QH.out Rv.out
     obtain⟨i1,a1,b1,u1,t1⟩:=info_parts yT
     have HI1:=Lib.hid (And.intro a1 (And.intro b1 (And.intro u1 t1)))
     have HM:=Lib.hid hcut
     clear hcut qf gf hlc q0 d0 d1 d2 d3 d4 d5 hgr hg1 hg2 a1 b1 u1 t1
     go_upto_region 9 with(fail)
     go_cut [] (fun wx=>xJ F w r (.slice aE (aU T).length cE) T (List.map (fun q:Int×bA=>q.2.b) T) wx)
     case first=>
      go_wp2_with ((at_builtin;refine fA rfl _ _ 45 rfl w1.heap.size 23 _ _ 1 24 Tryz.underlying45 HI1.out.1 HI1.out.2.1 HI1.out.2.2.1 HI1.out.2.2.2 rfl (by omega) _ 0 [] rfl (eH (MapKept.heap_alloc w1 _).1 (Nat.le_refl _)) _ n _ vs rfl (HV1.out.below ((Below.refl _ _).alloc (Nat.le_refl _) _) (Nat.le_refl _)) HVO.out (by unfold maxLen;omega) (by omega) (by simp) ?_;intro A1 c1' w2 hown1 hb1;have hB1:=((Below.refl w1.heap.size w1).alloc (Nat.le_refl _) _).trans hb1;have hf1:w2.frozen? ⟨r,1,none⟩=false:=(hB1.frozen (p:=⟨r,1,none⟩) hr1).trans Zn;have Pf:=(hB1.cell (p:=⟨r,1,none⟩) hr1).trans s1))
      go_meet
      exact Pn HM.out (by have:=iE.out;omega) UH zS.out hB1 hown1 (by unfold maxLen;omega) QH.out Xk.out
     case rest=>
      obtain⟨w2,rfl⟩:∃w2:World,w2=wc:=⟨_,rfl⟩
      clear s1 Zn
      obtain⟨gN,oN,cN2,gD,oD,Zo,vs2,Fe⟩:=hcut
      obtain⟨ax,cx,t0,t1,t2,t3,t4⟩:=Fe.facts (k:=k) (d:=x.b) (by rw[List.getElem?_map,Bq.out];rfl)
      rw[zS.out]at t1
      rw[←CW.out]at t2 t4
      have hs2:=Fe.keeps.size
      have hr2:r<w2.heap.size:=by omega
      have Xl:=Fe.R4.2
      have Zp:=Fe.Zm.frozen (oD+k)
      have Io:=Lib.hid Fe
      have HXB:=Lib.hid t4
      have HB2:Hid (aj S w2 ab nb (bs.map bv)):=VU.out.kept hs2 fun b hb hbw=>Fe.keeps.block b hbw (HSD.out b hb)
      have KO:Hid (∀w4,Below w2.heap.size w2 w4→w4.cell? ⟨r,1,none⟩=some (.slice (some ⟨gD,oD,none⟩) n Zo)∧w4.cell? ⟨gD,oD+k,none⟩=some (.slice ax l cx)∧w4.frozen? ⟨gD,oD+k,none⟩=false):=fun w4 hb=>⟨by rw[hb.cell (p:=⟨r,1,none⟩) hr2];exact t1,by rw[hb.cell (p:=⟨gD,oD+k,none⟩) Xl];exact t2,by rw[hb.frozen (p:=⟨gD,oD+k,none⟩) Xl];exact Zp⟩
      have Zq:Hid (∀w4,Below w2.heap.size w2 w4→aj (fun b=>(F b∧b<w.heap.size∧b≠r)∨(w.heap.size≤b∧b<w2.heap.size∧b≠gN∧b≠gD)) w4 ax (l*1) (x.b.map bv)∧aj S w4 ab (nb*1) (bs.map bv)):=fun w4 hb=>by
       rw[Nat.mul_one,Nat.mul_one]
       exact⟨t4.below hb (Nat.le_refl _),HB2.out.below hb (Nat.le_refl _)⟩
      obtain⟨i8,a8,b8,u8,t8⟩:=info_parts R5
      have MP:=Lib.hid (And.intro a8 (And.intro b8 (And.intro u8 t8)))
      clear Fe t0 t3 t4 a8 b8 u8 t8
      go_upto_region 10 with(fail)
      go_cut [] (fun wx=>xJ F w r (.slice aE (aU T).length cE) T ((List.map (fun q:Int×bA=>q.2.b) T).set k (x.b++bs)) wx)
      case first=>
       go_wp2
       refine KN 17 ((fun w'=>w'.cell? ⟨r,1,none⟩=some (.slice (some ⟨gD,oD,none⟩) n Zo)∧w'.cell? ⟨gD,oD+k,none⟩=some (.slice ax l cx)∧w'.frozen? ⟨gD,oD+k,none⟩=false)) ?_ fun hS=> ?_
       ·exact KO.out _ (Below.refl _ _).drew
       refine bU 0 hS ?_
       refine bU 1 hS ?_
       refine bU 2 hS ?_
       refine bU 3 hS ?_
       refine bU 4 hS ?_
       refine bU 6 hS ?_
       refine bU 7 hS ?_
       refine bU 8 hS ?_
       refine bU 9 hS ?_
       refine bU 10 hS ?_
       refine bU 11 hS ?_
       refine bU 12 hS ?_
       refine bU 14 hS ?_
       refine iO 5 fun K hK=> ?_
       go_simp
       refine iX hK (KO.out _ ((Below.refl _ _).drew.alloc (Nat.le_refl _) _)) fun hS=> ?_
       clear hK K
       refine iO 13 fun K hK=> ?_
       refine av (by rfl) (.tmp 61) (.tmp 68) 23 (by rfl) w2.heap.size 5 _ _ 1 1 Tryz.underlying23 MP.out.1 MP.out.2.1 MP.out.2.2.1 MP.out.2.2.2 rfl (by omega) _ 0 [] (by rfl) (eH (MapKept.heap_alloc w2.drew _).1 (Nat.le_refl _)) _ l _ (x.b.map bv) (by rfl) (Zq.out _ ((Below.refl _ _).drew.alloc (Nat.le_refl _) _)).1 (fq _) (by unfold maxLen;omega) (by omega) (by simp<;>omega) ?_
       intro A1 c1z u1 hown1 hb1
       have hB1:Below w2.heap.size w2 u1:=((Below.refl _ _).drew.alloc (Nat.le_refl _) _).trans hb1
       refine iX hK (KO.out _ hB1) fun hS=> ?_
       clear hK K
       refine iO 15 fun K hK=> ?_
       refine av (by rfl) (.tmp 69) (.tmp 70) 23 (by rfl) w2.heap.size 5 _ _ 1 1 Tryz.underlying23 MP.out.1 MP.out.2.1 MP.out.2.2.1 MP.out.2.2.2 rfl (by omega) _ _ _ (by rfl) hown1 _ nb _ (bs.map bv) (by rfl) (Zq.out _ hB1).2 (fq _) (by unfold maxLen;omega) (by omega) hB1.size ?_
       intro A2 Zi u2 hown2 hb2
       have hB2:Below w2.heap.size w2 u2:=hB1.trans hb2
       refine iX hK (KO.out _ hB2) fun hS=> ?_
       clear hK K
       refine bU 16 hS ?_
       refine iO 17 fun K hK=> ?_
       go_simp
       refine Bl hK ?_
       clear hS hK K
       go_wp2_with fail
       go_meet
       exact JY Io.out (by have:=zS.out;omega) hB2 hown2 ⟨by simp,by rw[List.length_append,Hy.out,←CW.out];omega,by omega⟩ (by unfold maxLen;omega)
      case rest=>
       obtain⟨w3,rfl⟩:∃w3:World,w3=wc:=⟨_,rfl⟩
       clear t1 t2 Zp Xl hr2
       obtain⟨gN,oN,cN3,gD,oD,cD3,vs3,UJ⟩:=hcut
       obtain⟨ay,cy,t0,t1,t2,-,-⟩:=UJ.facts (k:=k) (d:=x.b++bs) (List.getElem?_set_self (by have:=zS.out;omega))
       rw[←iE.out]at t0
       rw[List.length_set,zS.out]at t1
       rw[List.length_append,Hy.out,←CW.out]at t2
       obtain⟨b',o',e',-,-,-,Fg⟩:=UJ.R3.wide fu rfl Bq.out (by omega)
       simp only[Option.some.injEq,Addr.mk.injEq,and_true]at e'
       obtain⟨rfl,rfl⟩:=e'
       have t3:w3.cell? ⟨gN,oN+k*6+3,none⟩=some (.int .i64 (x.b.length:Nat)):=Fg 3 (by omega)
       have t4:=UJ.Zl.frozen (oN+k*6+3)
       have zT:=Lib.hid UJ
       have HT0:=Lib.hid t0
       clear UJ Fg
       go_wp2
       refine KN 15 ((fun w'=>w'.cell? ⟨r,0,none⟩=some (.slice (some ⟨gN,oN,none⟩) n cN3)∧w'.cell? ⟨r,1,none⟩=some (.slice (some ⟨gD,oD,none⟩) n cD3)∧w'.cell? ⟨gD,oD+k,none⟩=some (.slice ay (l+nb) cy)∧w'.cell? ⟨gN,oN+k*6+3,none⟩=some (.int .i64 (x.b.length:Nat))∧w'.frozen? ⟨gN,oN+k*6+3,none⟩=false)) ?_ fun hS=> ?_
       ·exact⟨t0,t1,t2,t3,t4⟩
       refine bU 0 hS ?_
       refine bU 1 hS ?_
       refine bU 2 hS ?_
       refine bU 3 hS ?_
       refine bU 4 hS ?_
       refine bU 5 hS ?_
       refine bU 6 hS ?_
       refine bU 7 hS ?_
       refine bU 8 hS ?_
       refine bU 9 hS ?_
       refine bU 10 hS ?_
       refine bU 11 hS ?_
       refine bU 12 hS ?_
       refine bU 13 hS ?_
       refine bU 14 hS ?_
       refine iO 15 fun K hK=> ?_
       go_simp
       refine Bl hK ?_
       clear hS hK K
       go_wp2_with fail
       go_ret
       rw[HQ.out]
       have h7:=MO HH.out vW.out zT.out Bq.out (q':=(id,{x with b:=x.b++bs})) (v3:= .int .i64 ((l+nb:Nat):Int)) (by
        show _=_
        have e9:(x.b++bs).length=l+nb:=by rw[List.length_append,Hy.out,←CW.out]
        unfold dx
        simp only[e9]
        rfl) (.int .i64 0)
       rw[←Nat.add_assoc]at h7
       have h8:=mg (f:=fun x:bA=>{x with b:=x.b++bs}) HS.out Bq.out
       have h9:=data_set (f:=fun x:bA=>{x with b:=x.b++bs}) HS.out Bq.out
       simp only at h8 h9
       rw[h8,←h9]at h7
       have h10:=h7.then_ HH.out.low (Below.refl _ _).drew
       refine⟨h10.1,h10.2.1,?_⟩
       rw[kN (fun _=>by exact rfl)]
       exact h10.2.2
 ·have HQ:=Lib.hid (qR (T:=T) (id:=id) (bs:=bs) (v:=bM T id) (by
   unfold jF bM at*
   cases hx:ah id T with
   |none=>rfl
   |some x=>
    rw[hx]at h0
    by_cases hk:x.kind=2
    ·simp[hk]
    ·exact absurd (by simp[hk]) h0) h0)
  generalize bM T id=f at*
  have hne:(f==0)=false:=by simpa using h0
  have hne2:(f !=0)=true:=by simpa using h0
  clear h hT h0 hbs hbl hSr
  go_enter Tryz.func30,Tryz.ntmps30
  go_wp2_with fail
  (with_reducible refine HF.out.mono ?_)
  rintro e w1 ⟨rfl,rfl⟩
  go_wp2_with fail
  go_ret
  exact bH.no HH.out (Below.refl _ _) HQ.out
end
def Short (T:aF):Prop:=∀q∈T,∀e∈q.2.names,e.1.length≤1
theorem Short.aX {T:aF} (h:Short T) (k:Int) {f:bA→bA} (hf:∀x:bA,(∀e∈x.names,e.1.length≤1)→∀e∈(f x).names,e.1.length≤1):Short (Go.Proofs.YtjnhnlabpccgjaaGreat.aX k f T):=fun q hq=>by
 rcases uN hq with h1|⟨p,hp,_,rfl⟩
 ·exact h q h1
 ·exact hf p.2 (h p hp)
theorem Short.same {T:aF} (h:Short T) (k:Int) {f:bA→bA} (hf:∀x,(f x).names=x.names):Short (Go.Proofs.YtjnhnlabpccgjaaGreat.aX k f T):=h.aX k fun x hx=>by rw[hf];exact hx
theorem Short.set {T:aF} (h:Short T) (d:Int) {n:Nm} (hn:n.length≤1) (id:Int):Short (setName T d n id):=h.aX d fun x hx=>Aq (P:=fun e=>e.1.length≤1) hx hn
theorem Short.cut {T:aF} (h:Short T) (d:Int) (n:Nm):Short (ak T d n):=h.aX d fun x hx e he=>hx e (List.mem_filter.1 he).1
theorem Short.del {T:aF} (h:Short T) (k:Int):Short (bB k T):=fun q hq=>h q (List.mem_filter.1 hq).1
theorem Short.add {T:aF} (h:Short T) (f kind:Int):Short (bZ gH f (bS kind) T):=fun q hq=>by
 rcases (kZ gH).1 hq with rfl|h1
 ·intro e he;cases he
 ·exact h q (List.mem_filter.1 h1).1
theorem Short.settle {T:aF} (h:Short T) (k:Int):Short (eG T k):=by
 unfold eG
 cases ah k T with
 |none=>exact h
 |some x=>
  simp only
  split
  ·exact h.del k
  ·exact h
theorem qU (T:aF) {p:List Nm} (hp:∀n∈p,n.length≤1):(aC T p).2.1.length≤1:=by
 have hl:(p.getLastD []).length≤1:=by
  rw[List.getLastD_eq_getLast?]
  cases h:p.getLast? with
  |none=>simp
  |some n=>exact hp n (List.mem_of_getLast? h)
 unfold aC
 split
 ·simp
 ·split
  ·simp
  ·split
   ·exact hl
   ·simp
def rU (T:aF):Prop:=gI T∧Short T
theorem rU.dQ {T:aF} (h:rU T) {p:List Nm} (hp:∀n∈p,n.length≤1) (kind:Int):rU (Go.Proofs.YtjnhnlabpccgjaaGreat.dQ T p kind).2:=by
 refine⟨h.1.dQ _ _,?_⟩
 unfold Go.Proofs.YtjnhnlabpccgjaaGreat.dQ
 split
 ·exact(h.2.add _ _).set _ (qU T hp) _
 ·exact h.2
theorem rU.dW {T:aF} (h:rU T) (p:List Nm) {q:List Nm} (hq:∀n∈q,n.length≤1):rU (Go.Proofs.YtjnhnlabpccgjaaGreat.dW T p q).2:=by
 refine⟨h.1.dW _ _,?_⟩
 unfold Go.Proofs.YtjnhnlabpccgjaaGreat.dW
 simp only
 split
 ·exact(h.2.set _ (qU T hq) _).same _ (fun _=>by exact rfl)
 ·exact h.2
theorem rU.b_ {T:aF} (h:rU T) (p:List Nm):rU (Go.Proofs.YtjnhnlabpccgjaaGreat.b_ T p).2:=by
 refine⟨h.1.b_ _,?_⟩
 unfold Go.Proofs.YtjnhnlabpccgjaaGreat.b_
 simp only
 split
 ·exact(((h.2.cut _ _).same _ (f:=fun x=>{x with links:=x.links-1}) (fun _=>by exact rfl))).settle _
 ·exact h.2
theorem rU.dF {T:aF} (h:rU T) (p:List Nm):rU (Go.Proofs.YtjnhnlabpccgjaaGreat.dF T p).2:=by
 refine⟨h.1.dF _,?_⟩
 unfold Go.Proofs.YtjnhnlabpccgjaaGreat.dF
 simp only
 split
 ·exact(h.2.cut _ _).del _
 ·exact h.2
theorem rU.bg {T:aF} (h:rU T) (p:List Nm) {q:List Nm} (hq:∀n∈q,n.length≤1):rU (Go.Proofs.YtjnhnlabpccgjaaGreat.bg T p q).2:=by
 refine⟨h.1.bg _ _,?_⟩
 unfold Go.Proofs.YtjnhnlabpccgjaaGreat.bg
 simp only
 split
 ·exact(h.2.cut _ _).set _ (qU T hq) _
 ·exact h.2
theorem rU.dw {T:aF} (h:rU T) (id:Int) (b:List UInt8):rU (Go.Proofs.YtjnhnlabpccgjaaGreat.dw T id b).2:=by
 refine⟨h.1.dw _ _,?_⟩
 unfold Go.Proofs.YtjnhnlabpccgjaaGreat.dw
 simp only
 split
 ·exact h.2.same _ (fun _=>by exact rfl)
 ·exact h.2
theorem rU.fU {T:aF} (h:rU T) (id aO:Int) (h0:0≤aO):rU (Go.Proofs.YtjnhnlabpccgjaaGreat.fU T id aO).2:=by
 refine⟨h.1.fU _ _ h0,?_⟩
 unfold Go.Proofs.YtjnhnlabpccgjaaGreat.fU
 simp only
 split
 ·exact(h.2.same _ (f:=fun x=>{x with closed:=true,aO:=aO}) (fun _=>by exact rfl)).settle _
 ·exact h.2
theorem rU.fG {T:aF} (h:rU T) (id aO:Int) (h0:0≤aO):rU (Go.Proofs.YtjnhnlabpccgjaaGreat.fG T id aO).2:=by
 refine⟨h.1.fG _ _ h0,?_⟩
 unfold Go.Proofs.YtjnhnlabpccgjaaGreat.fG
 simp only
 split
 ·exact h.2.same _ (fun _=>by exact rfl)
 ·exact h.2
theorem rU.eD {T:aF} (h:rU T) (id:Int):rU (Go.Proofs.YtjnhnlabpccgjaaGreat.eD T id).2:=by
 refine⟨h.1.eD _,?_⟩
 unfold Go.Proofs.YtjnhnlabpccgjaaGreat.eD
 simp only
 split
 ·rw[nY]
  refine Short.del (fun q hq e he=> ?_) _
  unfold dV at hq
  obtain⟨p,hp,rfl⟩:=List.mem_map.1 hq
  exact h.2 p hp e (List.mem_filter.1 he).1
 ·exact h.2
theorem rU.new:rU nM:=⟨gI.new,fun q hq e he=>by
 unfold nM at hq
 simp only[List.mem_singleton]at hq
 subst hq
 cases he⟩
structure iR (W:World) (Q P F:Nat→Prop) (w:World) (t r:Nat) (T:aF):Prop where
 tree:cO W P w t T
 ref:gW F w r T
 Po:∀x,F x→P x∧W.heap.size≤x
 N8:∀x,Q x→P x∧¬F x
 okay:rU T
def Ey (W:World) (Q:Nat→Prop) (w:World) (t r:Nat) (T:aF):Prop:=∃P F,iR W Q P F w t r T
section
variable {W w w1 w2:World} {Q P F:Nat→Prop} {t r:Nat} {T T':aF}
theorem iR.below (h:iR W Q P F w t r T) (hb:Below w.heap.size w w1):iR W Q P F w1 t r T:=⟨h.tree.grow hb,h.ref.below hb (Nat.le_refl _),h.Po,h.N8,h.okay⟩
theorem iR.B_ (h:iR W Q P F w t r T) (hb:Below w.heap.size w w1):iR W (fun x=>Q x∨(w.heap.size≤x∧x<w1.heap.size)) (fun x=>P x∨(w.heap.size≤x∧x<w1.heap.size)) F w1 t r T:=by
 refine⟨h.tree.B_ hb,h.ref.below hb (Nat.le_refl _),fun x hx=>⟨.inl (h.Po x hx).1,(h.Po x hx).2⟩,fun x hx=> ?_,h.okay⟩
 rcases hx with hx|hx
 ·exact⟨.inl (h.N8 x hx).1,(h.N8 x hx).2⟩
 ·exact⟨.inr hx,fun hf=>by have:=h.ref.low x hf;omega⟩
theorem iR.mono {Q':Nat→Prop} (h:iR W Q P F w t r T) (hq:∀x,Q' x→Q x):iR W Q' P F w t r T:=⟨h.tree,h.ref,h.Po,fun x hx=>h.N8 x (hq x hx),h.okay⟩
theorem iR.mid {v:Value} {e:Ending} (h:iR W Q P F w t r T) (h1:dR W P w t T' v e w1):gW F w1 r T:=
 h.ref.keeps h1.2.2 fun b hb hw=>hw.2 (h.Po b hb).1
theorem cO.over (h:cO W P w1 t T') (hK:Keeps (fun x=>x=r) w1 w2) (hr:P r) (hW:W.heap.size≤r):cO W (fun x=>P x∨(w1.heap.size≤x∧x<w2.heap.size)) w2 t T':=by
 obtain⟨g,D,mb,ib,nb,hA,hF⟩:=h.at_
 have hs:=h.below.size
 refine⟨⟨g,D,mb,ib,nb,hA.keeps hK fun b hb he=>(hF b hb).2 (he▸hr),fun b hb=>⟨(hF b hb).1,fun hp=> ?_⟩⟩,h.ok,h.below.trans (hK.iU hs fun x hx he=>by omega),fun x hx=> ?_⟩
 ·rcases hp with hp|hp
  ·exact(hF b hb).2 hp
  ·rcases hb with hb|hb
   ·have:=hA.low b hb;omega
   ·have:=hA.oO b hb;omega
 ·rcases hx with hx|hx
  ·have:=h.low x hx;have:=hK.size;omega
  ·exact hx.2
theorem iR.step {v1 v2:Value} {e1 e2:Ending} (h:iR W Q P F w t r T) (h1:dR W P w t T' v1 e1 w1) (h2:bH F w1 r T' v2 e2 w2) (hO:rU T'):Ey W Q w2 t r T'∧(∀b,Q b→w2.heap[b]? =w.heap[b]?)∧w.heap.size≤w2.heap.size∧Below W.heap.size W w2:=by
 have hr:=h.Po r h.ref.own
 have h3:=h1.2.1.over h2.2.1 hr.1 hr.2
 have hlow:=h1.2.1.low
 refine⟨⟨_,_,h3,h2.2.2,fun x hx=> ?_,fun x hx=>⟨.inl (h.N8 x hx).1,fun hf=> ?_⟩,hO⟩,fun b hb=> ?_,Nat.le_trans h1.2.2.size h2.2.1.size,h3.below⟩
 ·rcases hx with hx|hx
  ·exact⟨.inl (h.Po x hx).1,(h.Po x hx).2⟩
  ·have:=h1.2.1.below.size
   exact⟨.inr hx,by omega⟩
 ·rcases hf with hf|hf
  ·exact(h.N8 x hx).2 hf
  ·have:=hlow x (h.N8 x hx).1;omega
 ·have hb1:=h.N8 b hb
  have hbw:=h.tree.low b hb1.1
  rw[h2.2.1.block b (hlow b hb1.1) (fun he=>hb1.2 (he▸h.ref.own))]
  exact h1.2.2.block b hbw (fun hw=>hw.2 hb1.1)
theorem iR.rest (h:iR W Q P F w t r T) (hb:Below w.heap.size w w1):Ey W Q w1 t r T∧(∀b,Q b→w1.heap[b]? =w.heap[b]?)∧w.heap.size≤w1.heap.size∧Below W.heap.size W w1:=
 ⟨⟨_,_,h.below hb⟩,fun b hbq=>hb.block b (h.tree.low b (h.N8 b hbq).1),hb.size,h.tree.below.trans (hb.mono h.tree.below.size)⟩
end
def kr (n lo hi:Int):Int:=lo+n%(hi-lo+1)
theorem zm (n lo hi:Int) (h:lo≤hi):lo≤kr n lo hi∧kr n lo hi≤hi:=by
 unfold kr
 have h1:=Int.emod_nonneg n (show hi-lo+1≠0 by omega)
 have h2:=Int.emod_lt_of_pos n (show 0<hi-lo+1 by omega)
 omega
theorem JZ {n:Int} (h:(Lit.int .i64 n).wf=true): -9223372036854775808≤n∧n≤9223372036854775807:=by
 simp[Lit.wf,IntKind.min,IntKind.max,IntKind.signed,IntKind.bits]at h
 omega
theorem zn (n lo hi:Int) (w:World) (hn:(Lit.int .i64 n).wf=true) (h1:0≤lo) (h2:lo≤hi) (h3:hi≤1099511627776):
  Calls Tryz.prog 11 #[.int .i64 n, .int .i64 lo, .int .i64 hi] w fun e w'=>e= .returned (.int .i64 (kr n lo hi))∧w=w':=by
 obtain⟨hw1,hw2⟩:=JZ hn
 clear hn
 have t1:=Int.tmod_lt_of_pos n (show 0<hi-lo+1 by omega)
 have t2:=Int.lt_tmod_of_pos n (show 0<hi-lo+1 by omega)
 have t3:=Int.emod_nonneg n (show hi-lo+1≠0 by omega)
 have t4:=Int.emod_lt_of_pos n (show 0<hi-lo+1 by omega)
 by_cases hn:0≤n
 ·have hx:¬n%(hi-lo+1)<0:=by omega
  go_enter Tryz.func11,Tryz.ntmps11
  go_wp2
  go_ret
  exact⟨fK (by unfold kr;rfl),rfl⟩
 ·have hE:n%(hi-lo+1)=if n.tmod (hi-lo+1)<0 then n.tmod (hi-lo+1)+(hi-lo+1)else n.tmod (hi-lo+1):=by
   have h5:=Int.emod_add_mul_ediv n (hi-lo+1)
   have h6:=Int.tmod_add_mul_tdiv n (hi-lo+1)
   have h7:(n.tmod (hi-lo+1))%(hi-lo+1)=n%(hi-lo+1):=by
    have h8:n=n.tmod (hi-lo+1)+(hi-lo+1)*n.tdiv (hi-lo+1):=by omega
    rw[←Int.add_mul_emod_self_left (n.tmod (hi-lo+1)) (hi-lo+1) (n.tdiv (hi-lo+1)),←h8]
   split
   ·rw[←h7,←Int.add_emod_right,Int.emod_eq_of_lt (by omega) (by omega)]
   ·rw[←h7,Int.emod_eq_of_lt (by omega) (by omega)]
  have HE:=Lib.hid hE
  clear hE
  by_cases ht:n.tmod (hi-lo+1)<0
  ·go_enter Tryz.func11,Tryz.ntmps11
   go_wp2
   go_ret
   exact⟨fK (by unfold kr;rw[HE.out,if_pos ht];omega),rfl⟩
  ·go_enter Tryz.func11,Tryz.ntmps11
   go_wp2
   go_ret
   exact⟨fK (by unfold kr;rw[HE.out,if_neg (by omega)]),rfl⟩
def jy:List (List Nm):=[[[97]],[[98]],[[99]],[[97],[97]],[[97],[98]],[[98],[97]],[[98],[98],[97]],[],[[99],[97]],[[98],[98]],[[65]],[[97],[]],[[46]]]
def jA (w:World):List Obj→World
 |[]=>w
 |o::r=>jA (w.alloc o) r
theorem mY:∀(os:List Obj) (w w0:World),w0.heap.size≤w.heap.size→Below w0.heap.size w0 w→Below w0.heap.size w0 (jA w os)
 |[],w,w0,_,h=>h
 |o::r,w,w0,hs,h=>mY r (w.alloc o) w0 (by simp;omega) (h.alloc hs o)
theorem su:∀(os:List Obj) (w:World),(jA w os).heap.size=w.heap.size+os.length
 |[],w=>rfl
 |o::r,w=>by
  show(jA (w.alloc o) r).heap.size=_
  rw[su r,World.size_alloc,List.length_cons]
  omega
theorem pI:∀(os:List Obj) (w:World) (i:Nat) (o:Obj),os[i]? =some o→(jA w os).heap[w.heap.size+i]? =some o
 |[],w,i,o,h=>by simp at h
 |x::r,w,0,o,h=>by
  simp only[List.getElem?_cons_zero,Option.some.injEq]at h
  subst h
  have h1:=mY r (w.alloc x) (w.alloc x) (Nat.le_refl _) (Below.refl _ _)
  exact(h1.block w.heap.size (by simp)).trans (MapKept.heap_alloc w x).1
 |x::r,w,i+1,o,h=>by
  have:=pI r (w.alloc x) i o (by simpa using h)
  rw[World.size_alloc]at this
  rw[show w.heap.size+(i+1)=w.heap.size+1+i by omega]
  exact this
def MQ (w:World) (ls:List Nm) (e:Ending) (w':World):Prop:=
 ∃a c,e= .returned (.slice a ls.length c)∧ls.length≤c∧aP (fun x=>w.heap.size≤x∧x<w'.heap.size) w' a ls.length (ls.map strOf)∧Below w.heap.size w w'
def Bv (w:World) (v:Value) (wx:World):Prop:=
 ∃g,v= .slice (some ⟨g,0,none⟩) 13 13∧g<wx.heap.size∧Below w.heap.size w wx∧∀(j:Nat) (ls:List Nm),jy[j]? =some ls→∃a c,wx.cell? ⟨g,j,none⟩=some (.slice a ls.length c)∧ls.length≤c∧aP (fun x=>w.heap.size≤x∧x<wx.heap.size) wx a ls.length (ls.map strOf)
def dU (ls:List Nm):Obj:= .cells (ls.map fun n=>Value.string (strOf n)).toArray 9
theorem MR {w0 w:World} {g:Nat} {ls:List Nm} (h:w.heap[g]? =some (dU ls)) (hg:w0.heap.size≤g) (hs:ls.length≤3) (hl:∀n∈ls,n.length≤3):aP (fun x=>w0.heap.size≤x∧x<w.heap.size) w (some ⟨g,0,none⟩) ls.length (ls.map strOf):=by
 have hgw:=(Array.getElem?_eq_some_iff.1 h).1
 refine⟨⟨by simp,by unfold maxLen;omega,fun _=>⟨g,0,rfl,⟨hg,hgw⟩,hgw,fun i hi=> ?_⟩⟩,fun s hs'=> ?_⟩
 ·simp only[World.cell?,h,dU]
  simp
  rfl
 ·obtain⟨n,hn,rfl⟩:=List.mem_map.1 hs'
  rw[eT]
  have:=hl n hn
  unfold maxLen;omega
def zo (B:Nat):List Value:=[.slice (some ⟨B,0,none⟩) 1 1, .slice (some ⟨B+1,0,none⟩) 1 1, .slice (some ⟨B+2,0,none⟩) 1 1, .slice (some ⟨B+3,0,none⟩) 2 2, .slice (some ⟨B+4,0,none⟩) 2 2, .slice (some ⟨B+5,0,none⟩) 2 2, .slice (some ⟨B+6,0,none⟩) 3 3, .slice none 0 0, .slice (some ⟨B+7,0,none⟩) 2 2, .slice (some ⟨B+8,0,none⟩) 2 2, .slice (some ⟨B+9,0,none⟩) 1 1, .slice (some ⟨B+10,0,none⟩) 2 2, .slice (some ⟨B+11,0,none⟩) 1 1]
def ji (B:Nat):List Obj:=[dU [[97]],dU [[98]],dU [[99]],dU [[97],[97]],dU [[97],[98]],dU [[98],[97]],dU [[98],[98],[97]],dU [[99],[97]],dU [[98],[98]],dU [[65]],dU [[97],[]],dU [[46]], .cells (zo B).toArray 61]
theorem Gs (w:World):Bv w (.slice (some ⟨w.heap.size+12,0,none⟩) 13 13) (jA w (ji w.heap.size)):=by
 have hsz:=su (ji w.heap.size) w
 have hl:(ji w.heap.size).length=13:=rfl
 rw[hl]at hsz
 refine⟨w.heap.size+12,rfl,by omega,mY _ w w (Nat.le_refl _) (Below.refl _ _),fun j ls hj=> ?_⟩
 have hcell:∀v,(zo w.heap.size)[j]? =some v→(jA w (ji w.heap.size)).cell? ⟨w.heap.size+12,j,none⟩=some v:=fun v hv=>by
  have:=pI (ji w.heap.size) w 12 _ rfl
  simp only[World.cell?,this]
  simpa using hv
 have key:∀(i n:Nat) (ls':List Nm),(ji w.heap.size)[i]? =some (dU ls')→(zo w.heap.size)[j]? =some (.slice (some ⟨w.heap.size+i,0,none⟩) n n)→ls'.length=n→ls'.length≤3→(∀x∈ls',x.length≤3)→ls'=ls→
   ∃a c,(jA w (ji w.heap.size)).cell? ⟨w.heap.size+12,j,none⟩=some (.slice a ls.length c)∧ls.length≤c∧aP (fun x=>w.heap.size≤x∧x<(jA w (ji w.heap.size)).heap.size) (jA w (ji w.heap.size)) a ls.length (ls.map strOf):=fun i n ls' h1 h2 h3 h4 h5 h6=>by
  subst h6
  exact⟨_,n,by rw[h3];exact hcell _ h2,by omega,MR (pI _ w i _ h1) (by omega) h4 h5⟩
 match j,hj with
 |0,hj=>exact key 0 1 [[97]] rfl rfl rfl (by decide) (by decide) (Option.some.inj hj)
 |1,hj=>exact key 1 1 [[98]] rfl rfl rfl (by decide) (by decide) (Option.some.inj hj)
 |2,hj=>exact key 2 1 [[99]] rfl rfl rfl (by decide) (by decide) (Option.some.inj hj)
 |3,hj=>exact key 3 2 [[97],[97]] rfl rfl rfl (by decide) (by decide) (Option.some.inj hj)
 |4,hj=>exact key 4 2 [[97],[98]] rfl rfl rfl (by decide) (by decide) (Option.some.inj hj)
 |5,hj=>exact key 5 2 [[98],[97]] rfl rfl rfl (by decide) (by decide) (Option.some.inj hj)
 |6,hj=>exact key 6 3 [[98],[98],[97]] rfl rfl rfl (by decide) (by decide) (Option.some.inj hj)
 |7,hj=>
  have:([]:List Nm)=ls:=Option.some.inj hj
  subst this
  exact⟨none,0,hcell _ rfl,Nat.le_refl _,⟨aj.nil _ _ _,by simp⟩⟩
 |8,hj=>exact key 7 2 [[99],[97]] rfl rfl rfl (by decide) (by decide) (Option.some.inj hj)
 |9,hj=>exact key 8 2 [[98],[98]] rfl rfl rfl (by decide) (by decide) (Option.some.inj hj)
 |10,hj=>exact key 9 1 [[65]] rfl rfl rfl (by decide) (by decide) (Option.some.inj hj)
 |11,hj=>exact key 10 2 [[97],[]] rfl rfl rfl (by decide) (by decide) (Option.some.inj hj)
 |12,hj=>exact key 11 1 [[46]] rfl rfl rfl (by decide) (by decide) (Option.some.inj hj)
 |j+13,hj=>simp[jy]at hj
def nJ (n:Int):Nat:=(kr n 0 1048576%13).toNat
def kQ (n:Int):List Nm:=jy.getD (nJ n) []
theorem uR (n:Int):(kQ n).length≤3:=by
 unfold kQ
 rw[List.getD_eq_getElem?_getD]
 cases h:jy[nJ n]? with
 |none=>simp
 |some ls=>
  have:=List.mem_of_getElem? h
  revert ls
  intro ls _ hm
  have:∀l∈jy,l.length≤3:=by decide
  exact this ls hm
set_option maxHeartbeats 4000000 in
theorem Bw (n:Int) (hn:(Lit.int .i64 n).wf=true) (w:World):Calls Tryz.prog 26 #[.int .i64 n] w (MQ w (kQ n)):=by
 have hw:=zm n 0 1048576 (by omega)
 have HW:=Lib.hid (fun w1=>zn n 0 1048576 w1 hn (by omega) (by omega) (by omega))
 have hI:(nJ n:Int)=kr n 0 1048576%13:=by unfold nJ;omega
 have hI2:nJ n<13:=by unfold nJ;omega
 obtain⟨ls,hls⟩:∃ls,jy[nJ n]? =some ls:=⟨_,List.getElem?_eq_getElem (show nJ n<jy.length by simpa[jy]using hI2)⟩
 have hL:kQ n=ls:=by unfold kQ;rw[List.getD_eq_getElem?_getD,hls];rfl
 rw[hL]
 generalize kr n 0 1048576=v at*
 generalize nJ n=j at*
 have HLS:=Lib.hid hls
 have e1:v%13=(j:Int):=hI.symm
 have j0:(0:Int)≤j:=by omega
 have j1:(j:Int)<13:=by omega
 clear hls hL hI hn
 go_enter Tryz.func26,Tryz.ntmps26
 go_upto_region 1 with(fail)
 go_cut [3]from 4 to 16 (fun v wx=>Bv w v wx)
 case first=>
  go_wp2_with fail
  go_meet
  exact Gs w
 case rest=>
  obtain⟨g,rfl,hg,hB,hc⟩:=hcut
  obtain⟨w1,rfl⟩:∃w1:World,w1=wc:=⟨_,rfl⟩
  obtain⟨a,c,hc1,hc2,hc3⟩:=hc j ls HLS.out
  have HS:=Lib.hid hc3
  have HB:=Lib.hid hB
  clear hc hc3 hB
  go_wp2_with fail
  (with_reducible refine(HW.out _).mono ?_)
  rintro e w2 ⟨rfl,rfl⟩
  go_wp2_with fail
  go_ret
  exact⟨a,c,rfl,hc2,HS.out,HB.out⟩
theorem MS {S S':Nat→Prop} (a a':Option Addr) (len cap len' cap':Nat) (ss ss':List ByteArray) (w:World) (h:aP S w a len ss) (h':aP S' w a' len' ss'):
  Calls Tryz.prog 115 #[.slice a len cap, .slice a' len' cap'] w fun e w'=>e= .returned (.bool (decide (ss=ss')))∧Below w.heap.size w w':=by
 have hl:=h.length
 have hl':=h'.length
 have hm:=h.row.small
 have hm':=h'.row.small
 unfold maxLen at hm hm'
 by_cases hne:len=len'
 ·subst hne
  have HL:=Lib.hid hl
  have Uo:=Lib.hid hl'
  clear hl hl'
  go_enter Tryz.func115,Tryz.ntmps115
  go_wp2
  go_loopw [5] (fun i wr=>∃k:Nat,k≤len∧i= .int .i64 k∧ss.take k=ss'.take k∧Below w.heap.size w wr) (fun i _=>len-(intOf i).toNat)
  case atStart=>exact⟨0,by omega,rfl,rfl,Below.refl _ _⟩
  case round=>
   obtain⟨k,hk,rfl,ht,hb⟩:=hrel
   have HT:=Lib.hid ht
   clear ht
   by_cases hlt:k<len
   ·obtain⟨b,off,x,rfl,_,_,hx,_,hc⟩:=(h.below hb (Nat.le_refl _)).cell k hlt
    obtain⟨b',off',y,rfl,_,_,hy,_,hc'⟩:=(h'.below hb (Nat.le_refl _)).cell k hlt
    have HX:=Lib.hid hx
    have HY:=Lib.hid hy
    clear hx hy h h'
    have hk0:(0:Int)≤(k:Int):=by omega
    have hk1:(k:Int)<(len:Int):=by omega
    by_cases hxy:x=y
    ·subst hxy
     go_wp2
     go_quiet (fail)
     go_wp2
     go_roundw
     case rel=>exact⟨k+1,by omega,by go_num,uK HT.out HX.out HY.out,hb.trans ⟨rfl,rfl,rfl,Nat.le_refl _,fun _ _=>rfl⟩⟩
     case measure=>simp[intOf];omega
    ·have hxl:=Bc hxy
     have HN:=Lib.hid hxy
     clear hxy
     go_wp2
     go_quiet (fail)
     go_wp2
     go_ret
     exact⟨fC (by simp[r_ HX.out HY.out HN.out]),hb.trans ⟨rfl,rfl,rfl,Nat.le_refl _,fun _ _=>rfl⟩⟩
   ·go_wp2
    go_ret
    refine⟨fC ?_,hb⟩
    have:=HT.out
    rw[List.take_of_length_le (by have:=HL.out;omega),List.take_of_length_le (by have:=Uo.out;omega)]at this
    simp[this]
 ·have hne':ss≠ss':=fun e=>hne (by rw[←hl,←hl',e])
  have HN:=Lib.hid hne'
  have hb0:((len:Int) !=(len':Int))=true:=by simp;omega
  clear hl hl' hne hne'
  go_enter Tryz.func115,Tryz.ntmps115
  go_wp2
  go_ret
  exact⟨fC (by simp[HN.out]),Below.refl _ _⟩
theorem CF (a:Option Addr) (len cap n:Nat) (hl:len≤cap) (hn:n≤1048576) (hm:len≤maxLen) (w:World):
  Calls Tryz.prog 12 #[.slice a len cap, .int .i64 n] w fun e w'=>e= .returned (.slice a (min len n) cap)∧w=w':=by
 unfold maxLen at hm
 by_cases h:n<len
 ·have e1:n≤cap:=by omega
  go_enter Tryz.func12,Tryz.ntmps12
  go_wp2
  go_ret
  rw[show min len n=n by omega]
  exact⟨rfl,rfl⟩
 ·go_enter Tryz.func12,Tryz.ntmps12
  go_wp2
  go_ret
  rw[show min len n=len by omega]
  exact⟨rfl,rfl⟩
theorem wS {P:Program} {md:Region.Mode} {ops:Array Oper} {Q:Exit→Act→World→Prop} {S S':World→Prop} (h:∀w,S' w→S w):
  ∀(fuel:Nat) (listed:Array Bool) (a:Act) (w:World),wpAnyH P md ops Q S' fuel listed a w→wpAnyH P md ops Q S fuel listed a w
 |0,_,_,_,hw=>hw
 |fuel+1,_,_,_,hw=>⟨hw.1,fun i hi=>wpOp_mono (fun _ _ h'=>⟨h _ h'.1,wS h fuel _ _ _ h'.2⟩) (hw.2 i hi)⟩
open Go
theorem dJ {P:Program} {ops:Array Oper} {Q:Exit→Act→World→Prop} {md:Region.Mode} {S:World→Prop} (i:Nat) {oi:Oper} {v:Value} {fuel:Nat} {listed l':Array Bool} {a a':Act} {w:World}
  (hS:S w) (h:wpAnyH P md ops Q S fuel l' a' w)
  (hi:ops[i]? =some oi:=by simp only[List.getElem?_toArray,List.getElem?_cons_succ,List.getElem?_cons_zero];rfl)
  (hs:Region.noSelect ops=true:=by kernel_rfl) (hf:Region.free md ops listed i=true:=by kernel_rfl) (hr:(Region.ready md ops listed).contains i=true:=by kernel_rfl)
  (hQ:∀c a w,Q (.panic c) (a.put oi.dst v) w→Q (.panic c) a w:=by exact fun _ _ _ h=>h)
  (hw:Region.wanted oi (yielded ops a.tmps)=true:=by rfl)
  (hy:∀w,S w→(execOp a.eval oi).run P w= .ok (.value v) w:=by intro w hSw;(try dsimp only at hSw);go_simp;(try with_reducible rfl))
  (hl:listed.setIfInBounds i true=l':=by(try simp only[List.setIfInBounds_toArray,List.set_cons_zero,List.set_cons_succ]);rfl)
  (ha:a.put oi.dst v=a':=by(try simp only[Act.put,List.setIfInBounds_toArray,List.set_cons_zero,List.set_cons_succ]);rfl)
  :wpAnyH P md ops Q S (fuel+1) listed a w:=
 wpAnyH_take hi hs hf hr hQ (Or.inl ⟨hw,hy⟩) hS (by rw[hl,ha];exact h)
theorem sw {P:Program} {ops:Array Oper} {Q:Exit→Act→World→Prop} {md:Region.Mode} {S:World→Prop} (i:Nat) {o:Oper} {fuel:Nat} {listed:Array Bool} {a:Act} {w:World}
  (h:∀K':Act→World→Prop,Shut (∀a w,S w→(S w→wpAnyH P md ops Q S fuel (listed.setIfInBounds i true) a w)→K' a w)→if Region.wanted o (yielded ops a.tmps)=true then Oper.wp P o a w K' Q else K' (a.put o.dst undef) w)
  (ho:ops[i]? =some o:=by simp only[List.getElem?_toArray,List.getElem?_cons_succ,List.getElem?_cons_zero];rfl) (hr:Region.ready md ops listed=[i]:=by kernel_rfl):wpAnyH P md ops Q S (fuel+1) listed a w:=
 wpAnyH_ready hr (by simp) (AllReadyH.cons ho h AllReadyH.nil)
theorem sD {P:Program} {ops:Array Oper} {Q:Exit→Act→World→Prop} {md:Region.Mode} {S:World→Prop} {i:Nat} {fuel:Nat} {listed l':Array Bool} {a a':Act} {w:World} {K:Act→World→Prop}
  (hK:Shut (∀a w,S w→(S w→wpAnyH P md ops Q S fuel (listed.setIfInBounds i true) a w)→K a w)) (hS:S w) (h:S w→wpAnyH P md ops Q S fuel l' a' w)
  (hl:listed.setIfInBounds i true=l':=by(try simp only[List.setIfInBounds_toArray,List.set_cons_zero,List.set_cons_succ]);rfl)
  (ha:a=a':=by(try simp only[Act.put,List.setIfInBounds_toArray,List.set_cons_zero,List.set_cons_succ]);rfl):K a w:=by
 subst hl ha
 exact hK a w hS h
theorem KP {P:Program} {ops:Array Oper} {Q:Exit→Act→World→Prop} {md:Region.Mode} {S:World→Prop} {fuel:Nat} {listed:Array Bool} {a:Act} {w:World} (h:Q .normal a w) (hr:Region.ready md ops listed=[]:=by kernel_rfl):wpAnyH P md ops (NoPanic Q) S fuel listed a w:=
 wpAnyH_done hr (NoPanic.normal h) _
theorem KQ {P:Program} {ops:Array Oper} {Q:Exit→Act→World→Prop} (S:World→Prop) {id:Nat} {a:Act} {w:World} (hS:S w.drew)
  (h:S w.drew→wpAnyH P .any ops (NoPanic Q) S ops.size (Array.replicate ops.size false) a w.drew) (hm:P.follows .mixedOrders=true:=by kernel_rfl):(Code.region id ops true).wp P Q a w:=
 wp_region_noPanic (wp_region_held_drew hm hS h)
end Go.Proofs.YtjnhnlabpccgjaaGreat
