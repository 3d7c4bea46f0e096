/- The reference: Append. A law's own tree: Look, Unlink, Rmdir, Rename, Drop, List. The tree and the reference's, side by side. permafrostbook.Within. permafrostkeep.Names. -/
import Derived.Test.YtohpcppeajijnaaGreatM32
import Derived.Test.YtohpcppeajijnaaGreatM19
import Derived.Test.YtohpcppeajijnaaGreatM17
import Derived.Test.YtohpcppeajijnaaGreatM34
import Derived.Test.YtohpcppeajijnaaGreatM01
import Derived.Test.YtohpcppeajijnaaGreatM08
import Derived.Deep.CutBlock
import Derived.Deep.DeepCutAuto
namespace Go.Proofs.YtohpcppeajijnaaGreat
open Go.ChangeShapes Go.WideShapes Go.ChangeAt Go.RowKit
set_option linter.unusedVariables false
set_option linter.unusedSimpArgs false
theorem oU {T:aI} {id:Int} {bs:List UInt8} {v:Int} (h:iP T id bs=v) (hv:v≠0):bI T id bs=(v,T):=by
 unfold bI
 rw[h,if_neg hv]
structure wJ (F:Nat→Prop) (w:World) (r:Nat) (x2:Value) (T:aI) (D:List (List UInt8)) (gN oN cN gD oD cD:Nat) (vs:List Value) (wx:World):Prop where
 keeps:Keeps (fun x=>x=r) w wx
 rlt:r<w.heap.size
 head:wx.heap[r]? =some (.cells #[.slice (some ⟨gN,oN,none⟩) T.length cN, .slice (some ⟨gD,oD,none⟩) D.length cD,x2] 102 (0,0))
 TL:T.length≤cN
 TM:D.length≤cD
 Qe:ak (fun b=>b=gN) wx (some ⟨gN,oN,none⟩) (T.length*6) (T.flatMap bA)
 plN:Plain wx (some ⟨gN,oN,none⟩)
 M_:ak (fun b=>b=gD) wx (some ⟨gD,oD,none⟩) D.length vs
 plD:Plain wx (some ⟨gD,oD,none⟩)
 TN:w.heap.size≤gN∧gN<wx.heap.size
 Qf:w.heap.size≤gD∧gD<wx.heap.size
 ne:gN≠gD
 each:Each (fun b=>(F b∧b<w.heap.size∧b≠r)∨(w.heap.size≤b∧b<wx.heap.size∧b≠gN∧b≠gD)) wx vs D
def uV (F:Nat→Prop) (w:World) (r:Nat) (x2:Value) (T:aI) (D:List (List UInt8)) (wx:World):Prop:=∃gN oN cN gD oD cD vs,wJ F w r x2 T D gN oN cN gD oD cD vs wx
theorem Na {F:Nat→Prop} {w w1 w2:World} {r n c:Nat} {x1 x2:Value} {T:aI} {D:List (List UInt8)} {a:Option Addr} {vs:List Value} (hm:bq w r x1 x2 T w1) (hT:0<T.length) (hn:0<n) (hD:D.length=n) (hb:Below w1.heap.size w1 w2)
  (hown:w2.ownsRow w1.heap.size 39 1 (.slice a (0+n) c) (0+n) ([]++vs)) (hmx:(0+n)*1≤maxLen) (he:Each (Off F r) w vs D) (hlow:∀b,F b→b<w.heap.size):uV F w r x2 T D (w2.setCell ⟨r,1,none⟩ (.slice a n c)):=by
 obtain⟨hK,hr,aN,cN,h2,h3,h4,h5⟩:=hm
 have hs1:=hK.size
 have hs2:=hb.size
 obtain⟨-,hcc,-,hrow⟩:=ak.jS hown hmx
 rw[Nat.zero_add]at hcc
 rw[Nat.zero_add,Nat.mul_one,List.nil_append]at hrow
 obtain⟨gN,oN,rfl,Tt,hbN,-⟩:=h4.at_ (by omega)
 obtain⟨gD,oD,rfl,hFD,hbD,-⟩:=hrow.at_ (by omega)
 have hp:=jM hown
 have X_:=Tt.1
 have hFD1:=hFD.1
 have Ya:gN≠r:=by omega
 have Yb:gD≠r:=by omega
 have hrN:ak (fun b=>b=gN) w1 (some ⟨gN,oN,none⟩) (T.length*6) (T.flatMap bA):=⟨h4.length,h4.small,fun h0=>by
  obtain⟨b,o,e,_,hb',hc'⟩:=h4.at_ h0
  simp only[Option.some.injEq,Addr.mk.injEq,and_true]at e
  obtain⟨rfl,rfl⟩:=e
  exact⟨_,_,rfl,rfl,hb',hc'⟩⟩
 have hrD:ak (fun b=>b=gD) w2 (some ⟨gD,oD,none⟩) n vs:=⟨hrow.length,hrow.small,fun h0=>by
  obtain⟨b,o,e,_,hb',hc'⟩:=hrow.at_ h0
  simp only[Option.some.injEq,Addr.mk.injEq,and_true]at e
  obtain⟨rfl,rfl⟩:=e
  exact⟨_,_,rfl,rfl,hb',hc'⟩⟩
 have hDn:=hD
 have hK2:Keeps (fun x=>x=r) w w2:=hK.trans (Keeps.below hb) (fun x hx hf=>by omega)
 refine⟨gN,oN,cN,gD,oD,c,vs,⟨hK2.trans (Keeps.fE _ _ _) fun x _ hx=>hx,hr,?_,h3,by rw[hDn];exact hcc,?_,?_,?_,?_,⟨X_,by rw[size_set];omega⟩,⟨by omega,by rw[size_set];exact hbD⟩,by omega,?_⟩⟩
 ·rw[aL ((hb.block r (by omega)).trans h2),hDn]
  rfl
 ·exact(hrN.below hb (Nat.le_refl _)).apart ⟨r,1,none⟩ _ fun b hb'=>by subst hb';exact Ya
 ·exact(h5.kept fun g off e=>by
   simp only[Option.some.injEq,Addr.mk.injEq,and_true]at e
   obtain⟨rfl,_⟩:=e
   exact hb.block _ hbN).fE _ _ rfl
 ·rw[hDn]
  exact hrD.apart ⟨r,1,none⟩ _ fun b hb'=>by subst hb';exact Yb
 ·exact hp.fE _ _ rfl
 ·refine he.move (by rw[size_set];omega) fun b hb' hbw=>⟨.inl ⟨hb'.1,hbw,hb'.2⟩,?_⟩
  rw[aP _ _ _ _ hb'.2]
  exact hK2.block b hbw hb'.2
theorem Gd {F:Nat→Prop} {w w2 u:World} {r gN oN cN gD oD cD k c n m:Nat} {x2:Value} {T:aI} {D:List (List UInt8)} {vs:List Value} {a:Option Addr} {nb:List UInt8} {ys:List Value} (h:wJ F w r x2 T D gN oN cN gD oD cD vs w2) (hk:k<D.length) (hb:Below w2.heap.size w2 u)
  (hown:u.ownsRow w2.heap.size 5 1 (.slice a m c) m ys) (hys:ys=nb.map bv∧m=nb.length∧n=m) (hmx:m*1≤maxLen):uV F w r x2 T (D.set k nb) (u.setCell ⟨gD,oD+k,none⟩ (.slice a n c)):=by
 obtain⟨rfl,rfl,rfl⟩:=hys
 have hs:=hb.size
 have hs0:=h.keeps.size
 have Yc:=h.TN
 have hnD:=h.Qf
 have hne:=h.ne
 have TP:=h.rlt
 obtain⟨a',c',e,hlc,hcm⟩:=sG hown
 simp only[Value.slice.injEq,true_and]at e
 obtain⟨rfl,rfl⟩:=e
 obtain⟨-,-,-,hrow⟩:=ak.jS hown hmx
 rw[Nat.mul_one]at hrow
 have hK2:Keeps (fun x=>x=r) w u:=h.keeps.trans (Keeps.below hb) (fun x hx hf=>by omega)
 have hK3:Keeps (fun x=>x=r) w (u.setCell ⟨gD,oD+k,none⟩ (.slice a nb.length c)):=hK2.trans (fp':=fun x=>x=gD) (Keeps.fE u ⟨gD,oD+k,none⟩ _) (fun x hx hf=>by omega)
 refine⟨gN,oN,cN,gD,oD,cD,vs.set k (.slice a nb.length c),⟨hK3,TP,?_,h.TL,by rw[List.length_set];exact h.TM,?_,?_,?_,?_,⟨Yc.1,by rw[size_set];omega⟩,⟨hnD.1,by rw[size_set];omega⟩,hne,?_⟩⟩
 ·rw[aP _ _ _ _ (show r≠gD by omega),List.length_set]
  exact(hb.block r (by omega)).trans h.head
 ·exact(h.Qe.below hb (Nat.le_refl _)).apart ⟨gD,oD+k,none⟩ _ fun b hb'=>by subst hb';exact hne
 ·exact(h.plN.kept fun g off e=>by
   simp only[Option.some.injEq,Addr.mk.injEq,and_true]at e
   obtain⟨rfl,_⟩:=e
   exact hb.block _ Yc.2).fE _ _ rfl
 ·have:=(h.M_.below hb (Nat.le_refl _)).fE (j:=k) hk (.slice a nb.length c)
  rw[List.length_set]
  exact this
 ·exact(h.plD.kept fun g off e=>by
   simp only[Option.some.injEq,Addr.mk.injEq,and_true]at e
   obtain⟨rfl,_⟩:=e
   exact hb.block _ hnD.2).fE _ _ rfl
 ·have hvl:vs.length=D.length:=h.M_.length
  intro i b hbi
  by_cases hik:i=k
  ·subst hik
   rw[List.getElem?_set_self hk]at hbi
   cases hbi
   refine⟨a,c,List.getElem?_set_self (by omega),⟨hlc,hcm⟩,?_⟩
   exact hrow.move (by rw[size_set];exact Nat.le_refl _) fun b hb1 hb2=>⟨.inr ⟨by omega,by rw[size_set];exact hb2,by omega,by omega⟩,aP _ _ _ _ (show b≠gD by omega)⟩
  ·rw[List.getElem?_set_ne (Ne.symm hik)]at hbi⊢
   obtain⟨a2,c2,e1,e2,e3⟩:=h.each i b hbi
   refine⟨a2,c2,e1,e2,e3.move (by rw[size_set];omega) fun b hb1 hb2=>⟨?_,?_⟩⟩
   ·rcases hb1 with hb1|hb1
    ·exact .inl hb1
    ·exact .inr ⟨hb1.1,by rw[size_set];omega,hb1.2.2⟩
   ·have:b≠gD:=by rcases hb1 with hb1|hb1<;>omega
    rw[aP _ _ _ _ this]
    exact hb.block b hb2
theorem Kn {F:Nat→Prop} {w w3:World} {r gN oN cN gD oD cD k:Nat} {x0 x1 x2:Value} {T:aI} {D0 D:List (List UInt8)} {E:List iw} {vs:List Value} {q q':Int×bf} {v3:Value} (hR:eX F w r T D0 E) (h1:w.heap[r]? =some (.cells #[x0,x1,x2] 102 (0,0))) (h:wJ F w r x2 T D gN oN cN gD oD cD vs w3) (hq:T[k]? =some q) (hv:bA q'=(bA q).set 3 v3) (v:Value):
  cu F w r (T.set k q') D E v (.returned v) (w3.setCell ⟨gN,oN+(k*6+3),none⟩ v3):=by
 have Yc:=h.TN
 have hnD:=h.Qf
 have hne:=h.ne
 have TP:=h.rlt
 have hkl:k<T.length:=(List.getElem?_eq_some_iff.1 hq).1
 obtain⟨aN,cN',aD,cD',aE,cE,g1,-,g3,g4,-,g9,g10,g11⟩:=hR.head
 rw[h1]at g1
 simp only[Option.some.injEq,Obj.cells.injEq,Array.mk.injEq,List.cons.injEq,and_true,true_and]at g1
 obtain⟨-,-,rfl⟩:=g1
 have hK3:Keeps (fun x=>x=r) w (w3.setCell ⟨gN,oN+(k*6+3),none⟩ v3):=h.keeps.trans (fp':=fun x=>x=gN) (Keeps.fE w3 ⟨gN,oN+(k*6+3),none⟩ _) (fun x hx hf=>by omega)
 refine⟨rfl,hK3,hR.turn (aN:=some ⟨gN,oN,none⟩) (aD:=some ⟨gD,oD,none⟩) (cN:=cN) (cD:=cD) hK3 ?_ (by rw[List.length_set];exact h.TL) h.TM g4 ?_ ⟨vs,?_,?_⟩ (mE hK3 g10) g11⟩
 ·rw[aP _ _ _ _ (show r≠gN by omega),List.length_set]
  exact h.head
 ·have:=h.Qe.fE (j:=k*6+3) (by omega) v3
  rw[sU bA 6 dG (by omega) hv T k hq]at this
  rw[List.length_set]
  exact this.mono fun b hb=>⟨.inr ⟨by omega,by rw[size_set];omega⟩,by omega⟩
 ·exact(h.M_.apart ⟨gN,oN+(k*6+3),none⟩ v3 fun b hb=>by subst hb;exact Ne.symm hne).mono fun b hb=>⟨.inr ⟨by omega,by rw[size_set];omega⟩,by omega⟩
 ·refine h.each.move (by rw[size_set];exact Nat.le_refl _) fun b hb1 hb2=>⟨⟨?_,?_⟩,?_⟩
  ·rcases hb1 with hb1|hb1
   ·exact .inl hb1.1
   ·exact .inr ⟨hb1.1,by rw[size_set];exact hb1.2.1⟩
  ·rcases hb1 with hb1|hb1
   ·exact hb1.2.2
   ·omega
  ·exact aP _ _ _ _ (show b≠gN by rcases hb1 with hb1|hb1<;>omega)
theorem wJ.facts {F:Nat→Prop} {w wx:World} {r gN oN cN gD oD cD k:Nat} {x2:Value} {T:aI} {D:List (List UInt8)} {vs:List Value} (h:wJ F w r x2 T D gN oN cN gD oD cD vs wx) {d:List UInt8} (hd:D[k]? =some d):∃a c,wx.cell? ⟨r,0,none⟩=some (.slice (some ⟨gN,oN,none⟩) T.length cN)∧wx.cell? ⟨r,1,none⟩=some (.slice (some ⟨gD,oD,none⟩) D.length cD)∧wx.cell? ⟨gD,oD+k,none⟩=some (.slice a d.length c)∧qN d.length c∧ak (fun b=>(F b∧b<w.heap.size∧b≠r)∨(w.heap.size≤b∧b<wx.heap.size∧b≠gN∧b≠gD)) wx a d.length (d.map bv):=by
 obtain⟨a,c,e1,e2,e3⟩:=h.each k d hd
 have hk:k<D.length:=(List.getElem?_eq_some_iff.1 hd).1
 obtain⟨p0,p1,-,-⟩:=dY h.head
 obtain⟨b,o,e,-,hb,hc⟩:=h.M_.at_ (by omega)
 simp only[Option.some.injEq,Addr.mk.injEq,and_true]at e
 obtain⟨rfl,rfl⟩:=e
 exact⟨a,c,p0,p1,(hc k hk).trans e1,e2,e3⟩
section
variable {F:Nat→Prop} {r:Nat} {T:aI}
theorem Qg:(Tryz.prog.info? 5).map (fun i=>(i.zero,i.size,i.bytes))=some (some (.int .u8 0),1,1):=by kernel_rfl
set_option maxRecDepth 100000 in
set_option maxHeartbeats 16000000 in
theorem Bl {S:Nat→Prop} (id:Int) (ab:Option Addr) (nb cb:Nat) (bs:List UInt8) (w:World) (h:jr F w r T) (hT:dR T) (hbs:ak S w ab nb (bs.map bv)) (hSr:∀b,S b→b≠r) (hnb:nb≤1000000):
  Calls Tryz.prog 22 #[ptr r, .int .i64 id, .slice ab nb cb] w (dJ F w r (bI T id bs).2 (.int .i64 (bI T id bs).1)):=by
 have hbl:bs.length=nb:=by have:=hbs.length;simpa using this
 have HF:=Lib.hid (sS id w h hT.touK)
 have hr0:=h.low r h.own
 have HH:=Lib.hid h
 by_cases h0:cK T id=0
 ·obtain⟨x,hx,hk⟩:∃x,aF id T=some x∧x.kind≠2:=by
   unfold cK at h0
   cases hx:aF id T with
   |none=>rw[hx]at h0;cases h0
   |some x=>
    rw[hx]at h0
    exact⟨x,rfl,fun hk=>by simp[hk]at h0⟩
  obtain⟨k,hi,hq⟩:=jw hT.sorted hx
  have hrf:FY T id=k:=by unfold FY;rw[if_pos h0];exact hi
  rw[hrf,h0]at HF
  obtain⟨bN,oN,cN,hc0,hO,hbw,hkl,c0,c1,c2,c3,c4,c5⟩:=h.node hq
  simp only at c0 c1 c2 c3 c4 c5
  have i0:(0:Int)≤k:=by omega
  have hlen:=hT.len
  have BR:=Lib.hid hq
  have HS:=Lib.hid hT.sorted
  obtain⟨i6,a6,b6,s6,d6⟩:=info_parts nodeInfo
  have fA:=Lib.hid (And.intro a6 (And.intro b6 (And.intro s6 d6)))
  obtain⟨aN,cN',aD,cD,aE,cE,h1,h2,h3,h4,h8,h9,h10,h11⟩:=h.head
  obtain⟨p0,p1,p2,pf⟩:=dY h1
  rw[p0]at hc0
  simp only[Option.some.injEq,Value.slice.injEq,true_and]at hc0
  obtain⟨rfl,rfl⟩:=hc0
  have pR:=Lib.hid h1
  have Vt:=Lib.hid hbs
  have Kg:=Lib.hid h8
  obtain⟨n,hn⟩:∃n,n=T.length:=⟨_,rfl⟩
  rw[←hn]at p0 hlen hkl h2 Kg
  have fV:=Lib.hid hn
  have hf0:=pf 0
  have hfp:=hO.2
  have i1:(k:Int)<n:=by omega
  have hrw:=hr0
  have hsz:=(hT.each id x hx).size
  have Yd:=Lib.hid h.low
  obtain⟨vs,hv,ug⟩:=h9
  have mg:=Lib.hid (hT.each id x hx)
  have HX:=Lib.hid hx
  have hkx:=hk
  clear a6 b6 s6 d6 h1 h8 h10 h11 hi hrf h hq hn p1 p2 pf hO hT h0 hbs
  have he:iP T id bs=if x.closed then 27 else if 4096<x.b.length+bs.length then 15 else 0:=by
   unfold iP
   rw[hx]
   simp only[if_neg hk]
  rw[hbl]at he
  obtain⟨l,hl⟩:∃l,l=x.b.length:=⟨_,rfl⟩
  rw[←hl]at he hsz c3
  have xW:=Lib.hid hbl
  have BN:=Lib.hid hl
  have HV:=Lib.hid hv
  have EC:Hid (Each (Off F r) w vs (T.map fun q=>q.2.b)):=ug
  have M9:=Lib.hid hv.length
  have HSD:=Lib.hid hSr
  clear hx hk hl hv ug hbl hSr
  cases hcl:x.closed with
  |true=>
   rw[hcl]at c5
   have HQ:=Lib.hid (oU (he.trans (if_pos hcl)) (by omega))
   clear hcl he
   go_enter Tryz.func22,Tryz.ntmps22
   go_wp2_with fail
   (with_reducible refine HF.out.mono ?_)
   rintro e w1 ⟨rfl,rfl⟩
   go_wp2_with fail
   go_ret
   exact dJ.no HH.out (Below.refl _ _) HQ.out
  |false=>
   rw[hcl]at c5
   rw[if_neg (by rw[hcl];decide)]at he
   have e1:IntKind.i64.wrap (4096-(l:Int))=4096-(l:Int):=IntWalk.i64_in _ (by omega)
   by_cases h6:4096<l+nb
   ·have HQ:=Lib.hid (oU (he.trans (if_pos h6)) (by omega))
    have hd6:decide ((4096:Int)-(l:Int)<(nb:Int))=true:=by simp;omega
    clear hcl he
    go_enter Tryz.func22,Tryz.ntmps22
    go_wp2_with fail
    (with_reducible refine HF.out.mono ?_)
    rintro e w1 ⟨rfl,rfl⟩
    go_wp2_with fail
    go_ret
    exact dJ.no HH.out (Below.refl _ _) HQ.out
   ·have hd6:decide ((4096:Int)-(l:Int)<(nb:Int))=false:=by simp;omega
    have HQ:Hid (bI T id bs=(0,aT id (fun x=>{x with b:=x.b++bs}) T)):=by
     show bI T id bs=_
     unfold bI
     rw[he,if_neg h6]
     rfl
    clear hcl he
    go_enter Tryz.func22,Tryz.ntmps22
    go_wp2_with fail
    (with_reducible refine HF.out.mono ?_)
    rintro e w1 ⟨rfl,rfl⟩
    go_upto_region 8 with(fail)
    go_cut [] (fun wx=>bq w r (.slice aD (List.map (fun q:Int×bf=>q.2.b) T).length cD) (.slice aE (aQ T).length cE) T wx)
    case first=>
     go_wp2_with ((at_builtin;refine fK rfl _ _ 99 rfl w.heap.size 98 _ _ 6 48 Tryz.underlying99 fA.out.1 fA.out.2.1 fA.out.2.2.1 fA.out.2.2.2 rfl (by omega) _ 0 [] rfl (bZ (MapKept.heap_alloc w _).1 (Nat.le_refl _)) _ n _ (T.flatMap bA) rfl (Kg.out.below ((Below.refl _ _).alloc (Nat.le_refl _) _) (Nat.le_refl _)) (dx _) (by unfold maxLen;omega) (by omega) (by simp) ?_;intro A1 c1' w1 hown1 hb1;have hB1:=((Below.refl w.heap.size w).alloc (Nat.le_refl _) _).trans hb1;have hf1:w1.frozen? ⟨r,0,none⟩=false:=(hB1.frozen (p:=⟨r,0,none⟩) hrw).trans hf0;have PU:=(hB1.cell (p:=⟨r,0,none⟩) hrw).trans p0))
     go_meet
     obtain⟨-,hcc,-,hrow2⟩:=mF (w:=w) hown1 (by unfold maxLen;omega) (Nat.le_refl _)
     have hn:=fV.out
     rw[List.nil_append,Nat.zero_add,hn]at hrow2
     rw[Nat.zero_add,hn]at hcc
     have:=bq.RG hrw pR.out hB1 hcc hrow2 (jM hown1)
     rw[←hn]at this
     exact this
    case rest=>
     obtain⟨w1,rfl⟩:∃w1:World,w1=wc:=⟨_,rfl⟩
     have TQ:0<n:=by omega
     have xZ:Hid ((List.map (fun q:Int×bf=>q.2.b) T).length=n):=by
      show _=_
      rw[List.length_map];exact fV.out.symm
     obtain⟨g,off,c,q0,s1,-,hlc,qf,hgr,hg1,hg2,hr1,gf,d0,d1,d2,d3,d4,d5⟩:=hcut.facts BR.out
     rw[xZ.out]at s1
     have qf1:=qf 1
     have VG:Hid (ak (Off (Grow F w w1) r) w1 aD (n*1) vs):=by
      have:=mE hcut.1 HV.out
      rw[xZ.out]at this
      rw[Nat.mul_one]
      exact this
     have VB:Hid (∀u∈vs,u.oneCell'=true):=Each.one EC.out M9.out
     obtain⟨i1,a1,b1,u1,t1⟩:=info_parts oO
     have HI1:=Lib.hid (And.intro a1 (And.intro b1 (And.intro u1 t1)))
     have HM:=Lib.hid hcut
     clear hcut qf gf hlc q0 d0 d1 d2 d3 d4 d5 hgr hg1 hg2 a1 b1 u1 t1
     go_upto_region 9 with(fail)
     go_cut [] (fun wx=>uV F w r (.slice aE (aQ T).length cE) T (List.map (fun q:Int×bf=>q.2.b) T) wx)
     case first=>
      go_wp2_with ((at_builtin;refine fK rfl _ _ 86 rfl w1.heap.size 39 _ _ 1 24 Tryz.underlying86 HI1.out.1 HI1.out.2.1 HI1.out.2.2.1 HI1.out.2.2.2 rfl (by omega) _ 0 [] rfl (bZ (MapKept.heap_alloc w1 _).1 (Nat.le_refl _)) _ n _ vs rfl (VG.out.below ((Below.refl _ _).alloc (Nat.le_refl _) _) (Nat.le_refl _)) VB.out (by unfold maxLen;omega) (by omega) (by simp) ?_;intro A1 c1' w2 hown1 hb1;have hB1:=((Below.refl w1.heap.size w1).alloc (Nat.le_refl _) _).trans hb1;have hf1:w2.frozen? ⟨r,1,none⟩=false:=(hB1.frozen (p:=⟨r,1,none⟩) hr1).trans qf1;have PU:=(hB1.cell (p:=⟨r,1,none⟩) hr1).trans s1))
      go_meet
      exact Na HM.out (by have:=fV.out;omega) TQ xZ.out hB1 hown1 (by unfold maxLen;omega) EC.out Yd.out
     case rest=>
      obtain⟨w2,rfl⟩:∃w2:World,w2=wc:=⟨_,rfl⟩
      clear s1 qf1
      obtain⟨gN,oN,cN2,gD,oD,cD2,vs2,sI⟩:=hcut
      obtain⟨ax,cx,t0,t1,t2,t3,t4⟩:=sI.facts (k:=k) (d:=x.b) (by rw[List.getElem?_map,BR.out];rfl)
      rw[xZ.out]at t1
      rw[←BN.out]at t2 t4
      have hs2:=sI.keeps.size
      have hr2:r<w2.heap.size:=by omega
      have Ye:=sI.Qf.2
      have hfD:=sI.plD.frozen (oD+k)
      have xC:=Lib.hid sI
      have HXB:=Lib.hid t4
      have HB2:Hid (ak S w2 ab nb (bs.map bv)):=Vt.out.kept hs2 fun b hb hbw=>sI.keeps.block b hbw (HSD.out b hb)
      have RH:Hid (∀w4,Below w2.heap.size w2 w4→w4.cell? ⟨r,1,none⟩=some (.slice (some ⟨gD,oD,none⟩) n cD2)∧w4.cell? ⟨gD,oD+k,none⟩=some (.slice ax l cx)∧w4.frozen? ⟨gD,oD+k,none⟩=false):=fun w4 hb=>⟨by rw[hb.cell (p:=⟨r,1,none⟩) hr2];exact t1,by rw[hb.cell (p:=⟨gD,oD+k,none⟩) Ye];exact t2,by rw[hb.frozen (p:=⟨gD,oD+k,none⟩) Ye];exact hfD⟩
      have RD:Hid (∀w4,Below w2.heap.size w2 w4→ak (fun b=>(F b∧b<w.heap.size∧b≠r)∨(w.heap.size≤b∧b<w2.heap.size∧b≠gN∧b≠gD)) w4 ax (l*1) (x.b.map bv)∧ak S w4 ab (nb*1) (bs.map bv)):=fun w4 hb=>by
       rw[Nat.mul_one,Nat.mul_one]
       exact⟨t4.below hb (Nat.le_refl _),HB2.out.below hb (Nat.le_refl _)⟩
      obtain⟨i8,a8,b8,u8,t8⟩:=info_parts Qg
      have L_:=Lib.hid (And.intro a8 (And.intro b8 (And.intro u8 t8)))
      clear sI t0 t3 t4 a8 b8 u8 t8
      go_upto_region 10 with(fail)
      go_cut [] (fun wx=>uV F w r (.slice aE (aQ T).length cE) T ((List.map (fun q:Int×bf=>q.2.b) T).set k (x.b++bs)) wx)
      case first=>
       go_wp2
       refine wp_region_noPanic ?_
       refine aH (last:=17) (S:=(fun w'=>w'.cell? ⟨r,1,none⟩=some (.slice (some ⟨gD,oD,none⟩) n cD2)∧w'.cell? ⟨gD,oD+k,none⟩=some (.slice ax l cx)∧w'.frozen? ⟨gD,oD+k,none⟩=false)) (by kernel_rfl) ?_ (fun hS=> ?_)
       ·exact RH.out _ (Below.refl _ _).drew
       refine aC 0 (hS:=hS) (h:= ?_)
       refine aC 1 (hS:=hS) (h:= ?_)
       refine aC 2 (hS:=hS) (h:= ?_)
       refine aC 3 (hS:=hS) (h:= ?_)
       refine aC 4 (hS:=hS) (h:= ?_)
       refine aC 6 (hS:=hS) (h:= ?_)
       refine aC 7 (hS:=hS) (h:= ?_)
       refine aC 8 (hS:=hS) (h:= ?_)
       refine aC 9 (hS:=hS) (h:= ?_)
       refine aC 10 (hS:=hS) (h:= ?_)
       refine aC 11 (hS:=hS) (h:= ?_)
       refine aC 12 (hS:=hS) (h:= ?_)
       refine aC 14 (hS:=hS) (h:= ?_)
       refine dh 5 (h:=fun K hK=> ?_)
       go_simp
       refine hK.out _ _ (fun _=>RH.out _ ((Below.refl _ _).drew.alloc (Nat.le_refl _) _)) (fun hS=> ?_)
       replace hS:=hS (by decide)
       clear hK K
       try simp only[Act.put,List.setIfInBounds_toArray,List.set_cons_zero,List.set_cons_succ]
       refine aj (rs:=[13]) (by kernel_rfl) (by simp) ?_
       refine ah.cons (o:= ?o1) ?ho1 (fun K hK=> ?_) ah.nil
       case ho1=>simp only[List.getElem?_toArray,List.getElem?_cons_succ,List.getElem?_cons_zero];rfl
       refine au (by rfl) (.tmp 61) (.tmp 68) 39 (by rfl) w2.heap.size 5 _ _ 1 1 Tryz.underlying39 L_.out.1 L_.out.2.1 L_.out.2.2.1 L_.out.2.2.2 rfl (by omega) _ 0 [] (by rfl) (bZ (MapKept.heap_alloc w2.drew _).1 (Nat.le_refl _)) _ l _ (x.b.map bv) (by rfl) (RD.out _ ((Below.refl _ _).drew.alloc (Nat.le_refl _) _)).1 (bU _) (by unfold maxLen;omega) (by omega) (by simp<;>omega) ?_
       intro A1 c1z u1 hown1 hb1
       have hB1:Below w2.heap.size w2 u1:=((Below.refl _ _).drew.alloc (Nat.le_refl _) _).trans hb1
       refine hK.out _ _ (fun _=>RH.out _ hB1) (fun hS=> ?_)
       replace hS:=hS (by decide)
       clear hK K
       try simp only[Act.put,List.setIfInBounds_toArray,List.set_cons_zero,List.set_cons_succ]
       refine aj (rs:=[15]) (by kernel_rfl) (by simp) ?_
       refine ah.cons (o:= ?o2) ?ho2 (fun K hK=> ?_) ah.nil
       case ho2=>simp only[List.getElem?_toArray,List.getElem?_cons_succ,List.getElem?_cons_zero];rfl
       refine au (by rfl) (.tmp 69) (.tmp 70) 39 (by rfl) w2.heap.size 5 _ _ 1 1 Tryz.underlying39 L_.out.1 L_.out.2.1 L_.out.2.2.1 L_.out.2.2.2 rfl (by omega) _ _ _ (by rfl) hown1 _ nb _ (bs.map bv) (by rfl) (RD.out _ hB1).2 (bU _) (by unfold maxLen;omega) (by omega) hB1.size ?_
       intro A2 c2z u2 hown2 hb2
       have hB2:Below w2.heap.size w2 u2:=hB1.trans hb2
       refine hK.out _ _ (fun _=>RH.out _ hB2) (fun hS=> ?_)
       replace hS:=hS (by decide)
       clear hK K
       try simp only[Act.put,List.setIfInBounds_toArray,List.set_cons_zero,List.set_cons_succ]
       refine aC 16 (hS:=hS) (h:= ?_)
       refine dh 17 (h:=fun K hK=> ?_)
       go_simp
       refine hK.out _ _ (fun h=>absurd rfl h) (fun hS=> ?_)
       clear hS hK K
       try simp only[Act.put,List.setIfInBounds_toArray,List.set_cons_zero,List.set_cons_succ]
       refine aG (by kernel_rfl) ?_ _
       refine NoPanic.normal ?_
       go_wp2_with fail
       go_meet
       exact Gd xC.out (by have:=xZ.out;omega) hB2 hown2 ⟨by simp,by rw[List.length_append,xW.out,←BN.out];omega,by omega⟩ (by unfold maxLen;omega)
      case rest=>
       obtain⟨w3,rfl⟩:∃w3:World,w3=wc:=⟨_,rfl⟩
       clear t1 t2 hfD Ye hr2
       obtain⟨gN,oN,cN3,gD,oD,cD3,vs3,TR⟩:=hcut
       obtain⟨ay,cy,t0,t1,t2,-,-⟩:=TR.facts (k:=k) (d:=x.b++bs) (List.getElem?_set_self (by have:=xZ.out;omega))
       rw[←fV.out]at t0
       rw[List.length_set,xZ.out]at t1
       rw[List.length_append,xW.out,←BN.out]at t2
       obtain⟨b',o',e',-,-,-,TS⟩:=TR.Qe.wide dG rfl BR.out (by omega)
       simp only[Option.some.injEq,Addr.mk.injEq,and_true]at e'
       obtain⟨rfl,rfl⟩:=e'
       have t3:w3.cell? ⟨gN,oN+k*6+3,none⟩=some (.int .i64 (x.b.length:Nat)):=TS 3 (by omega)
       have t4:=TR.plN.frozen (oN+k*6+3)
       have Nb:=Lib.hid TR
       have HT0:=Lib.hid t0
       clear TR TS
       go_wp2
       refine wp_region_noPanic ?_
       refine aH (last:=15) (S:=(fun w'=>w'.cell? ⟨r,0,none⟩=some (.slice (some ⟨gN,oN,none⟩) n cN3)∧w'.cell? ⟨r,1,none⟩=some (.slice (some ⟨gD,oD,none⟩) n cD3)∧w'.cell? ⟨gD,oD+k,none⟩=some (.slice ay (l+nb) cy)∧w'.cell? ⟨gN,oN+k*6+3,none⟩=some (.int .i64 (x.b.length:Nat))∧w'.frozen? ⟨gN,oN+k*6+3,none⟩=false)) (by kernel_rfl) ?_ (fun hS=> ?_)
       ·exact⟨t0,t1,t2,t3,t4⟩
       refine aC 0 (hS:=hS) (h:= ?_)
       refine aC 1 (hS:=hS) (h:= ?_)
       refine aC 2 (hS:=hS) (h:= ?_)
       refine aC 3 (hS:=hS) (h:= ?_)
       refine aC 4 (hS:=hS) (h:= ?_)
       refine aC 5 (hS:=hS) (h:= ?_)
       refine aC 6 (hS:=hS) (h:= ?_)
       refine aC 7 (hS:=hS) (h:= ?_)
       refine aC 8 (hS:=hS) (h:= ?_)
       refine aC 9 (hS:=hS) (h:= ?_)
       refine aC 10 (hS:=hS) (h:= ?_)
       refine aC 11 (hS:=hS) (h:= ?_)
       refine aC 12 (hS:=hS) (h:= ?_)
       refine aC 13 (hS:=hS) (h:= ?_)
       refine aC 14 (hS:=hS) (h:= ?_)
       refine dh 15 (h:=fun K hK=> ?_)
       go_simp
       refine hK.out _ _ (fun h=>absurd rfl h) (fun hS=> ?_)
       clear hS hK K
       try simp only[Act.put,List.setIfInBounds_toArray,List.set_cons_zero,List.set_cons_succ]
       refine aG (by kernel_rfl) ?_ _
       refine NoPanic.normal ?_
       go_wp2_with fail
       go_ret
       rw[HQ.out]
       have h7:=Kn HH.out pR.out Nb.out BR.out (q':=(id,{x with b:=x.b++bs})) (v3:= .int .i64 ((l+nb:Nat):Int)) (by
        show _=_
        have e9:(x.b++bs).length=l+nb:=by rw[List.length_append,xW.out,←BN.out]
        unfold bA
        simp only[e9]
        rfl) (.int .i64 0)
       rw[←Nat.add_assoc]at h7
       have h8:=mD (f:=fun x:bf=>{x with b:=x.b++bs}) HS.out BR.out
       have h9:=data_set (f:=fun x:bf=>{x with b:=x.b++bs}) HS.out BR.out
       simp only at h8 h9
       rw[h8,←h9]at h7
       have h10:=h7.then_ HH.out.low (Below.refl _ _).drew
       refine⟨h10.1,h10.2.1,?_⟩
       rw[kV (fun _=>by exact rfl)]
       exact h10.2.2
 ·have HQ:=Lib.hid (oU (T:=T) (id:=id) (bs:=bs) (v:=cK T id) (by
   unfold iP cK at*
   cases hx:aF id T with
   |none=>rfl
   |some x=>
    rw[hx]at h0
    by_cases hk:x.kind=2
    ·simp[hk]
    ·exact absurd (by simp[hk]) h0) h0)
  generalize cK T id=f at*
  have hne:(f==0)=false:=by simpa using h0
  have hne2:(f !=0)=true:=by simpa using h0
  clear h hT h0 hbs hbl hSr
  go_enter Tryz.func22,Tryz.ntmps22
  go_wp2_with fail
  (with_reducible refine HF.out.mono ?_)
  rintro e w1 ⟨rfl,rfl⟩
  go_wp2_with fail
  go_ret
  exact dJ.no HH.out (Below.refl _ _) HQ.out
end
section
variable {W w:World} {P:Nat→Prop} {p:Nat} {T:aI}
end
def Short (T:aI):Prop:=∀q∈T,∀e∈q.2.names,e.1.length≤1
theorem Short.aT {T:aI} (h:Short T) (k:Int) {f:bf→bf} (hf:∀x:bf,(∀e∈x.names,e.1.length≤1)→∀e∈(f x).names,e.1.length≤1):Short (Go.Proofs.YtohpcppeajijnaaGreat.aT k f T):=fun q hq=>by
 rcases rM hq with h1|⟨p,hp,_,rfl⟩
 ·exact h q h1
 ·exact hf p.2 (h p hp)
theorem Short.same {T:aI} (h:Short T) (k:Int) {f:bf→bf} (hf:∀x,(f x).names=x.names):Short (Go.Proofs.YtohpcppeajijnaaGreat.aT k f T):=h.aT k fun x hx=>by rw[hf];exact hx
def Yf (T:aI):Prop:=mO T∧Short T
structure qj (W:World) (Q P F:Nat→Prop) (w:World) (t r:Nat) (T:aI):Prop where
 tree:lC W P w t T
 ref:jr F w r T
 TT:∀x,F x→P x∧W.heap.size≤x
 RJ:∀x,Q x→P x∧¬F x
 okay:Yf T
def OC (W:World) (Q:Nat→Prop) (w:World) (t r:Nat) (T:aI):Prop:=∃P F,qj W Q P F w t r T
section
variable {W w w1 w2:World} {Q P F:Nat→Prop} {t r:Nat} {T T':aI}
theorem qj.below (h:qj W Q P F w t r T) (hb:Below w.heap.size w w1):qj W Q P F w1 t r T:=⟨h.tree.grow hb,h.ref.below hb (Nat.le_refl _),h.TT,h.RJ,h.okay⟩
theorem qj.mono {Q':Nat→Prop} (h:qj W Q P F w t r T) (hq:∀x,Q' x→Q x):qj W Q' P F w t r T:=⟨h.tree,h.ref,h.TT,fun x hx=>h.RJ x (hq x hx),h.okay⟩
theorem lC.over (h:lC W P w1 t T') (hK:Keeps (fun x=>x=r) w1 w2) (hr:P r) (hW:W.heap.size≤r):lC W (fun x=>P x∨(w1.heap.size≤x∧x<w2.heap.size)) w2 t T':=by
 obtain⟨g,D,mb,ib,nb,hA,hF⟩:=h.at_
 have hs:=h.below.size
 refine⟨⟨g,D,mb,ib,nb,hA.keeps hK fun b hb he=>(hF b hb).2 (he▸hr),fun b hb=>⟨(hF b hb).1,fun hp=> ?_⟩⟩,h.ok,h.below.trans (hK.iH hs fun x hx he=>by omega),fun x hx=> ?_⟩
 ·rcases hp with hp|hp
  ·exact(hF b hb).2 hp
  ·rcases hb with hb|hb
   ·have:=hA.low b hb;omega
   ·have:=hA.lN b hb;omega
 ·rcases hx with hx|hx
  ·have:=h.low x hx;have:=hK.size;omega
  ·exact hx.2
theorem qj.step {v1 v2:Value} {e1 e2:Ending} (h:qj W Q P F w t r T) (h1:oF W P w t T' v1 e1 w1) (h2:dJ F w1 r T' v2 e2 w2) (hO:Yf T'):OC W Q w2 t r T'∧(∀b,Q b→w2.heap[b]? =w.heap[b]?)∧w.heap.size≤w2.heap.size∧Below W.heap.size W w2:=by
 have hr:=h.TT r h.ref.own
 have h3:=h1.2.1.over h2.2.1 hr.1 hr.2
 have hlow:=h1.2.1.low
 refine⟨⟨_,_,h3,h2.2.2,fun x hx=> ?_,fun x hx=>⟨.inl (h.RJ x hx).1,fun hf=> ?_⟩,hO⟩,fun b hb=> ?_,Nat.le_trans h1.2.2.size h2.2.1.size,h3.below⟩
 ·rcases hx with hx|hx
  ·exact⟨.inl (h.TT x hx).1,(h.TT x hx).2⟩
  ·have:=h1.2.1.below.size
   exact⟨.inr hx,by omega⟩
 ·rcases hf with hf|hf
  ·exact(h.RJ x hx).2 hf
  ·have:=hlow x (h.RJ x hx).1;omega
 ·have hb1:=h.RJ b hb
  have hbw:=h.tree.low b hb1.1
  rw[h2.2.1.block b (hlow b hb1.1) (fun he=>hb1.2 (he▸h.ref.own))]
  exact h1.2.2.block b hbw (fun hw=>hw.2 hb1.1)
end
def jT (n lo hi:Int):Int:=lo+n%(hi-lo+1)
theorem Dj (n lo hi:Int) (h:lo≤hi):lo≤jT n lo hi∧jT n lo hi≤hi:=by
 unfold jT
 have h1:=Int.emod_nonneg n (show hi-lo+1≠0 by omega)
 have h2:=Int.emod_lt_of_pos n (show 0<hi-lo+1 by omega)
 omega
theorem Gf {n:Int} (h:(Lit.int .i64 n).wf=true): -9223372036854775808≤n∧n≤9223372036854775807:=by
 simp[Lit.wf,IntKind.min,IntKind.max,IntKind.signed,IntKind.bits]at h
 omega
theorem Dk (n lo hi:Int) (w:World) (hn:(Lit.int .i64 n).wf=true) (h1:0≤lo) (h2:lo≤hi) (h3:hi≤1099511627776):
  Calls Tryz.prog 21 #[.int .i64 n, .int .i64 lo, .int .i64 hi] w fun e w'=>e= .returned (.int .i64 (jT n lo hi))∧w=w':=by
 obtain⟨hw1,hw2⟩:=Gf hn
 clear hn
 have t1:=Int.tmod_lt_of_pos n (show 0<hi-lo+1 by omega)
 have t2:=Int.lt_tmod_of_pos n (show 0<hi-lo+1 by omega)
 have t3:=Int.emod_nonneg n (show hi-lo+1≠0 by omega)
 have t4:=Int.emod_lt_of_pos n (show 0<hi-lo+1 by omega)
 by_cases hn:0≤n
 ·have hx:¬n%(hi-lo+1)<0:=by omega
  go_enter Tryz.func21,Tryz.ntmps21
  go_wp2
  go_ret
  exact⟨fP (by unfold jT;rfl),rfl⟩
 ·have hE:n%(hi-lo+1)=if n.tmod (hi-lo+1)<0 then n.tmod (hi-lo+1)+(hi-lo+1)else n.tmod (hi-lo+1):=by
   have h5:=Int.emod_add_mul_ediv n (hi-lo+1)
   have h6:=Int.tmod_add_mul_tdiv n (hi-lo+1)
   have h7:(n.tmod (hi-lo+1))%(hi-lo+1)=n%(hi-lo+1):=by
    have h8:n=n.tmod (hi-lo+1)+(hi-lo+1)*n.tdiv (hi-lo+1):=by omega
    rw[←Int.add_mul_emod_self_left (n.tmod (hi-lo+1)) (hi-lo+1) (n.tdiv (hi-lo+1)),←h8]
   split
   ·rw[←h7,←Int.add_emod_right,Int.emod_eq_of_lt (by omega) (by omega)]
   ·rw[←h7,Int.emod_eq_of_lt (by omega) (by omega)]
  have HE:=Lib.hid hE
  clear hE
  by_cases ht:n.tmod (hi-lo+1)<0
  ·go_enter Tryz.func21,Tryz.ntmps21
   go_wp2
   go_ret
   exact⟨fP (by unfold jT;rw[HE.out,if_pos ht];omega),rfl⟩
  ·go_enter Tryz.func21,Tryz.ntmps21
   go_wp2
   go_ret
   exact⟨fP (by unfold jT;rw[HE.out,if_neg (by omega)]),rfl⟩
def jZ:List (List Nm):=[[[97]],[[98]],[[99]],[[97],[97]],[[97],[98]],[[98],[97]],[[98],[98],[97]],[],[[99],[97]],[[98],[98]],[[65]],[[97],[]],[[46]]]
def iM (w:World):List Obj→World
 |[]=>w
 |o::r=>iM (w.alloc o) r
theorem lI:∀(os:List Obj) (w w0:World),w0.heap.size≤w.heap.size→Below w0.heap.size w0 w→Below w0.heap.size w0 (iM w os)
 |[],w,w0,_,h=>h
 |o::r,w,w0,hs,h=>lI r (w.alloc o) w0 (by simp;omega) (h.alloc hs o)
theorem ql:∀(os:List Obj) (w:World),(iM w os).heap.size=w.heap.size+os.length
 |[],w=>rfl
 |o::r,w=>by
  show(iM (w.alloc o) r).heap.size=_
  rw[ql r,World.size_alloc,List.length_cons]
  omega
theorem kP:∀(os:List Obj) (w:World) (i:Nat) (o:Obj),os[i]? =some o→(iM w os).heap[w.heap.size+i]? =some o
 |[],w,i,o,h=>by simp at h
 |x::r,w,0,o,h=>by
  simp only[List.getElem?_cons_zero,Option.some.injEq]at h
  subst h
  have h1:=lI r (w.alloc x) (w.alloc x) (Nat.le_refl _) (Below.refl _ _)
  exact(h1.block w.heap.size (by simp)).trans (MapKept.heap_alloc w x).1
 |x::r,w,i+1,o,h=>by
  have:=kP r (w.alloc x) i o (by simpa using h)
  rw[World.size_alloc]at this
  rw[show w.heap.size+(i+1)=w.heap.size+1+i by omega]
  exact this
def Ko (w:World) (ls:List Nm) (e:Ending) (w':World):Prop:=
 ∃a c,e= .returned (.slice a ls.length c)∧ls.length≤c∧aW (fun x=>w.heap.size≤x∧x<w'.heap.size) w' a ls.length (ls.map strOf)∧Below w.heap.size w w'
def yI (w:World) (v:Value) (wx:World):Prop:=
 ∃g,v= .slice (some ⟨g,0,none⟩) 13 13∧g<wx.heap.size∧Below w.heap.size w wx∧∀(j:Nat) (ls:List Nm),jZ[j]? =some ls→∃a c,wx.cell? ⟨g,j,none⟩=some (.slice a ls.length c)∧ls.length≤c∧aW (fun x=>w.heap.size≤x∧x<wx.heap.size) wx a ls.length (ls.map strOf)
def dL (ls:List Nm):Obj:= .cells (ls.map fun n=>Value.string (strOf n)).toArray 9
theorem Kq {w0 w:World} {g:Nat} {ls:List Nm} (h:w.heap[g]? =some (dL ls)) (hg:w0.heap.size≤g) (hs:ls.length≤3) (hl:∀n∈ls,n.length≤3):aW (fun x=>w0.heap.size≤x∧x<w.heap.size) w (some ⟨g,0,none⟩) ls.length (ls.map strOf):=by
 have hgw:=(Array.getElem?_eq_some_iff.1 h).1
 refine⟨⟨by simp,by unfold maxLen;omega,fun _=>⟨g,0,rfl,⟨hg,hgw⟩,hgw,fun i hi=> ?_⟩⟩,fun s hs'=> ?_⟩
 ·simp only[World.cell?,h,dL]
  simp
  rfl
 ·obtain⟨n,hn,rfl⟩:=List.mem_map.1 hs'
  rw[gT]
  have:=hl n hn
  unfold maxLen;omega
def wK (B:Nat):List Value:=[.slice (some ⟨B,0,none⟩) 1 1, .slice (some ⟨B+1,0,none⟩) 1 1, .slice (some ⟨B+2,0,none⟩) 1 1, .slice (some ⟨B+3,0,none⟩) 2 2, .slice (some ⟨B+4,0,none⟩) 2 2, .slice (some ⟨B+5,0,none⟩) 2 2, .slice (some ⟨B+6,0,none⟩) 3 3, .slice none 0 0, .slice (some ⟨B+7,0,none⟩) 2 2, .slice (some ⟨B+8,0,none⟩) 2 2, .slice (some ⟨B+9,0,none⟩) 1 1, .slice (some ⟨B+10,0,none⟩) 2 2, .slice (some ⟨B+11,0,none⟩) 1 1]
def iy (B:Nat):List Obj:=[dL [[97]],dL [[98]],dL [[99]],dL [[97],[97]],dL [[97],[98]],dL [[98],[97]],dL [[98],[98],[97]],dL [[99],[97]],dL [[98],[98]],dL [[65]],dL [[97],[]],dL [[46]], .cells (wK B).toArray 26]
theorem Dl (w:World):yI w (.slice (some ⟨w.heap.size+12,0,none⟩) 13 13) (iM w (iy w.heap.size)):=by
 have hsz:=ql (iy w.heap.size) w
 have hl:(iy w.heap.size).length=13:=rfl
 rw[hl]at hsz
 refine⟨w.heap.size+12,rfl,by omega,lI _ w w (Nat.le_refl _) (Below.refl _ _),fun j ls hj=> ?_⟩
 have hcell:∀v,(wK w.heap.size)[j]? =some v→(iM w (iy w.heap.size)).cell? ⟨w.heap.size+12,j,none⟩=some v:=fun v hv=>by
  have:=kP (iy w.heap.size) w 12 _ rfl
  simp only[World.cell?,this]
  simpa using hv
 have key:∀(i n:Nat) (ls':List Nm),(iy w.heap.size)[i]? =some (dL ls')→(wK w.heap.size)[j]? =some (.slice (some ⟨w.heap.size+i,0,none⟩) n n)→ls'.length=n→ls'.length≤3→(∀x∈ls',x.length≤3)→ls'=ls→
   ∃a c,(iM w (iy w.heap.size)).cell? ⟨w.heap.size+12,j,none⟩=some (.slice a ls.length c)∧ls.length≤c∧aW (fun x=>w.heap.size≤x∧x<(iM w (iy w.heap.size)).heap.size) (iM w (iy w.heap.size)) a ls.length (ls.map strOf):=fun i n ls' h1 h2 h3 h4 h5 h6=>by
  subst h6
  exact⟨_,n,by rw[h3];exact hcell _ h2,by omega,Kq (kP _ w i _ h1) (by omega) h4 h5⟩
 match j,hj with
 |0,hj=>exact key 0 1 [[97]] rfl rfl rfl (by decide) (by decide) (Option.some.inj hj)
 |1,hj=>exact key 1 1 [[98]] rfl rfl rfl (by decide) (by decide) (Option.some.inj hj)
 |2,hj=>exact key 2 1 [[99]] rfl rfl rfl (by decide) (by decide) (Option.some.inj hj)
 |3,hj=>exact key 3 2 [[97],[97]] rfl rfl rfl (by decide) (by decide) (Option.some.inj hj)
 |4,hj=>exact key 4 2 [[97],[98]] rfl rfl rfl (by decide) (by decide) (Option.some.inj hj)
 |5,hj=>exact key 5 2 [[98],[97]] rfl rfl rfl (by decide) (by decide) (Option.some.inj hj)
 |6,hj=>exact key 6 3 [[98],[98],[97]] rfl rfl rfl (by decide) (by decide) (Option.some.inj hj)
 |7,hj=>
  have:([]:List Nm)=ls:=Option.some.inj hj
  subst this
  exact⟨none,0,hcell _ rfl,Nat.le_refl _,⟨ak.nil _ _ _,by simp⟩⟩
 |8,hj=>exact key 7 2 [[99],[97]] rfl rfl rfl (by decide) (by decide) (Option.some.inj hj)
 |9,hj=>exact key 8 2 [[98],[98]] rfl rfl rfl (by decide) (by decide) (Option.some.inj hj)
 |10,hj=>exact key 9 1 [[65]] rfl rfl rfl (by decide) (by decide) (Option.some.inj hj)
 |11,hj=>exact key 10 2 [[97],[]] rfl rfl rfl (by decide) (by decide) (Option.some.inj hj)
 |12,hj=>exact key 11 1 [[46]] rfl rfl rfl (by decide) (by decide) (Option.some.inj hj)
 |j+13,hj=>simp[jZ]at hj
def nL (n:Int):Nat:=(jT n 0 1048576%13).toNat
def kE (n:Int):List Nm:=jZ.getD (nL n) []
theorem zJ (n:Int):(kE n).length≤3:=by
 unfold kE
 rw[List.getD_eq_getElem?_getD]
 cases h:jZ[nL n]? with
 |none=>simp
 |some ls=>
  have:=List.mem_of_getElem? h
  revert ls
  intro ls _ hm
  have:∀l∈jZ,l.length≤3:=by decide
  exact this ls hm
set_option maxHeartbeats 4000000 in
theorem Gg (n:Int) (hn:(Lit.int .i64 n).wf=true) (w:World):Calls Tryz.prog 98 #[.int .i64 n] w (Ko w (kE n)):=by
 have hw:=Dj n 0 1048576 (by omega)
 have HW:=Lib.hid (fun w1=>Dk n 0 1048576 w1 hn (by omega) (by omega) (by omega))
 have hI:(nL n:Int)=jT n 0 1048576%13:=by unfold nL;omega
 have hI2:nL n<13:=by unfold nL;omega
 obtain⟨ls,hls⟩:∃ls,jZ[nL n]? =some ls:=⟨_,List.getElem?_eq_getElem (show nL n<jZ.length by simpa[jZ]using hI2)⟩
 have hL:kE n=ls:=by unfold kE;rw[List.getD_eq_getElem?_getD,hls];rfl
 rw[hL]
 generalize jT n 0 1048576=v at*
 generalize nL n=j at*
 have HLS:=Lib.hid hls
 have e1:v%13=(j:Int):=hI.symm
 have j0:(0:Int)≤j:=by omega
 have j1:(j:Int)<13:=by omega
 clear hls hL hI hn
 go_enter Tryz.func98,Tryz.ntmps98
 go_upto_region 1 with(fail)
 go_cut [3]from 4 to 16 (fun v wx=>yI w v wx)
 case first=>
  go_wp2_with fail
  go_meet
  exact Dl w
 case rest=>
  obtain⟨g,rfl,hg,hB,hc⟩:=hcut
  obtain⟨w1,rfl⟩:∃w1:World,w1=wc:=⟨_,rfl⟩
  obtain⟨a,c,hc1,hc2,hc3⟩:=hc j ls HLS.out
  have HS:=Lib.hid hc3
  have HB:=Lib.hid hB
  clear hc hc3 hB
  go_wp2_with fail
  (with_reducible refine(HW.out _).mono ?_)
  rintro e w2 ⟨rfl,rfl⟩
  go_wp2_with fail
  go_ret
  exact⟨a,c,rfl,hc2,HS.out,HB.out⟩
end Go.Proofs.YtohpcppeajijnaaGreat
