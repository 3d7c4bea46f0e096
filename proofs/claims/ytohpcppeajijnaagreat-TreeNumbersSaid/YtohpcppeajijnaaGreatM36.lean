/- The reference: Append. A law's own tree: Look, Unlink, Rmdir, Rename, Drop, List. The tree and the reference's, side by side. permafrostbook.Within. permafrostkeep.Names. permafrostbook.Same at texts. permafrostkeep.Cut. permafrostlaw11.do. Arguments opened: lists of permafrostlaw11.Ask. -/
import Derived.Test.YtohpcppeajijnaaGreatM33
import Derived.Test.YtohpcppeajijnaaGreatM27
import Derived.Test.YtohpcppeajijnaaGreatM20
import Derived.Test.YtohpcppeajijnaaGreatM35
import Derived.Test.YtohpcppeajijnaaGreatM01
import Derived.Test.YtohpcppeajijnaaGreatM10
import Derived.Deep.CutBlock
import Derived.Deep.DeepCutAuto
import Derived.Test.YtohpcppeajijnaaGreatM22
import Derived.BigQuiet
import Derived.Deep.QuietTactic
import Derived.Test.YtohpcppeajijnaaGreatM14
import Derived.Test.YtohpcppeajijnaaGreatM32
namespace Go.Proofs.YtohpcppeajijnaaGreat
open Go.ChangeShapes Go.WideShapes Go.ChangeAt Go.RowKit
set_option linter.unusedVariables false
set_option linter.unusedSimpArgs false
theorem oL {T:aH} {id:Int} {bs:List UInt8} {v:Int} (h:jc T id bs=v) (hv:v≠0):bT T id bs=(v,T):=by
 unfold bT
 rw[h,if_neg hv]
structure vO (F:Nat→Prop) (w:World) (r:Nat) (x2:Value) (T:aH) (D:List (List UInt8)) (gN oN cN gD oD cD:Nat) (vs:List Value) (wx:World):Prop where
 keeps:Keeps (fun x=>x=r) w wx
 Xv:r<w.heap.size
 head:wx.heap[r]? =some (.cells #[.slice (some ⟨gN,oN,none⟩) T.length cN, .slice (some ⟨gD,oD,none⟩) D.length cD,x2] 102 (0,0))
 Pz:T.length≤cN
 PD:D.length≤cD
 Ng:ak (fun b=>b=gN) wx (some ⟨gN,oN,none⟩) (T.length*6) (T.flatMap bV)
 Xw:Plain wx (some ⟨gN,oN,none⟩)
 Kt:ak (fun b=>b=gD) wx (some ⟨gD,oD,none⟩) D.length vs
 Xx:Plain wx (some ⟨gD,oD,none⟩)
 PE:w.heap.size≤gN∧gN<wx.heap.size
 Nh:w.heap.size≤gD∧gD<wx.heap.size
 ne:gN≠gD
 each:Each (fun b=>(F b∧b<w.heap.size∧b≠r)∨(w.heap.size≤b∧b<wx.heap.size∧b≠gN∧b≠gD)) wx vs D
def ug (F:Nat→Prop) (w:World) (r:Nat) (x2:Value) (T:aH) (D:List (List UInt8)) (wx:World):Prop:=∃gN oN cN gD oD cD vs,vO F w r x2 T D gN oN cN gD oD cD vs wx
theorem Ku {F:Nat→Prop} {w w1 w2:World} {r n c:Nat} {x1 x2:Value} {T:aH} {D:List (List UInt8)} {a:Option Addr} {vs:List Value} (hm:bL w r x1 x2 T w1) (hT:0<T.length) (hn:0<n) (hD:D.length=n) (hb:Below w1.heap.size w1 w2)
  (hown:w2.ownsRow w1.heap.size 39 1 (.slice a (0+n) c) (0+n) ([]++vs)) (hmx:(0+n)*1≤maxLen) (he:Each (Off F r) w vs D) (hlow:∀b,F b→b<w.heap.size):ug F w r x2 T D (w2.setCell ⟨r,1,none⟩ (.slice a n c)):=by
 obtain⟨hK,hr,aN,cN,h2,h3,h4,h5⟩:=hm
 have hs1:=hK.size
 have hs2:=hb.size
 obtain⟨-,hcc,-,hrow⟩:=ak.qM hown hmx
 rw[Nat.zero_add]at hcc
 rw[Nat.zero_add,Nat.mul_one,List.nil_append]at hrow
 obtain⟨gN,oN,rfl,OT,hbN,-⟩:=h4.at_ (by omega)
 obtain⟨gD,oD,rfl,W_,hbD,-⟩:=hrow.at_ (by omega)
 have hp:=jq hown
 have TH:=OT.1
 have Zg:=W_.1
 have TI:gN≠r:=by omega
 have TJ:gD≠r:=by omega
 have Zh:ak (fun b=>b=gN) w1 (some ⟨gN,oN,none⟩) (T.length*6) (T.flatMap bV):=⟨h4.length,h4.small,fun h0=>by
  obtain⟨b,o,e,_,hb',hc'⟩:=h4.at_ h0
  simp only[Option.some.injEq,Addr.mk.injEq,and_true]at e
  obtain⟨rfl,rfl⟩:=e
  exact⟨_,_,rfl,rfl,hb',hc'⟩⟩
 have Zi:ak (fun b=>b=gD) w2 (some ⟨gD,oD,none⟩) n vs:=⟨hrow.length,hrow.small,fun h0=>by
  obtain⟨b,o,e,_,hb',hc'⟩:=hrow.at_ h0
  simp only[Option.some.injEq,Addr.mk.injEq,and_true]at e
  obtain⟨rfl,rfl⟩:=e
  exact⟨_,_,rfl,rfl,hb',hc'⟩⟩
 have hDn:=hD
 have hK2:Keeps (fun x=>x=r) w w2:=hK.trans (Keeps.below hb) (fun x hx hf=>by omega)
 refine⟨gN,oN,cN,gD,oD,c,vs,⟨hK2.trans (Keeps.gX _ _ _) fun x _ hx=>hx,hr,?_,h3,by rw[hDn];exact hcc,?_,?_,?_,?_,⟨TH,by rw[size_set];omega⟩,⟨by omega,by rw[size_set];exact hbD⟩,by omega,?_⟩⟩
 ·rw[bJ ((hb.block r (by omega)).trans h2),hDn]
  rfl
 ·exact(Zh.below hb (Nat.le_refl _)).apart ⟨r,1,none⟩ _ fun b hb'=>by subst hb';exact TI
 ·exact(h5.kept fun g off e=>by
   simp only[Option.some.injEq,Addr.mk.injEq,and_true]at e
   obtain⟨rfl,_⟩:=e
   exact hb.block _ hbN).gX _ _ rfl
 ·rw[hDn]
  exact Zi.apart ⟨r,1,none⟩ _ fun b hb'=>by subst hb';exact TJ
 ·exact hp.gX _ _ rfl
 ·refine he.move (by rw[size_set];omega) fun b hb' hbw=>⟨.inl ⟨hb'.1,hbw,hb'.2⟩,?_⟩
  rw[bg _ _ _ _ hb'.2]
  exact hK2.block b hbw hb'.2
theorem EA {F:Nat→Prop} {w w2 u:World} {r gN oN cN gD oD cD k c n m:Nat} {x2:Value} {T:aH} {D:List (List UInt8)} {vs:List Value} {a:Option Addr} {nb:List UInt8} {ys:List Value} (h:vO F w r x2 T D gN oN cN gD oD cD vs w2) (hk:k<D.length) (hb:Below w2.heap.size w2 u)
  (hown:u.ownsRow w2.heap.size 5 1 (.slice a m c) m ys) (hys:ys=nb.map bv∧m=nb.length∧n=m) (hmx:m*1≤maxLen):ug F w r x2 T (D.set k nb) (u.setCell ⟨gD,oD+k,none⟩ (.slice a n c)):=by
 obtain⟨rfl,rfl,rfl⟩:=hys
 have hs:=hb.size
 have hs0:=h.keeps.size
 have TK:=h.PE
 have hnD:=h.Nh
 have hne:=h.ne
 have PG:=h.Xv
 obtain⟨a',c',e,hlc,hcm⟩:=wX hown
 simp only[Value.slice.injEq,true_and]at e
 obtain⟨rfl,rfl⟩:=e
 obtain⟨-,-,-,hrow⟩:=ak.qM hown hmx
 rw[Nat.mul_one]at hrow
 have hK2:Keeps (fun x=>x=r) w u:=h.keeps.trans (Keeps.below hb) (fun x hx hf=>by omega)
 have hK3:Keeps (fun x=>x=r) w (u.setCell ⟨gD,oD+k,none⟩ (.slice a nb.length c)):=hK2.trans (fp':=fun x=>x=gD) (Keeps.gX u ⟨gD,oD+k,none⟩ _) (fun x hx hf=>by omega)
 refine⟨gN,oN,cN,gD,oD,cD,vs.set k (.slice a nb.length c),⟨hK3,PG,?_,h.Pz,by rw[List.length_set];exact h.PD,?_,?_,?_,?_,⟨TK.1,by rw[size_set];omega⟩,⟨hnD.1,by rw[size_set];omega⟩,hne,?_⟩⟩
 ·rw[bg _ _ _ _ (show r≠gD by omega),List.length_set]
  exact(hb.block r (by omega)).trans h.head
 ·exact(h.Ng.below hb (Nat.le_refl _)).apart ⟨gD,oD+k,none⟩ _ fun b hb'=>by subst hb';exact hne
 ·exact(h.Xw.kept fun g off e=>by
   simp only[Option.some.injEq,Addr.mk.injEq,and_true]at e
   obtain⟨rfl,_⟩:=e
   exact hb.block _ TK.2).gX _ _ rfl
 ·have:=(h.Kt.below hb (Nat.le_refl _)).gX (j:=k) hk (.slice a nb.length c)
  rw[List.length_set]
  exact this
 ·exact(h.Xx.kept fun g off e=>by
   simp only[Option.some.injEq,Addr.mk.injEq,and_true]at e
   obtain⟨rfl,_⟩:=e
   exact hb.block _ hnD.2).gX _ _ rfl
 ·have hvl:vs.length=D.length:=h.Kt.length
  intro i b hbi
  by_cases hik:i=k
  ·subst hik
   rw[List.getElem?_set_self hk]at hbi
   cases hbi
   refine⟨a,c,List.getElem?_set_self (by omega),⟨hlc,hcm⟩,?_⟩
   exact hrow.move (by rw[size_set];exact Nat.le_refl _) fun b hb1 hb2=>⟨.inr ⟨by omega,by rw[size_set];exact hb2,by omega,by omega⟩,bg _ _ _ _ (show b≠gD by omega)⟩
  ·rw[List.getElem?_set_ne (Ne.symm hik)]at hbi⊢
   obtain⟨a2,c2,e1,e2,e3⟩:=h.each i b hbi
   refine⟨a2,c2,e1,e2,e3.move (by rw[size_set];omega) fun b hb1 hb2=>⟨?_,?_⟩⟩
   ·rcases hb1 with hb1|hb1
    ·exact .inl hb1
    ·exact .inr ⟨hb1.1,by rw[size_set];omega,hb1.2.2⟩
   ·have:b≠gD:=by rcases hb1 with hb1|hb1<;>omega
    rw[bg _ _ _ _ this]
    exact hb.block b hb2
theorem Hg {F:Nat→Prop} {w w3:World} {r gN oN cN gD oD cD k:Nat} {x0 x1 x2:Value} {T:aH} {D0 D:List (List UInt8)} {E:List iF} {vs:List Value} {q q':Int×bF} {v3:Value} (hR:fT F w r T D0 E) (h1:w.heap[r]? =some (.cells #[x0,x1,x2] 102 (0,0))) (h:vO F w r x2 T D gN oN cN gD oD cD vs w3) (hq:T[k]? =some q) (hv:bV q'=(bV q).set 3 v3) (v:Value):
  dh F w r (T.set k q') D E v (.returned v) (w3.setCell ⟨gN,oN+(k*6+3),none⟩ v3):=by
 have TK:=h.PE
 have hnD:=h.Nh
 have hne:=h.ne
 have PG:=h.Xv
 have hkl:k<T.length:=(List.getElem?_eq_some_iff.1 hq).1
 obtain⟨aN,SI,aD,cD',aE,cE,g1,-,g3,g4,-,g9,g10,g11⟩:=hR.head
 rw[h1]at g1
 simp only[Option.some.injEq,Obj.cells.injEq,Array.mk.injEq,List.cons.injEq,and_true,true_and]at g1
 obtain⟨-,-,rfl⟩:=g1
 have hK3:Keeps (fun x=>x=r) w (w3.setCell ⟨gN,oN+(k*6+3),none⟩ v3):=h.keeps.trans (fp':=fun x=>x=gN) (Keeps.gX w3 ⟨gN,oN+(k*6+3),none⟩ _) (fun x hx hf=>by omega)
 refine⟨rfl,hK3,hR.turn (aN:=some ⟨gN,oN,none⟩) (aD:=some ⟨gD,oD,none⟩) (cN:=cN) (cD:=cD) hK3 ?_ (by rw[List.length_set];exact h.Pz) h.PD g4 ?_ ⟨vs,?_,?_⟩ (lN hK3 g10) g11⟩
 ·rw[bg _ _ _ _ (show r≠gN by omega),List.length_set]
  exact h.head
 ·have:=h.Ng.gX (j:=k*6+3) (by omega) v3
  rw[su bV 6 dM (by omega) hv T k hq]at this
  rw[List.length_set]
  exact this.mono fun b hb=>⟨.inr ⟨by omega,by rw[size_set];omega⟩,by omega⟩
 ·exact(h.Kt.apart ⟨gN,oN+(k*6+3),none⟩ v3 fun b hb=>by subst hb;exact Ne.symm hne).mono fun b hb=>⟨.inr ⟨by omega,by rw[size_set];omega⟩,by omega⟩
 ·refine h.each.move (by rw[size_set];exact Nat.le_refl _) fun b hb1 hb2=>⟨⟨?_,?_⟩,?_⟩
  ·rcases hb1 with hb1|hb1
   ·exact .inl hb1.1
   ·exact .inr ⟨hb1.1,by rw[size_set];exact hb1.2.1⟩
  ·rcases hb1 with hb1|hb1
   ·exact hb1.2.2
   ·omega
  ·exact bg _ _ _ _ (show b≠gN by rcases hb1 with hb1|hb1<;>omega)
theorem vO.facts {F:Nat→Prop} {w wx:World} {r gN oN cN gD oD cD k:Nat} {x2:Value} {T:aH} {D:List (List UInt8)} {vs:List Value} (h:vO F w r x2 T D gN oN cN gD oD cD vs wx) {d:List UInt8} (hd:D[k]? =some d):∃a c,wx.cell? ⟨r,0,none⟩=some (.slice (some ⟨gN,oN,none⟩) T.length cN)∧wx.cell? ⟨r,1,none⟩=some (.slice (some ⟨gD,oD,none⟩) D.length cD)∧wx.cell? ⟨gD,oD+k,none⟩=some (.slice a d.length c)∧qz d.length c∧ak (fun b=>(F b∧b<w.heap.size∧b≠r)∨(w.heap.size≤b∧b<wx.heap.size∧b≠gN∧b≠gD)) wx a d.length (d.map bv):=by
 obtain⟨a,c,e1,e2,e3⟩:=h.each k d hd
 have hk:k<D.length:=(List.getElem?_eq_some_iff.1 hd).1
 obtain⟨p0,p1,-,-⟩:=eB h.head
 obtain⟨b,o,e,-,hb,hc⟩:=h.Kt.at_ (by omega)
 simp only[Option.some.injEq,Addr.mk.injEq,and_true]at e
 obtain⟨rfl,rfl⟩:=e
 exact⟨a,c,p0,p1,(hc k hk).trans e1,e2,e3⟩
section
variable {F:Nat→Prop} {r:Nat} {T:aH}
theorem Ni:(Tryz.prog.info? 5).map (fun i=>(i.zero,i.size,i.bytes))=some (some (.int .u8 0),1,1):=by kernel_rfl
set_option maxRecDepth 100000 in
set_option maxHeartbeats 16000000 in
theorem zO {S:Nat→Prop} (id:Int) (ab:Option Addr) (nb cb:Nat) (bs:List UInt8) (w:World) (h:gU F w r T) (hT:dA T) (hbs:ak S w ab nb (bs.map bv)) (hSr:∀b,S b→b≠r) (hnb:nb≤1000000):
  Calls Tryz.prog 22 #[ptr r, .int .i64 id, .slice ab nb cb] w (bA F w r (bT T id bs).2 (.int .i64 (bT T id bs).1)):=by
 have hbl:bs.length=nb:=by have:=hbs.length;simpa using this
 have HF:=Lib.hid (mM id w h hT.totF)
 have hr0:=h.low r h.own
 have HH:=Lib.hid h
 by_cases h0:bK T id=0
 ·obtain⟨x,hx,hk⟩:∃x,aj id T=some x∧x.kind≠2:=by
   unfold bK at h0
   cases hx:aj id T with
   |none=>rw[hx]at h0;cases h0
   |some x=>
    rw[hx]at h0
    exact⟨x,rfl,fun hk=>by simp[hk]at h0⟩
  obtain⟨k,hi,hq⟩:=iO hT.sorted hx
  have hrf:zB T id=k:=by unfold zB;rw[if_pos h0];exact hi
  rw[hrf,h0]at HF
  obtain⟨bN,oN,cN,hc0,hO,hbw,hkl,c0,c1,c2,c3,c4,c5⟩:=h.node hq
  simp only at c0 c1 c2 c3 c4 c5
  have i0:(0:Int)≤k:=by omega
  have hlen:=hT.len
  have xE:=Lib.hid hq
  have HS:=Lib.hid hT.sorted
  obtain⟨i6,a6,b6,s6,d6⟩:=info_parts nodeInfo
  have fD:=Lib.hid (And.intro a6 (And.intro b6 (And.intro s6 d6)))
  obtain⟨aN,SI,aD,cD,aE,cE,h1,h2,h3,h4,h8,h9,h10,h11⟩:=h.head
  obtain⟨p0,p1,p2,pf⟩:=eB h1
  rw[p0]at hc0
  simp only[Option.some.injEq,Value.slice.injEq,true_and]at hc0
  obtain⟨rfl,rfl⟩:=hc0
  have nM:=Lib.hid h1
  have QD:=Lib.hid hbs
  have Fa:=Lib.hid h8
  obtain⟨n,hn⟩:∃n,n=T.length:=⟨_,rfl⟩
  rw[←hn]at p0 hlen hkl h2 Fa
  have gW:=Lib.hid hn
  have hf0:=pf 0
  have hfp:=hO.2
  have i1:(k:Int)<n:=by omega
  have hrw:=hr0
  have hsz:=(hT.each id x hx).size
  have TL:=Lib.hid h.low
  obtain⟨vs,hv,sZ⟩:=h9
  have nN:=Lib.hid (hT.each id x hx)
  have HX:=Lib.hid hx
  have hkx:=hk
  clear a6 b6 s6 d6 h1 h8 h10 h11 hi hrf h hq hn p1 p2 pf hO hT h0 hbs
  have he:jc T id bs=if x.closed then 27 else if 4096<x.b.length+bs.length then 15 else 0:=by
   unfold jc
   rw[hx]
   simp only[if_neg hk]
  rw[hbl]at he
  obtain⟨l,hl⟩:∃l,l=x.b.length:=⟨_,rfl⟩
  rw[←hl]at he hsz c3
  have DI:=Lib.hid hbl
  have CK:=Lib.hid hl
  have HV:=Lib.hid hv
  have CY:Hid (Each (Off F r) w vs (T.map fun q=>q.2.b)):=sZ
  have Kr:=Lib.hid hv.length
  have Zj:=Lib.hid hSr
  clear hx hk hl hv sZ hbl hSr
  cases hcl:x.closed with
  |true=>
   rw[hcl]at c5
   have HQ:=Lib.hid (oL (he.trans (if_pos hcl)) (by omega))
   clear hcl he
   go_enter Tryz.func22,Tryz.ntmps22
   go_wp2_with fail
   (with_reducible refine HF.out.mono ?_)
   rintro e w1 ⟨rfl,rfl⟩
   go_wp2_with fail
   go_ret
   exact bA.no HH.out (Below.refl _ _) HQ.out
  |false=>
   rw[hcl]at c5
   rw[if_neg (by rw[hcl];decide)]at he
   have e1:IntKind.i64.wrap (4096-(l:Int))=4096-(l:Int):=IntWalk.i64_in _ (by omega)
   by_cases h6:4096<l+nb
   ·have HQ:=Lib.hid (oL (he.trans (if_pos h6)) (by omega))
    have hd6:decide ((4096:Int)-(l:Int)<(nb:Int))=true:=by simp;omega
    clear hcl he
    go_enter Tryz.func22,Tryz.ntmps22
    go_wp2_with fail
    (with_reducible refine HF.out.mono ?_)
    rintro e w1 ⟨rfl,rfl⟩
    go_wp2_with fail
    go_ret
    exact bA.no HH.out (Below.refl _ _) HQ.out
   ·have hd6:decide ((4096:Int)-(l:Int)<(nb:Int))=false:=by simp;omega
    have HQ:Hid (bT T id bs=(0,bf id (fun x=>{x with b:=x.b++bs}) T)):=by
     show bT T id bs=_
     unfold bT
     rw[he,if_neg h6]
     rfl
    clear hcl he
    go_enter Tryz.func22,Tryz.ntmps22
    go_wp2_with fail
    (with_reducible refine HF.out.mono ?_)
    rintro e w1 ⟨rfl,rfl⟩
    go_upto_region 8 with(fail)
    go_cut [] (fun wx=>bL w r (.slice aD (List.map (fun q:Int×bF=>q.2.b) T).length cD) (.slice aE (aU T).length cE) T wx)
    case first=>
     go_wp2_with ((at_builtin;refine eY rfl _ _ 99 rfl w.heap.size 98 _ _ 6 48 Tryz.underlying99 fD.out.1 fD.out.2.1 fD.out.2.2.1 fD.out.2.2.2 rfl (by omega) _ 0 [] rfl (dB (MapKept.heap_alloc w _).1 (Nat.le_refl _)) _ n _ (T.flatMap bV) rfl (Fa.out.below ((Below.refl _ _).alloc (Nat.le_refl _) _) (Nat.le_refl _)) (dI _) (by unfold maxLen;omega) (by omega) (by simp) ?_;intro A1 c1' w1 hown1 hb1;have hB1:=((Below.refl w.heap.size w).alloc (Nat.le_refl _) _).trans hb1;have hf1:w1.frozen? ⟨r,0,none⟩=false:=(hB1.frozen (p:=⟨r,0,none⟩) hrw).trans hf0;have Kn:=(hB1.cell (p:=⟨r,0,none⟩) hrw).trans p0))
     go_meet
     obtain⟨-,hcc,-,hrow2⟩:=kP (w:=w) hown1 (by unfold maxLen;omega) (Nat.le_refl _)
     have hn:=gW.out
     rw[List.nil_append,Nat.zero_add,hn]at hrow2
     rw[Nat.zero_add,hn]at hcc
     have:=bL.Mt hrw nM.out hB1 hcc hrow2 (jq hown1)
     rw[←hn]at this
     exact this
    case rest=>
     obtain⟨w1,rfl⟩:∃w1:World,w1=wc:=⟨_,rfl⟩
     have PI:0<n:=by omega
     have xM:Hid ((List.map (fun q:Int×bF=>q.2.b) T).length=n):=by
      show _=_
      rw[List.length_map];exact gW.out.symm
     obtain⟨g,off,c,q0,s1,-,hlc,qf,hgr,hg1,hg2,hr1,gf,d0,d1,d2,d3,d4,d5⟩:=hcut.facts xE.out
     rw[xM.out]at s1
     have Xy:=qf 1
     have Zk:Hid (ak (Off (Grow F w w1) r) w1 aD (n*1) vs):=by
      have:=lN hcut.1 HV.out
      rw[xM.out]at this
      rw[Nat.mul_one]
      exact this
     have QL:Hid (∀u∈vs,u.oneCell'=true):=Each.one CY.out Kr.out
     obtain⟨i1,a1,b1,u1,t1⟩:=info_parts qN
     have HI1:=Lib.hid (And.intro a1 (And.intro b1 (And.intro u1 t1)))
     have HM:=Lib.hid hcut
     clear hcut qf gf hlc q0 d0 d1 d2 d3 d4 d5 hgr hg1 hg2 a1 b1 u1 t1
     go_upto_region 9 with(fail)
     go_cut [] (fun wx=>ug F w r (.slice aE (aU T).length cE) T (List.map (fun q:Int×bF=>q.2.b) T) wx)
     case first=>
      go_wp2_with ((at_builtin;refine eY rfl _ _ 86 rfl w1.heap.size 39 _ _ 1 24 Tryz.underlying86 HI1.out.1 HI1.out.2.1 HI1.out.2.2.1 HI1.out.2.2.2 rfl (by omega) _ 0 [] rfl (dB (MapKept.heap_alloc w1 _).1 (Nat.le_refl _)) _ n _ vs rfl (Zk.out.below ((Below.refl _ _).alloc (Nat.le_refl _) _) (Nat.le_refl _)) QL.out (by unfold maxLen;omega) (by omega) (by simp) ?_;intro A1 c1' w2 hown1 hb1;have hB1:=((Below.refl w1.heap.size w1).alloc (Nat.le_refl _) _).trans hb1;have hf1:w2.frozen? ⟨r,1,none⟩=false:=(hB1.frozen (p:=⟨r,1,none⟩) hr1).trans Xy;have Kn:=(hB1.cell (p:=⟨r,1,none⟩) hr1).trans s1))
      go_meet
      exact Ku HM.out (by have:=gW.out;omega) PI xM.out hB1 hown1 (by unfold maxLen;omega) CY.out TL.out
     case rest=>
      obtain⟨w2,rfl⟩:∃w2:World,w2=wc:=⟨_,rfl⟩
      clear s1 Xy
      obtain⟨gN,oN,cN2,gD,oD,Xz,vs2,uI⟩:=hcut
      obtain⟨ax,cx,t0,t1,t2,t3,t4⟩:=uI.facts (k:=k) (d:=x.b) (by rw[List.getElem?_map,xE.out];rfl)
      rw[xM.out]at t1
      rw[←CK.out]at t2 t4
      have hs2:=uI.keeps.size
      have hr2:r<w2.heap.size:=by omega
      have TM:=uI.Nh.2
      have XA:=uI.Xx.frozen (oD+k)
      have E5:=Lib.hid uI
      have HXB:=Lib.hid t4
      have HB2:Hid (ak S w2 ab nb (bs.map bv)):=QD.out.kept hs2 fun b hb hbw=>uI.keeps.block b hbw (Zj.out b hb)
      have NZ:Hid (∀w4,Below w2.heap.size w2 w4→w4.cell? ⟨r,1,none⟩=some (.slice (some ⟨gD,oD,none⟩) n Xz)∧w4.cell? ⟨gD,oD+k,none⟩=some (.slice ax l cx)∧w4.frozen? ⟨gD,oD+k,none⟩=false):=fun w4 hb=>⟨by rw[hb.cell (p:=⟨r,1,none⟩) hr2];exact t1,by rw[hb.cell (p:=⟨gD,oD+k,none⟩) TM];exact t2,by rw[hb.frozen (p:=⟨gD,oD+k,none⟩) TM];exact XA⟩
      have QM:Hid (∀w4,Below w2.heap.size w2 w4→ak (fun b=>(F b∧b<w.heap.size∧b≠r)∨(w.heap.size≤b∧b<w2.heap.size∧b≠gN∧b≠gD)) w4 ax (l*1) (x.b.map bv)∧ak S w4 ab (nb*1) (bs.map bv)):=fun w4 hb=>by
       rw[Nat.mul_one,Nat.mul_one]
       exact⟨t4.below hb (Nat.le_refl _),HB2.out.below hb (Nat.le_refl _)⟩
      obtain⟨i8,a8,b8,u8,t8⟩:=info_parts Ni
      have Lh:=Lib.hid (And.intro a8 (And.intro b8 (And.intro u8 t8)))
      clear uI t0 t3 t4 a8 b8 u8 t8
      go_upto_region 10 with(fail)
      go_cut [] (fun wx=>ug F w r (.slice aE (aU T).length cE) T ((List.map (fun q:Int×bF=>q.2.b) T).set k (x.b++bs)) wx)
      case first=>
       go_wp2
       refine wp_region_noPanic ?_
       refine bW (last:=17) (S:=(fun w'=>w'.cell? ⟨r,1,none⟩=some (.slice (some ⟨gD,oD,none⟩) n Xz)∧w'.cell? ⟨gD,oD+k,none⟩=some (.slice ax l cx)∧w'.frozen? ⟨gD,oD+k,none⟩=false)) (by kernel_rfl) ?_ (fun hS=> ?_)
       ·exact NZ.out _ (Below.refl _ _).drew
       refine aT 0 (hS:=hS) (h:= ?_)
       refine aT 1 (hS:=hS) (h:= ?_)
       refine aT 2 (hS:=hS) (h:= ?_)
       refine aT 3 (hS:=hS) (h:= ?_)
       refine aT 4 (hS:=hS) (h:= ?_)
       refine aT 6 (hS:=hS) (h:= ?_)
       refine aT 7 (hS:=hS) (h:= ?_)
       refine aT 8 (hS:=hS) (h:= ?_)
       refine aT 9 (hS:=hS) (h:= ?_)
       refine aT 10 (hS:=hS) (h:= ?_)
       refine aT 11 (hS:=hS) (h:= ?_)
       refine aT 12 (hS:=hS) (h:= ?_)
       refine aT 14 (hS:=hS) (h:= ?_)
       refine jF 5 (h:=fun K hK=> ?_)
       go_simp
       refine hK.out _ _ (fun _=>NZ.out _ ((Below.refl _ _).drew.alloc (Nat.le_refl _) _)) (fun hS=> ?_)
       replace hS:=hS (by decide)
       clear hK K
       try simp only[Act.put,List.setIfInBounds_toArray,List.set_cons_zero,List.set_cons_succ]
       refine au (rs:=[13]) (by kernel_rfl) (by simp) ?_
       refine ah.cons (o:= ?o1) ?ho1 (fun K hK=> ?_) ah.nil
       case ho1=>simp only[List.getElem?_toArray,List.getElem?_cons_succ,List.getElem?_cons_zero];rfl
       refine av (by rfl) (.tmp 61) (.tmp 68) 39 (by rfl) w2.heap.size 5 _ _ 1 1 Tryz.underlying39 Lh.out.1 Lh.out.2.1 Lh.out.2.2.1 Lh.out.2.2.2 rfl (by omega) _ 0 [] (by rfl) (dB (MapKept.heap_alloc w2.drew _).1 (Nat.le_refl _)) _ l _ (x.b.map bv) (by rfl) (QM.out _ ((Below.refl _ _).drew.alloc (Nat.le_refl _) _)).1 (fE _) (by unfold maxLen;omega) (by omega) (by simp<;>omega) ?_
       intro A1 c1z u1 hown1 hb1
       have hB1:Below w2.heap.size w2 u1:=((Below.refl _ _).drew.alloc (Nat.le_refl _) _).trans hb1
       refine hK.out _ _ (fun _=>NZ.out _ hB1) (fun hS=> ?_)
       replace hS:=hS (by decide)
       clear hK K
       try simp only[Act.put,List.setIfInBounds_toArray,List.set_cons_zero,List.set_cons_succ]
       refine au (rs:=[15]) (by kernel_rfl) (by simp) ?_
       refine ah.cons (o:= ?o2) ?ho2 (fun K hK=> ?_) ah.nil
       case ho2=>simp only[List.getElem?_toArray,List.getElem?_cons_succ,List.getElem?_cons_zero];rfl
       refine av (by rfl) (.tmp 69) (.tmp 70) 39 (by rfl) w2.heap.size 5 _ _ 1 1 Tryz.underlying39 Lh.out.1 Lh.out.2.1 Lh.out.2.2.1 Lh.out.2.2.2 rfl (by omega) _ _ _ (by rfl) hown1 _ nb _ (bs.map bv) (by rfl) (QM.out _ hB1).2 (fE _) (by unfold maxLen;omega) (by omega) hB1.size ?_
       intro A2 Xu u2 hown2 hb2
       have hB2:Below w2.heap.size w2 u2:=hB1.trans hb2
       refine hK.out _ _ (fun _=>NZ.out _ hB2) (fun hS=> ?_)
       replace hS:=hS (by decide)
       clear hK K
       try simp only[Act.put,List.setIfInBounds_toArray,List.set_cons_zero,List.set_cons_succ]
       refine aT 16 (hS:=hS) (h:= ?_)
       refine jF 17 (h:=fun K hK=> ?_)
       go_simp
       refine hK.out _ _ (fun h=>absurd rfl h) (fun hS=> ?_)
       clear hS hK K
       try simp only[Act.put,List.setIfInBounds_toArray,List.set_cons_zero,List.set_cons_succ]
       refine aV (by kernel_rfl) ?_ _
       refine NoPanic.normal ?_
       go_wp2_with fail
       go_meet
       exact EA E5.out (by have:=xM.out;omega) hB2 hown2 ⟨by simp,by rw[List.length_append,DI.out,←CK.out];omega,by omega⟩ (by unfold maxLen;omega)
      case rest=>
       obtain⟨w3,rfl⟩:∃w3:World,w3=wc:=⟨_,rfl⟩
       clear t1 t2 XA TM hr2
       obtain⟨gN,oN,Zl,gD,oD,Zm,vs3,PK⟩:=hcut
       obtain⟨ay,cy,t0,t1,t2,-,-⟩:=PK.facts (k:=k) (d:=x.b++bs) (List.getElem?_set_self (by have:=xM.out;omega))
       rw[←gW.out]at t0
       rw[List.length_set,xM.out]at t1
       rw[List.length_append,DI.out,←CK.out]at t2
       obtain⟨b',o',e',-,-,-,O5⟩:=PK.Ng.wide dM rfl xE.out (by omega)
       simp only[Option.some.injEq,Addr.mk.injEq,and_true]at e'
       obtain⟨rfl,rfl⟩:=e'
       have t3:w3.cell? ⟨gN,oN+k*6+3,none⟩=some (.int .i64 (x.b.length:Nat)):=O5 3 (by omega)
       have t4:=PK.Xw.frozen (oN+k*6+3)
       have LK:=Lib.hid PK
       have HT0:=Lib.hid t0
       clear PK O5
       go_wp2
       refine wp_region_noPanic ?_
       refine bW (last:=15) (S:=(fun w'=>w'.cell? ⟨r,0,none⟩=some (.slice (some ⟨gN,oN,none⟩) n Zl)∧w'.cell? ⟨r,1,none⟩=some (.slice (some ⟨gD,oD,none⟩) n Zm)∧w'.cell? ⟨gD,oD+k,none⟩=some (.slice ay (l+nb) cy)∧w'.cell? ⟨gN,oN+k*6+3,none⟩=some (.int .i64 (x.b.length:Nat))∧w'.frozen? ⟨gN,oN+k*6+3,none⟩=false)) (by kernel_rfl) ?_ (fun hS=> ?_)
       ·exact⟨t0,t1,t2,t3,t4⟩
       refine aT 0 (hS:=hS) (h:= ?_)
       refine aT 1 (hS:=hS) (h:= ?_)
       refine aT 2 (hS:=hS) (h:= ?_)
       refine aT 3 (hS:=hS) (h:= ?_)
       refine aT 4 (hS:=hS) (h:= ?_)
       refine aT 5 (hS:=hS) (h:= ?_)
       refine aT 6 (hS:=hS) (h:= ?_)
       refine aT 7 (hS:=hS) (h:= ?_)
       refine aT 8 (hS:=hS) (h:= ?_)
       refine aT 9 (hS:=hS) (h:= ?_)
       refine aT 10 (hS:=hS) (h:= ?_)
       refine aT 11 (hS:=hS) (h:= ?_)
       refine aT 12 (hS:=hS) (h:= ?_)
       refine aT 13 (hS:=hS) (h:= ?_)
       refine aT 14 (hS:=hS) (h:= ?_)
       refine jF 15 (h:=fun K hK=> ?_)
       go_simp
       refine hK.out _ _ (fun h=>absurd rfl h) (fun hS=> ?_)
       clear hS hK K
       try simp only[Act.put,List.setIfInBounds_toArray,List.set_cons_zero,List.set_cons_succ]
       refine aV (by kernel_rfl) ?_ _
       refine NoPanic.normal ?_
       go_wp2_with fail
       go_ret
       rw[HQ.out]
       have h7:=Hg HH.out nM.out LK.out xE.out (q':=(id,{x with b:=x.b++bs})) (v3:= .int .i64 ((l+nb:Nat):Int)) (by
        show _=_
        have e9:(x.b++bs).length=l+nb:=by rw[List.length_append,DI.out,←CK.out]
        unfold bV
        simp only[e9]
        rfl) (.int .i64 0)
       rw[←Nat.add_assoc]at h7
       have h8:=kN (f:=fun x:bF=>{x with b:=x.b++bs}) HS.out xE.out
       have h9:=data_set (f:=fun x:bF=>{x with b:=x.b++bs}) HS.out xE.out
       simp only at h8 h9
       rw[h8,←h9]at h7
       have h10:=h7.then_ HH.out.low (Below.refl _ _).drew
       refine⟨h10.1,h10.2.1,?_⟩
       rw[jP (fun _=>by exact rfl)]
       exact h10.2.2
 ·have HQ:=Lib.hid (oL (T:=T) (id:=id) (bs:=bs) (v:=bK T id) (by
   unfold jc bK at*
   cases hx:aj id T with
   |none=>rfl
   |some x=>
    rw[hx]at h0
    by_cases hk:x.kind=2
    ·simp[hk]
    ·exact absurd (by simp[hk]) h0) h0)
  generalize bK T id=f at*
  have hne:(f==0)=false:=by simpa using h0
  have hne2:(f !=0)=true:=by simpa using h0
  clear h hT h0 hbs hbl hSr
  go_enter Tryz.func22,Tryz.ntmps22
  go_wp2_with fail
  (with_reducible refine HF.out.mono ?_)
  rintro e w1 ⟨rfl,rfl⟩
  go_wp2_with fail
  go_ret
  exact bA.no HH.out (Below.refl _ _) HQ.out
end
section
variable {W w:World} {P:Nat→Prop} {p:Nat} {T:aH}
end
def Short (T:aH):Prop:=∀q∈T,∀e∈q.2.names,e.1.length≤1
theorem Short.bf {T:aH} (h:Short T) (k:Int) {f:bF→bF} (hf:∀x:bF,(∀e∈x.names,e.1.length≤1)→∀e∈(f x).names,e.1.length≤1):Short (Go.Proofs.YtohpcppeajijnaaGreat.bf k f T):=fun q hq=>by
 rcases qP hq with h1|⟨p,hp,_,rfl⟩
 ·exact h q h1
 ·exact hf p.2 (h p hp)
theorem Short.same {T:aH} (h:Short T) (k:Int) {f:bF→bF} (hf:∀x,(f x).names=x.names):Short (Go.Proofs.YtohpcppeajijnaaGreat.bf k f T):=h.bf k fun x hx=>by rw[hf];exact hx
theorem Short.set {T:aH} (h:Short T) (d:Int) {n:Nm} (hn:n.length≤1) (id:Int):Short (setName T d n id):=h.bf d fun x hx=>wV (P:=fun e=>e.1.length≤1) hx hn
theorem Short.del {T:aH} (h:Short T) (k:Int):Short (bH k T):=fun q hq=>h q (List.mem_filter.1 hq).1
theorem Short.add {T:aH} (h:Short T) (f kind:Int):Short (bY iC f (bq kind) T):=fun q hq=>by
 rcases (jV iC).1 hq with rfl|h1
 ·intro e he;cases he
 ·exact h q (List.mem_filter.1 h1).1
def Li (T:aH):Prop:=fQ T∧Short T
theorem Li.dH {T:aH} (h:Li T) (id:Int):Li (Go.Proofs.YtohpcppeajijnaaGreat.dH T id).2:=by
 refine⟨h.1.dH _,?_⟩
 unfold Go.Proofs.YtohpcppeajijnaaGreat.dH
 simp only
 split
 ·rw[oZ]
  refine Short.del (fun q hq e he=> ?_) _
  unfold eu at hq
  obtain⟨p,hp,rfl⟩:=List.mem_map.1 hq
  exact h.2 p hp e (List.mem_filter.1 he).1
 ·exact h.2
theorem Li.new:Li jE:=⟨fQ.new,fun q hq e he=>by
 unfold jE at hq
 simp only[List.mem_singleton]at hq
 subst hq
 cases he⟩
structure mU (W:World) (Q P F:Nat→Prop) (w:World) (t r:Nat) (T:aH):Prop where
 tree:fB W P w t T
 ref:gU F w r T
 PL:∀x,F x→P x∧W.heap.size≤x
 Nj:∀x,Q x→P x∧¬F x
 okay:Li T
def Hl (W:World) (Q:Nat→Prop) (w:World) (t r:Nat) (T:aH):Prop:=∃P F,mU W Q P F w t r T
section
variable {W w w1 w2:World} {Q P F:Nat→Prop} {t r:Nat} {T T':aH}
theorem mU.below (h:mU W Q P F w t r T) (hb:Below w.heap.size w w1):mU W Q P F w1 t r T:=⟨h.tree.grow hb,h.ref.below hb (Nat.le_refl _),h.PL,h.Nj,h.okay⟩
theorem mU.mono {Q':Nat→Prop} (h:mU W Q P F w t r T) (hq:∀x,Q' x→Q x):mU W Q' P F w t r T:=⟨h.tree,h.ref,h.PL,fun x hx=>h.Nj x (hq x hx),h.okay⟩
theorem fB.over (h:fB W P w1 t T') (hK:Keeps (fun x=>x=r) w1 w2) (hr:P r) (hW:W.heap.size≤r):fB W (fun x=>P x∨(w1.heap.size≤x∧x<w2.heap.size)) w2 t T':=by
 obtain⟨g,D,mb,ib,nb,hA,hF⟩:=h.at_
 have hs:=h.below.size
 refine⟨⟨g,D,mb,ib,nb,hA.keeps hK fun b hb he=>(hF b hb).2 (he▸hr),fun b hb=>⟨(hF b hb).1,fun hp=> ?_⟩⟩,h.ok,h.below.trans (hK.jr hs fun x hx he=>by omega),fun x hx=> ?_⟩
 ·rcases hp with hp|hp
  ·exact(hF b hb).2 hp
  ·rcases hb with hb|hb
   ·have:=hA.low b hb;omega
   ·have:=hA.lG b hb;omega
 ·rcases hx with hx|hx
  ·have:=h.low x hx;have:=hK.size;omega
  ·exact hx.2
theorem mU.step {v1 v2:Value} {e1 e2:Ending} (h:mU W Q P F w t r T) (h1:gu W P w t T' v1 e1 w1) (h2:bA F w1 r T' v2 e2 w2) (hO:Li T'):Hl W Q w2 t r T'∧(∀b,Q b→w2.heap[b]? =w.heap[b]?)∧w.heap.size≤w2.heap.size∧Below W.heap.size W w2:=by
 have hr:=h.PL r h.ref.own
 have h3:=h1.2.1.over h2.2.1 hr.1 hr.2
 have hlow:=h1.2.1.low
 refine⟨⟨_,_,h3,h2.2.2,fun x hx=> ?_,fun x hx=>⟨.inl (h.Nj x hx).1,fun hf=> ?_⟩,hO⟩,fun b hb=> ?_,Nat.le_trans h1.2.2.size h2.2.1.size,h3.below⟩
 ·rcases hx with hx|hx
  ·exact⟨.inl (h.PL x hx).1,(h.PL x hx).2⟩
  ·have:=h1.2.1.below.size
   exact⟨.inr hx,by omega⟩
 ·rcases hf with hf|hf
  ·exact(h.Nj x hx).2 hf
  ·have:=hlow x (h.Nj x hx).1;omega
 ·have hb1:=h.Nj b hb
  have hbw:=h.tree.low b hb1.1
  rw[h2.2.1.block b (hlow b hb1.1) (fun he=>hb1.2 (he▸h.ref.own))]
  exact h1.2.2.block b hbw (fun hw=>hw.2 hb1.1)
theorem mU.rest (h:mU W Q P F w t r T) (hb:Below w.heap.size w w1):Hl W Q w1 t r T∧(∀b,Q b→w1.heap[b]? =w.heap[b]?)∧w.heap.size≤w1.heap.size∧Below W.heap.size W w1:=
 ⟨⟨_,_,h.below hb⟩,fun b hbq=>hb.block b (h.tree.low b (h.Nj b hbq).1),hb.size,h.tree.below.trans (hb.mono h.tree.below.size)⟩
end
def kQ (n lo hi:Int):Int:=lo+n%(hi-lo+1)
theorem BF (n lo hi:Int) (h:lo≤hi):lo≤kQ n lo hi∧kQ n lo hi≤hi:=by
 unfold kQ
 have h1:=Int.emod_nonneg n (show hi-lo+1≠0 by omega)
 have h2:=Int.emod_lt_of_pos n (show 0<hi-lo+1 by omega)
 omega
theorem EB {n:Int} (h:(Lit.int .i64 n).wf=true): -9223372036854775808≤n∧n≤9223372036854775807:=by
 simp[Lit.wf,IntKind.min,IntKind.max,IntKind.signed,IntKind.bits]at h
 omega
theorem BG (n lo hi:Int) (w:World) (hn:(Lit.int .i64 n).wf=true) (h1:0≤lo) (h2:lo≤hi) (h3:hi≤1099511627776):
  Calls Tryz.prog 21 #[.int .i64 n, .int .i64 lo, .int .i64 hi] w fun e w'=>e= .returned (.int .i64 (kQ n lo hi))∧w=w':=by
 obtain⟨hw1,hw2⟩:=EB hn
 clear hn
 have t1:=Int.tmod_lt_of_pos n (show 0<hi-lo+1 by omega)
 have t2:=Int.lt_tmod_of_pos n (show 0<hi-lo+1 by omega)
 have t3:=Int.emod_nonneg n (show hi-lo+1≠0 by omega)
 have t4:=Int.emod_lt_of_pos n (show 0<hi-lo+1 by omega)
 by_cases hn:0≤n
 ·have hx:¬n%(hi-lo+1)<0:=by omega
  go_enter Tryz.func21,Tryz.ntmps21
  go_wp2
  go_ret
  exact⟨fM (by unfold kQ;rfl),rfl⟩
 ·have hE:n%(hi-lo+1)=if n.tmod (hi-lo+1)<0 then n.tmod (hi-lo+1)+(hi-lo+1)else n.tmod (hi-lo+1):=by
   have h5:=Int.emod_add_mul_ediv n (hi-lo+1)
   have h6:=Int.tmod_add_mul_tdiv n (hi-lo+1)
   have h7:(n.tmod (hi-lo+1))%(hi-lo+1)=n%(hi-lo+1):=by
    have h8:n=n.tmod (hi-lo+1)+(hi-lo+1)*n.tdiv (hi-lo+1):=by omega
    rw[←Int.add_mul_emod_self_left (n.tmod (hi-lo+1)) (hi-lo+1) (n.tdiv (hi-lo+1)),←h8]
   split
   ·rw[←h7,←Int.add_emod_right,Int.emod_eq_of_lt (by omega) (by omega)]
   ·rw[←h7,Int.emod_eq_of_lt (by omega) (by omega)]
  have HE:=Lib.hid hE
  clear hE
  by_cases ht:n.tmod (hi-lo+1)<0
  ·go_enter Tryz.func21,Tryz.ntmps21
   go_wp2
   go_ret
   exact⟨fM (by unfold kQ;rw[HE.out,if_pos ht];omega),rfl⟩
  ·go_enter Tryz.func21,Tryz.ntmps21
   go_wp2
   go_ret
   exact⟨fM (by unfold kQ;rw[HE.out,if_neg (by omega)]),rfl⟩
def vP (w:World):List Obj→World
 |[]=>w
 |o::r=>vP (w.alloc o) r
theorem oM:∀(os:List Obj) (w w0:World),w0.heap.size≤w.heap.size→Below w0.heap.size w0 w→Below w0.heap.size w0 (vP w os)
 |[],w,w0,_,h=>h
 |o::r,w,w0,hs,h=>oM r (w.alloc o) w0 (by simp;omega) (h.alloc hs o)
theorem qZ:∀(os:List Obj) (w:World) (i:Nat) (o:Obj),os[i]? =some o→(vP w os).heap[w.heap.size+i]? =some o
 |[],w,i,o,h=>by simp at h
 |x::r,w,0,o,h=>by
  simp only[List.getElem?_cons_zero,Option.some.injEq]at h
  subst h
  have h1:=oM r (w.alloc x) (w.alloc x) (Nat.le_refl _) (Below.refl _ _)
  exact(h1.block w.heap.size (by simp)).trans (MapKept.heap_alloc w x).1
 |x::r,w,i+1,o,h=>by
  have:=qZ r (w.alloc x) i o (by simpa using h)
  rw[World.size_alloc]at this
  rw[show w.heap.size+(i+1)=w.heap.size+1+i by omega]
  exact this
def Kv (W:World) (Q:Nat→Prop) (w:World) (t r:Nat) (wx:World):Prop:=
 ∃T',Hl W Q wx t r T'∧(∀b,Q b→wx.heap[b]? =w.heap[b]?)∧w.heap.size≤wx.heap.size∧Below W.heap.size W wx
theorem gu.then_ {W w w1 w2:World} {P:Nat→Prop} {t:Nat} {T:aH} {v:Value} {e:Ending} (h:gu W P w t T v e w1) (hb:Below w1.heap.size w1 w2):gu W P w t T v e w2:=
 ⟨h.1,h.2.1.grow hb,h.2.2.trans (fp':=fun x=>w1.heap.size≤x) (Keeps.below hb) fun x hx hf=>by have:=h.2.2.size;omega⟩
theorem gu.behind {W w0 w w1:World} {P:Nat→Prop} {t:Nat} {T:aH} {v:Value} {e:Ending} (h:gu W P w t T v e w1) (hb:Below w0.heap.size w0 w):gu W P w0 t T v e w1:=
 ⟨h.1,h.2.1,(Keeps.mono (Keeps.below hb) (fun x hx hf=>by omega)).trans h.2.2 fun x _ hx=>hx⟩
theorem Kv.of {W w w1 w2:World} {Q P F:Nat→Prop} {t r:Nat} {T T':aH} {v1 v2:Value} {e1 e2:Ending} (h:mU W Q P F w t r T) (h1:gu W P w t T' v1 e1 w1) (h2:bA F w1 r T' v2 e2 w2) (hO:Li T'):Kv W Q w t r w2:=⟨T',h.step h1 h2 hO⟩
theorem Kv.rest {W w w1:World} {Q P F:Nat→Prop} {t r:Nat} {T:aH} (h:mU W Q P F w t r T) (hb:Below w.heap.size w w1):Kv W Q w t r w1:=⟨T,h.rest hb⟩
open Go.Joins Go.ChangeShapes Go.WideShapes Go.ChangeAt Go.RowKit Go.Deep
section
variable {H:Type} {enc:TypeId×Value→H} {W:World}
end
def Nk (w:World) (e:Ending) (w':World):Prop:=∃r,e= .returned (ptr r)∧gU (fun x=>w.heap.size≤x∧x<w'.heap.size) w' r jE∧Below w.heap.size w w'
theorem EC (w:World) (o1 o2 o3:Obj):(((w.alloc o1).alloc o2).alloc o3).heap[w.heap.size]? =some o1∧(((w.alloc o1).alloc o2).alloc o3).heap[w.heap.size+1]? =some o2∧(((w.alloc o1).alloc o2).alloc o3).heap[w.heap.size+2]? =some o3:=by
 have h:=qZ [o1,o2,o3] w
 exact⟨h 0 o1 rfl,h 1 o2 rfl,h 2 o3 rfl⟩
theorem Ho (w:World):Calls Tryz.prog 11 #[] w (Nk w):=by
 go_enter Tryz.func11,Tryz.ntmps11
 go_wp2
 go_ret
 obtain⟨h0,h1,h2⟩:=EC w (.cells #[.int .i64 0, .int .i64 2, .int .i64 1, .int .i64 0, .int .u64 0, .bool true] 98) (.cells #[.slice none 0 0] 39) (.cells #[.slice (some ⟨w.heap.size,0,none⟩) 1 1, .slice (some ⟨w.heap.size+1,0,none⟩) 1 1, .slice none 0 0] 102)
 refine⟨w.heap.size+2,rfl,⟨⟨some ⟨w.heap.size,0,none⟩,1,some ⟨w.heap.size+1,0,none⟩,1,none,0,h2,Nat.le_refl _,Nat.le_refl _,Nat.le_refl _,?_,⟨[.slice none 0 0],?_,?_⟩,ak.nil _ _ _, .inl ⟨rfl,rfl⟩⟩,?_,?_⟩,?_⟩
 ·exact(gV (vs:=bV (0,bq 2)) h0 (by simp[bV,maxLen])).mono fun b hb=>by subst hb;exact⟨⟨Nat.le_refl _,by simp;omega⟩,by omega⟩
 ·exact(gV (vs:=[.slice none 0 0]) h1 (by simp[maxLen])).mono fun b hb=>by subst hb;exact⟨⟨by omega,by simp⟩,by omega⟩
 ·intro i b hb
  cases i with
  |zero=>
   have:b=[]:=(Option.some.inj hb).symm
   subst this
   exact⟨none,0,rfl,⟨Nat.le_refl _,by simp[maxLen]⟩,ak.nil _ _ _⟩
  |succ i=>simp[jE]at hb
 ·exact⟨by omega,by simp⟩
 ·exact fun b hb=>hb.2
 ·exact(((Below.refl _ _).alloc (Nat.le_refl _) _).alloc (by simp) _).alloc (by simp;omega) _
end Go.Proofs.YtohpcppeajijnaaGreat
