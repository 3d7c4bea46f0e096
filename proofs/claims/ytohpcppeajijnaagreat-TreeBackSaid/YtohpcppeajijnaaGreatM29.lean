/- The reference: Append. A law's own tree: Look, Unlink, Rmdir, Rename, Drop, List. The tree and the reference's, side by side. permafrostbook.Within. -/
import Derived.Test.YtohpcppeajijnaaGreatM25
import Derived.Test.YtohpcppeajijnaaGreatM23
import Derived.Test.YtohpcppeajijnaaGreatM18
import Derived.Test.YtohpcppeajijnaaGreatM28
import Derived.Test.YtohpcppeajijnaaGreatM01
namespace Go.Proofs.YtohpcppeajijnaaGreat
open Go.ChangeShapes Go.WideShapes Go.ChangeAt Go.RowKit
set_option linter.unusedVariables false
set_option linter.unusedSimpArgs false
theorem pY {T:aF} {id:Int} {bs:List UInt8} {v:Int} (h:jo T id bs=v) (hv:v≠0):bK T id bs=(v,T):=by
 unfold bK
 rw[h,if_neg hv]
structure wU (F:Nat→Prop) (w:World) (r:Nat) (x2:Value) (T:aF) (D:List (List UInt8)) (gN oN cN gD oD cD:Nat) (vs:List Value) (wx:World):Prop where
 keeps:Keeps (fun x=>x=r) w wx
 Vl:r<w.heap.size
 head:wx.heap[r]? =some (.cells #[.slice (some ⟨gN,oN,none⟩) T.length cN, .slice (some ⟨gD,oD,none⟩) D.length cD,x2] 102 (0,0))
 Ql:T.length≤cN
 Qm:D.length≤cD
 NY:av (fun b=>b=gN) wx (some ⟨gN,oN,none⟩) (T.length*6) (T.flatMap bX)
 Vm:Plain wx (some ⟨gN,oN,none⟩)
 KP:av (fun b=>b=gD) wx (some ⟨gD,oD,none⟩) D.length vs
 Vn:Plain wx (some ⟨gD,oD,none⟩)
 Qn:w.heap.size≤gN∧gN<wx.heap.size
 NZ:w.heap.size≤gD∧gD<wx.heap.size
 ne:gN≠gD
 each:Each (fun b=>(F b∧b<w.heap.size∧b≠r)∨(w.heap.size≤b∧b<wx.heap.size∧b≠gN∧b≠gD)) wx vs D
def vK (F:Nat→Prop) (w:World) (r:Nat) (x2:Value) (T:aF) (D:List (List UInt8)) (wx:World):Prop:=∃gN oN cN gD oD cD vs,wU F w r x2 T D gN oN cN gD oD cD vs wx
theorem KQ {F:Nat→Prop} {w w1 w2:World} {r n c:Nat} {x1 x2:Value} {T:aF} {D:List (List UInt8)} {a:Option Addr} {vs:List Value} (hm:bP w r x1 x2 T w1) (hT:0<T.length) (hn:0<n) (hD:D.length=n) (hb:Below w1.heap.size w1 w2)
  (hown:w2.ownsRow w1.heap.size 39 1 (.slice a (0+n) c) (0+n) ([]++vs)) (hmx:(0+n)*1≤maxLen) (he:Each (Off F r) w vs D) (hlow:∀b,F b→b<w.heap.size):vK F w r x2 T D (w2.setCell ⟨r,1,none⟩ (.slice a n c)):=by
 obtain⟨hK,hr,aN,cN,h2,h3,h4,h5⟩:=hm
 have hs1:=hK.size
 have hs2:=hb.size
 obtain⟨-,hcc,-,hrow⟩:=av.sG hown hmx
 rw[Nat.zero_add]at hcc
 rw[Nat.zero_add,Nat.mul_one,List.nil_append]at hrow
 obtain⟨gN,oN,rfl,P7,hbN,-⟩:=h4.at_ (by omega)
 obtain⟨gD,oD,rfl,Vb,hbD,-⟩:=hrow.at_ (by omega)
 have hp:=jG hown
 have Tp:=P7.1
 have Xo:=Vb.1
 have Tq:gN≠r:=by omega
 have Tt:gD≠r:=by omega
 have Xp:av (fun b=>b=gN) w1 (some ⟨gN,oN,none⟩) (T.length*6) (T.flatMap bX):=⟨h4.length,h4.small,fun h0=>by
  obtain⟨b,o,e,_,hb',hc'⟩:=h4.at_ h0
  simp only[Option.some.injEq,Addr.mk.injEq,and_true]at e
  obtain⟨rfl,rfl⟩:=e
  exact⟨_,_,rfl,rfl,hb',hc'⟩⟩
 have Xq:av (fun b=>b=gD) w2 (some ⟨gD,oD,none⟩) n vs:=⟨hrow.length,hrow.small,fun h0=>by
  obtain⟨b,o,e,_,hb',hc'⟩:=hrow.at_ h0
  simp only[Option.some.injEq,Addr.mk.injEq,and_true]at e
  obtain⟨rfl,rfl⟩:=e
  exact⟨_,_,rfl,rfl,hb',hc'⟩⟩
 have hDn:=hD
 have hK2:Keeps (fun x=>x=r) w w2:=hK.trans (Keeps.below hb) (fun x hx hf=>by omega)
 refine⟨gN,oN,cN,gD,oD,c,vs,⟨hK2.trans (Keeps.iC _ _ _) fun x _ hx=>hx,hr,?_,h3,by rw[hDn];exact hcc,?_,?_,?_,?_,⟨Tp,by rw[size_set];omega⟩,⟨by omega,by rw[size_set];exact hbD⟩,by omega,?_⟩⟩
 ·rw[bY ((hb.block r (by omega)).trans h2),hDn]
  rfl
 ·exact(Xp.below hb (Nat.le_refl _)).apart ⟨r,1,none⟩ _ fun b hb'=>by subst hb';exact Tq
 ·exact(h5.kept fun g off e=>by
   simp only[Option.some.injEq,Addr.mk.injEq,and_true]at e
   obtain⟨rfl,_⟩:=e
   exact hb.block _ hbN).iC _ _ rfl
 ·rw[hDn]
  exact Xq.apart ⟨r,1,none⟩ _ fun b hb'=>by subst hb';exact Tt
 ·exact hp.iC _ _ rfl
 ·refine he.move (by rw[size_set];omega) fun b hb' hbw=>⟨.inl ⟨hb'.1,hbw,hb'.2⟩,?_⟩
  rw[bH _ _ _ _ hb'.2]
  exact hK2.block b hbw hb'.2
theorem FW {F:Nat→Prop} {w w2 u:World} {r gN oN cN gD oD cD k c n m:Nat} {x2:Value} {T:aF} {D:List (List UInt8)} {vs:List Value} {a:Option Addr} {nb:List UInt8} {ys:List Value} (h:wU F w r x2 T D gN oN cN gD oD cD vs w2) (hk:k<D.length) (hb:Below w2.heap.size w2 u)
  (hown:u.ownsRow w2.heap.size 5 1 (.slice a m c) m ys) (hys:ys=nb.map bv∧m=nb.length∧n=m) (hmx:m*1≤maxLen):vK F w r x2 T (D.set k nb) (u.setCell ⟨gD,oD+k,none⟩ (.slice a n c)):=by
 obtain⟨rfl,rfl,rfl⟩:=hys
 have hs:=hb.size
 have hs0:=h.keeps.size
 have Tv:=h.Qn
 have hnD:=h.NZ
 have hne:=h.ne
 have Qo:=h.Vl
 obtain⟨a',c',e,hlc,hcm⟩:=yL hown
 simp only[Value.slice.injEq,true_and]at e
 obtain⟨rfl,rfl⟩:=e
 obtain⟨-,-,-,hrow⟩:=av.sG hown hmx
 rw[Nat.mul_one]at hrow
 have hK2:Keeps (fun x=>x=r) w u:=h.keeps.trans (Keeps.below hb) (fun x hx hf=>by omega)
 have hK3:Keeps (fun x=>x=r) w (u.setCell ⟨gD,oD+k,none⟩ (.slice a nb.length c)):=hK2.trans (fp':=fun x=>x=gD) (Keeps.iC u ⟨gD,oD+k,none⟩ _) (fun x hx hf=>by omega)
 refine⟨gN,oN,cN,gD,oD,cD,vs.set k (.slice a nb.length c),⟨hK3,Qo,?_,h.Ql,by rw[List.length_set];exact h.Qm,?_,?_,?_,?_,⟨Tv.1,by rw[size_set];omega⟩,⟨hnD.1,by rw[size_set];omega⟩,hne,?_⟩⟩
 ·rw[bH _ _ _ _ (show r≠gD by omega),List.length_set]
  exact(hb.block r (by omega)).trans h.head
 ·exact(h.NY.below hb (Nat.le_refl _)).apart ⟨gD,oD+k,none⟩ _ fun b hb'=>by subst hb';exact hne
 ·exact(h.Vm.kept fun g off e=>by
   simp only[Option.some.injEq,Addr.mk.injEq,and_true]at e
   obtain⟨rfl,_⟩:=e
   exact hb.block _ Tv.2).iC _ _ rfl
 ·have:=(h.KP.below hb (Nat.le_refl _)).iC (j:=k) hk (.slice a nb.length c)
  rw[List.length_set]
  exact this
 ·exact(h.Vn.kept fun g off e=>by
   simp only[Option.some.injEq,Addr.mk.injEq,and_true]at e
   obtain⟨rfl,_⟩:=e
   exact hb.block _ hnD.2).iC _ _ rfl
 ·have hvl:vs.length=D.length:=h.KP.length
  intro i b hbi
  by_cases hik:i=k
  ·subst hik
   rw[List.getElem?_set_self hk]at hbi
   cases hbi
   refine⟨a,c,List.getElem?_set_self (by omega),⟨hlc,hcm⟩,?_⟩
   exact hrow.move (by rw[size_set];exact Nat.le_refl _) fun b hb1 hb2=>⟨.inr ⟨by omega,by rw[size_set];exact hb2,by omega,by omega⟩,bH _ _ _ _ (show b≠gD by omega)⟩
  ·rw[List.getElem?_set_ne (Ne.symm hik)]at hbi⊢
   obtain⟨a2,c2,e1,e2,e3⟩:=h.each i b hbi
   refine⟨a2,c2,e1,e2,e3.move (by rw[size_set];omega) fun b hb1 hb2=>⟨?_,?_⟩⟩
   ·rcases hb1 with hb1|hb1
    ·exact .inl hb1
    ·exact .inr ⟨hb1.1,by rw[size_set];omega,hb1.2.2⟩
   ·have:b≠gD:=by rcases hb1 with hb1|hb1<;>omega
    rw[bH _ _ _ _ this]
    exact hb.block b hb2
theorem I4 {F:Nat→Prop} {w w3:World} {r gN oN cN gD oD cD k:Nat} {x0 x1 x2:Value} {T:aF} {D0 D:List (List UInt8)} {E:List jc} {vs:List Value} {q q':Int×bF} {v3:Value} (hR:fO F w r T D0 E) (h1:w.heap[r]? =some (.cells #[x0,x1,x2] 102 (0,0))) (h:wU F w r x2 T D gN oN cN gD oD cD vs w3) (hq:T[k]? =some q) (hv:bX q'=(bX q).set 3 v3) (v:Value):
  dh F w r (T.set k q') D E v (.returned v) (w3.setCell ⟨gN,oN+(k*6+3),none⟩ v3):=by
 have Tv:=h.Qn
 have hnD:=h.NZ
 have hne:=h.ne
 have Qo:=h.Vl
 have hkl:k<T.length:=(List.getElem?_eq_some_iff.1 hq).1
 obtain⟨aN,Sr,aD,Y4,aE,cE,g1,-,g3,g4,-,g9,g10,g11⟩:=hR.head
 rw[h1]at g1
 simp only[Option.some.injEq,Obj.cells.injEq,Array.mk.injEq,List.cons.injEq,and_true,true_and]at g1
 obtain⟨-,-,rfl⟩:=g1
 have hK3:Keeps (fun x=>x=r) w (w3.setCell ⟨gN,oN+(k*6+3),none⟩ v3):=h.keeps.trans (fp':=fun x=>x=gN) (Keeps.iC w3 ⟨gN,oN+(k*6+3),none⟩ _) (fun x hx hf=>by omega)
 refine⟨rfl,hK3,hR.turn (aN:=some ⟨gN,oN,none⟩) (aD:=some ⟨gD,oD,none⟩) (cN:=cN) (cD:=cD) hK3 ?_ (by rw[List.length_set];exact h.Ql) h.Qm g4 ?_ ⟨vs,?_,?_⟩ (mO hK3 g10) g11⟩
 ·rw[bH _ _ _ _ (show r≠gN by omega),List.length_set]
  exact h.head
 ·have:=h.NY.iC (j:=k*6+3) (by omega) v3
  rw[uh bX 6 dW (by omega) hv T k hq]at this
  rw[List.length_set]
  exact this.mono fun b hb=>⟨.inr ⟨by omega,by rw[size_set];omega⟩,by omega⟩
 ·exact(h.KP.apart ⟨gN,oN+(k*6+3),none⟩ v3 fun b hb=>by subst hb;exact Ne.symm hne).mono fun b hb=>⟨.inr ⟨by omega,by rw[size_set];omega⟩,by omega⟩
 ·refine h.each.move (by rw[size_set];exact Nat.le_refl _) fun b hb1 hb2=>⟨⟨?_,?_⟩,?_⟩
  ·rcases hb1 with hb1|hb1
   ·exact .inl hb1.1
   ·exact .inr ⟨hb1.1,by rw[size_set];exact hb1.2.1⟩
  ·rcases hb1 with hb1|hb1
   ·exact hb1.2.2
   ·omega
  ·exact bH _ _ _ _ (show b≠gN by rcases hb1 with hb1|hb1<;>omega)
theorem wU.facts {F:Nat→Prop} {w wx:World} {r gN oN cN gD oD cD k:Nat} {x2:Value} {T:aF} {D:List (List UInt8)} {vs:List Value} (h:wU F w r x2 T D gN oN cN gD oD cD vs wx) {d:List UInt8} (hd:D[k]? =some d):∃a c,wx.cell? ⟨r,0,none⟩=some (.slice (some ⟨gN,oN,none⟩) T.length cN)∧wx.cell? ⟨r,1,none⟩=some (.slice (some ⟨gD,oD,none⟩) D.length cD)∧wx.cell? ⟨gD,oD+k,none⟩=some (.slice a d.length c)∧kH d.length c∧av (fun b=>(F b∧b<w.heap.size∧b≠r)∨(w.heap.size≤b∧b<wx.heap.size∧b≠gN∧b≠gD)) wx a d.length (d.map bv):=by
 obtain⟨a,c,e1,e2,e3⟩:=h.each k d hd
 have hk:k<D.length:=(List.getElem?_eq_some_iff.1 hd).1
 obtain⟨p0,p1,-,-⟩:=eG h.head
 obtain⟨b,o,e,-,hb,hc⟩:=h.KP.at_ (by omega)
 simp only[Option.some.injEq,Addr.mk.injEq,and_true]at e
 obtain⟨rfl,rfl⟩:=e
 exact⟨a,c,p0,p1,(hc k hk).trans e1,e2,e3⟩
section
variable {F:Nat→Prop} {r:Nat} {T:aF}
theorem N7:(Tryz.prog.info? 5).map (fun i=>(i.zero,i.size,i.bytes))=some (some (.int .u8 0),1,1):=by kernel_rfl
set_option maxRecDepth 100000 in
set_option maxHeartbeats 16000000 in
theorem uU {S:Nat→Prop} (id:Int) (ab:Option Addr) (nb cb:Nat) (bs:List UInt8) (w:World) (h:gX F w r T) (hT:dG T) (hbs:av S w ab nb (bs.map bv)) (hSr:∀b,S b→b≠r) (hnb:nb≤1000000):
  Calls Tryz.prog 22 #[ptr r, .int .i64 id, .slice ab nb cb] w (bC F w r (bK T id bs).2 (.int .i64 (bK T id bs).1)):=by
 have hbl:bs.length=nb:=by have:=hbs.length;simpa using this
 have HF:=Lib.hid (nI id w h hT.tovw)
 have hr0:=h.low r h.own
 have HH:=Lib.hid h
 by_cases h0:bL T id=0
 ·obtain⟨x,hx,hk⟩:∃x,aj id T=some x∧x.kind≠2:=by
   unfold bL at h0
   cases hx:aj id T with
   |none=>rw[hx]at h0;cases h0
   |some x=>
    rw[hx]at h0
    exact⟨x,rfl,fun hk=>by simp[hk]at h0⟩
  obtain⟨k,hi,hq⟩:=iM hT.sorted hx
  have hrf:Bw T id=k:=by unfold Bw;rw[if_pos h0];exact hi
  rw[hrf,h0]at HF
  obtain⟨bN,oN,cN,hc0,hO,hbw,hkl,c0,c1,c2,c3,c4,c5⟩:=h.node hq
  simp only at c0 c1 c2 c3 c4 c5
  have i0:(0:Int)≤k:=by omega
  have hlen:=hT.len
  have zk:=Lib.hid hq
  have HS:=Lib.hid hT.sorted
  obtain⟨i6,a6,b6,s6,d6⟩:=info_parts nodeInfo
  have fC:=Lib.hid (And.intro a6 (And.intro b6 (And.intro s6 d6)))
  obtain⟨aN,Sr,aD,cD,aE,cE,h1,h2,h3,h4,h8,h9,h10,h11⟩:=h.head
  obtain⟨p0,p1,p2,pf⟩:=eG h1
  rw[p0]at hc0
  simp only[Option.some.injEq,Value.slice.injEq,true_and]at hc0
  obtain⟨rfl,rfl⟩:=hc0
  have pq:=Lib.hid h1
  have Ru:=Lib.hid hbs
  have FN:=Lib.hid h8
  obtain⟨n,hn⟩:∃n,n=T.length:=⟨_,rfl⟩
  rw[←hn]at p0 hlen hkl h2 FN
  have gY:=Lib.hid hn
  have hf0:=pf 0
  have hfp:=hO.2
  have i1:(k:Int)<n:=by omega
  have hrw:=hr0
  have hsz:=(hT.each id x hx).size
  have Tw:=Lib.hid h.low
  obtain⟨vs,hv,uT⟩:=h9
  have uO:=Lib.hid (hT.each id x hx)
  have HX:=Lib.hid hx
  have hkx:=hk
  clear a6 b6 s6 d6 h1 h8 h10 h11 hi hrf h hq hn p1 p2 pf hO hT h0 hbs
  have he:jo T id bs=if x.closed then 27 else if 4096<x.b.length+bs.length then 15 else 0:=by
   unfold jo
   rw[hx]
   simp only[if_neg hk]
  rw[hbl]at he
  obtain⟨l,hl⟩:∃l,l=x.b.length:=⟨_,rfl⟩
  rw[←hl]at he hsz c3
  have PK:=Lib.hid hbl
  have EJ:=Lib.hid hl
  have HV:=Lib.hid hv
  have EI:Hid (Each (Off F r) w vs (T.map fun q=>q.2.b)):=uT
  have KO:=Lib.hid hv.length
  have Xr:=Lib.hid hSr
  clear hx hk hl hv uT hbl hSr
  cases hcl:x.closed with
  |true=>
   rw[hcl]at c5
   have HQ:=Lib.hid (pY (he.trans (if_pos hcl)) (by omega))
   clear hcl he
   go_enter Tryz.func22,Tryz.ntmps22
   go_wp2_with fail
   (with_reducible refine HF.out.mono ?_)
   rintro e w1 ⟨rfl,rfl⟩
   go_wp2_with fail
   go_ret
   exact bC.no HH.out (Below.refl _ _) HQ.out
  |false=>
   rw[hcl]at c5
   rw[if_neg (by rw[hcl];decide)]at he
   have e1:IntKind.i64.wrap (4096-(l:Int))=4096-(l:Int):=IntWalk.i64_in _ (by omega)
   by_cases h6:4096<l+nb
   ·have HQ:=Lib.hid (pY (he.trans (if_pos h6)) (by omega))
    have hd6:decide ((4096:Int)-(l:Int)<(nb:Int))=true:=by simp;omega
    clear hcl he
    go_enter Tryz.func22,Tryz.ntmps22
    go_wp2_with fail
    (with_reducible refine HF.out.mono ?_)
    rintro e w1 ⟨rfl,rfl⟩
    go_wp2_with fail
    go_ret
    exact bC.no HH.out (Below.refl _ _) HQ.out
   ·have hd6:decide ((4096:Int)-(l:Int)<(nb:Int))=false:=by simp;omega
    have HQ:Hid (bK T id bs=(0,aX id (fun x=>{x with b:=x.b++bs}) T)):=by
     show bK T id bs=_
     unfold bK
     rw[he,if_neg h6]
     rfl
    clear hcl he
    go_enter Tryz.func22,Tryz.ntmps22
    go_wp2_with fail
    (with_reducible refine HF.out.mono ?_)
    rintro e w1 ⟨rfl,rfl⟩
    go_upto_region 8 with(fail)
    go_cut [] (fun wx=>bP w r (.slice aD (List.map (fun q:Int×bF=>q.2.b) T).length cD) (.slice aE (aV T).length cE) T wx)
    case first=>
     go_wp2_with ((at_builtin;refine eZ rfl _ _ 99 rfl w.heap.size 98 _ _ 6 48 Tryz.underlying99 fC.out.1 fC.out.2.1 fC.out.2.2.1 fC.out.2.2.2 rfl (by omega) _ 0 [] rfl (dH (MapKept.heap_alloc w _).1 (Nat.le_refl _)) _ n _ (T.flatMap bX) rfl (FN.out.below ((Below.refl _ _).alloc (Nat.le_refl _) _) (Nat.le_refl _)) (dJ _) (by unfold maxLen;omega) (by omega) (by simp) ?_;intro A1 c1' w1 hown1 hb1;have hB1:=((Below.refl w.heap.size w).alloc (Nat.le_refl _) _).trans hb1;have hf1:w1.frozen? ⟨r,0,none⟩=false:=(hB1.frozen (p:=⟨r,0,none⟩) hrw).trans hf0;have KH:=(hB1.cell (p:=⟨r,0,none⟩) hrw).trans p0))
     go_meet
     obtain⟨-,hcc,-,hrow2⟩:=lg (w:=w) hown1 (by unfold maxLen;omega) (Nat.le_refl _)
     have hn:=gY.out
     rw[List.nil_append,Nat.zero_add,hn]at hrow2
     rw[Nat.zero_add,hn]at hcc
     have:=bP.Nk hrw pq.out hB1 hcc hrow2 (jG hown1)
     rw[←hn]at this
     exact this
    case rest=>
     obtain⟨w1,rfl⟩:∃w1:World,w1=wc:=⟨_,rfl⟩
     have Qp:0<n:=by omega
     have Bj:Hid ((List.map (fun q:Int×bF=>q.2.b) T).length=n):=by
      show _=_
      rw[List.length_map];exact gY.out.symm
     obtain⟨g,off,c,q0,s1,-,hlc,qf,hgr,hg1,hg2,hr1,gf,d0,d1,d2,d3,d4,d5⟩:=hcut.facts zk.out
     rw[Bj.out]at s1
     have Vo:=qf 1
     have Xt:Hid (av (Off (Grow F w w1) r) w1 aD (n*1) vs):=by
      have:=mO hcut.1 HV.out
      rw[Bj.out]at this
      rw[Nat.mul_one]
      exact this
     have Xu:Hid (∀u∈vs,u.oneCell'=true):=Each.one EI.out KO.out
     obtain⟨i1,a1,b1,u1,t1⟩:=info_parts sH
     have HI1:=Lib.hid (And.intro a1 (And.intro b1 (And.intro u1 t1)))
     have HM:=Lib.hid hcut
     clear hcut qf gf hlc q0 d0 d1 d2 d3 d4 d5 hgr hg1 hg2 a1 b1 u1 t1
     go_upto_region 9 with(fail)
     go_cut [] (fun wx=>vK F w r (.slice aE (aV T).length cE) T (List.map (fun q:Int×bF=>q.2.b) T) wx)
     case first=>
      go_wp2_with ((at_builtin;refine eZ rfl _ _ 86 rfl w1.heap.size 39 _ _ 1 24 Tryz.underlying86 HI1.out.1 HI1.out.2.1 HI1.out.2.2.1 HI1.out.2.2.2 rfl (by omega) _ 0 [] rfl (dH (MapKept.heap_alloc w1 _).1 (Nat.le_refl _)) _ n _ vs rfl (Xt.out.below ((Below.refl _ _).alloc (Nat.le_refl _) _) (Nat.le_refl _)) Xu.out (by unfold maxLen;omega) (by omega) (by simp) ?_;intro A1 c1' w2 hown1 hb1;have hB1:=((Below.refl w1.heap.size w1).alloc (Nat.le_refl _) _).trans hb1;have hf1:w2.frozen? ⟨r,1,none⟩=false:=(hB1.frozen (p:=⟨r,1,none⟩) hr1).trans Vo;have KH:=(hB1.cell (p:=⟨r,1,none⟩) hr1).trans s1))
      go_meet
      exact KQ HM.out (by have:=gY.out;omega) Qp Bj.out hB1 hown1 (by unfold maxLen;omega) EI.out Tw.out
     case rest=>
      obtain⟨w2,rfl⟩:∃w2:World,w2=wc:=⟨_,rfl⟩
      clear s1 Vo
      obtain⟨gN,oN,Y5,gD,oD,Vp,vs2,FX⟩:=hcut
      obtain⟨ax,cx,t0,t1,t2,t3,t4⟩:=FX.facts (k:=k) (d:=x.b) (by rw[List.getElem?_map,zk.out];rfl)
      rw[Bj.out]at t1
      rw[←EJ.out]at t2 t4
      have hs2:=FX.keeps.size
      have hr2:r<w2.heap.size:=by omega
      have Tx:=FX.NZ.2
      have Vq:=FX.Vn.frozen (oD+k)
      have Qq:=Lib.hid FX
      have HXB:=Lib.hid t4
      have HB2:Hid (av S w2 ab nb (bs.map bv)):=Ru.out.kept hs2 fun b hb hbw=>FX.keeps.block b hbw (Xr.out b hb)
      have GR:Hid (∀w4,Below w2.heap.size w2 w4→w4.cell? ⟨r,1,none⟩=some (.slice (some ⟨gD,oD,none⟩) n Vp)∧w4.cell? ⟨gD,oD+k,none⟩=some (.slice ax l cx)∧w4.frozen? ⟨gD,oD+k,none⟩=false):=fun w4 hb=>⟨by rw[hb.cell (p:=⟨r,1,none⟩) hr2];exact t1,by rw[hb.cell (p:=⟨gD,oD+k,none⟩) Tx];exact t2,by rw[hb.frozen (p:=⟨gD,oD+k,none⟩) Tx];exact Vq⟩
      have Vr:Hid (∀w4,Below w2.heap.size w2 w4→av (fun b=>(F b∧b<w.heap.size∧b≠r)∨(w.heap.size≤b∧b<w2.heap.size∧b≠gN∧b≠gD)) w4 ax (l*1) (x.b.map bv)∧av S w4 ab (nb*1) (bs.map bv)):=fun w4 hb=>by
       rw[Nat.mul_one,Nat.mul_one]
       exact⟨t4.below hb (Nat.le_refl _),HB2.out.below hb (Nat.le_refl _)⟩
      obtain⟨i8,a8,b8,u8,t8⟩:=info_parts N7
      have I5:=Lib.hid (And.intro a8 (And.intro b8 (And.intro u8 t8)))
      clear FX t0 t3 t4 a8 b8 u8 t8
      go_upto_region 10 with(fail)
      go_cut [] (fun wx=>vK F w r (.slice aE (aV T).length cE) T ((List.map (fun q:Int×bF=>q.2.b) T).set k (x.b++bs)) wx)
      case first=>
       go_wp2
       refine wp_region_noPanic ?_
       refine dQ (last:=17) (S:=(fun w'=>w'.cell? ⟨r,1,none⟩=some (.slice (some ⟨gD,oD,none⟩) n Vp)∧w'.cell? ⟨gD,oD+k,none⟩=some (.slice ax l cx)∧w'.frozen? ⟨gD,oD+k,none⟩=false)) (by kernel_rfl) ?_ (fun hS=> ?_)
       ·exact GR.out _ (Below.refl _ _).drew
       refine bf 0 (hS:=hS) (h:= ?_)
       refine bf 1 (hS:=hS) (h:= ?_)
       refine bf 2 (hS:=hS) (h:= ?_)
       refine bf 3 (hS:=hS) (h:= ?_)
       refine bf 4 (hS:=hS) (h:= ?_)
       refine bf 6 (hS:=hS) (h:= ?_)
       refine bf 7 (hS:=hS) (h:= ?_)
       refine bf 8 (hS:=hS) (h:= ?_)
       refine bf 9 (hS:=hS) (h:= ?_)
       refine bf 10 (hS:=hS) (h:= ?_)
       refine bf 11 (hS:=hS) (h:= ?_)
       refine bf 12 (hS:=hS) (h:= ?_)
       refine bf 14 (hS:=hS) (h:= ?_)
       refine mP 5 (h:=fun K hK=> ?_)
       go_simp
       refine hK.out _ _ (fun _=>GR.out _ ((Below.refl _ _).drew.alloc (Nat.le_refl _) _)) (fun hS=> ?_)
       replace hS:=hS (by decide)
       clear hK K
       try simp only[Act.put,List.setIfInBounds_toArray,List.set_cons_zero,List.set_cons_succ]
       refine au (rs:=[13]) (by kernel_rfl) (by simp) ?_
       refine ah.cons (o:= ?o1) ?ho1 (fun K hK=> ?_) ah.nil
       case ho1=>simp only[List.getElem?_toArray,List.getElem?_cons_succ,List.getElem?_cons_zero];rfl
       refine ak (by rfl) (.tmp 61) (.tmp 68) 39 (by rfl) w2.heap.size 5 _ _ 1 1 Tryz.underlying39 I5.out.1 I5.out.2.1 I5.out.2.2.1 I5.out.2.2.2 rfl (by omega) _ 0 [] (by rfl) (dH (MapKept.heap_alloc w2.drew _).1 (Nat.le_refl _)) _ l _ (x.b.map bv) (by rfl) (Vr.out _ ((Below.refl _ _).drew.alloc (Nat.le_refl _) _)).1 (lN _) (by unfold maxLen;omega) (by omega) (by simp<;>omega) ?_
       intro A1 Y6 u1 hown1 hb1
       have hB1:Below w2.heap.size w2 u1:=((Below.refl _ _).drew.alloc (Nat.le_refl _) _).trans hb1
       refine hK.out _ _ (fun _=>GR.out _ hB1) (fun hS=> ?_)
       replace hS:=hS (by decide)
       clear hK K
       try simp only[Act.put,List.setIfInBounds_toArray,List.set_cons_zero,List.set_cons_succ]
       refine au (rs:=[15]) (by kernel_rfl) (by simp) ?_
       refine ah.cons (o:= ?o2) ?ho2 (fun K hK=> ?_) ah.nil
       case ho2=>simp only[List.getElem?_toArray,List.getElem?_cons_succ,List.getElem?_cons_zero];rfl
       refine ak (by rfl) (.tmp 69) (.tmp 70) 39 (by rfl) w2.heap.size 5 _ _ 1 1 Tryz.underlying39 I5.out.1 I5.out.2.1 I5.out.2.2.1 I5.out.2.2.2 rfl (by omega) _ _ _ (by rfl) hown1 _ nb _ (bs.map bv) (by rfl) (Vr.out _ hB1).2 (lN _) (by unfold maxLen;omega) (by omega) hB1.size ?_
       intro A2 Vj u2 hown2 hb2
       have hB2:Below w2.heap.size w2 u2:=hB1.trans hb2
       refine hK.out _ _ (fun _=>GR.out _ hB2) (fun hS=> ?_)
       replace hS:=hS (by decide)
       clear hK K
       try simp only[Act.put,List.setIfInBounds_toArray,List.set_cons_zero,List.set_cons_succ]
       refine bf 16 (hS:=hS) (h:= ?_)
       refine mP 17 (h:=fun K hK=> ?_)
       go_simp
       refine hK.out _ _ (fun h=>absurd rfl h) (fun hS=> ?_)
       clear hS hK K
       try simp only[Act.put,List.setIfInBounds_toArray,List.set_cons_zero,List.set_cons_succ]
       refine bA (by kernel_rfl) ?_ _
       refine NoPanic.normal ?_
       go_wp2_with fail
       go_meet
       exact FW Qq.out (by have:=Bj.out;omega) hB2 hown2 ⟨by simp,by rw[List.length_append,PK.out,←EJ.out];omega,by omega⟩ (by unfold maxLen;omega)
      case rest=>
       obtain⟨w3,rfl⟩:∃w3:World,w3=wc:=⟨_,rfl⟩
       clear t1 t2 Vq Tx hr2
       obtain⟨gN,oN,Xv,gD,oD,Xw,vs3,Qr⟩:=hcut
       obtain⟨ay,cy,t0,t1,t2,-,-⟩:=Qr.facts (k:=k) (d:=x.b++bs) (List.getElem?_set_self (by have:=Bj.out;omega))
       rw[←gY.out]at t0
       rw[List.length_set,Bj.out]at t1
       rw[List.length_append,PK.out,←EJ.out]at t2
       obtain⟨b',o',e',-,-,-,FY⟩:=Qr.NY.wide dW rfl zk.out (by omega)
       simp only[Option.some.injEq,Addr.mk.injEq,and_true]at e'
       obtain⟨rfl,rfl⟩:=e'
       have t3:w3.cell? ⟨gN,oN+k*6+3,none⟩=some (.int .i64 (x.b.length:Nat)):=FY 3 (by omega)
       have t4:=Qr.Vm.frozen (oN+k*6+3)
       have KR:=Lib.hid Qr
       have HT0:=Lib.hid t0
       clear Qr FY
       go_wp2
       refine wp_region_noPanic ?_
       refine dQ (last:=15) (S:=(fun w'=>w'.cell? ⟨r,0,none⟩=some (.slice (some ⟨gN,oN,none⟩) n Xv)∧w'.cell? ⟨r,1,none⟩=some (.slice (some ⟨gD,oD,none⟩) n Xw)∧w'.cell? ⟨gD,oD+k,none⟩=some (.slice ay (l+nb) cy)∧w'.cell? ⟨gN,oN+k*6+3,none⟩=some (.int .i64 (x.b.length:Nat))∧w'.frozen? ⟨gN,oN+k*6+3,none⟩=false)) (by kernel_rfl) ?_ (fun hS=> ?_)
       ·exact⟨t0,t1,t2,t3,t4⟩
       refine bf 0 (hS:=hS) (h:= ?_)
       refine bf 1 (hS:=hS) (h:= ?_)
       refine bf 2 (hS:=hS) (h:= ?_)
       refine bf 3 (hS:=hS) (h:= ?_)
       refine bf 4 (hS:=hS) (h:= ?_)
       refine bf 5 (hS:=hS) (h:= ?_)
       refine bf 6 (hS:=hS) (h:= ?_)
       refine bf 7 (hS:=hS) (h:= ?_)
       refine bf 8 (hS:=hS) (h:= ?_)
       refine bf 9 (hS:=hS) (h:= ?_)
       refine bf 10 (hS:=hS) (h:= ?_)
       refine bf 11 (hS:=hS) (h:= ?_)
       refine bf 12 (hS:=hS) (h:= ?_)
       refine bf 13 (hS:=hS) (h:= ?_)
       refine bf 14 (hS:=hS) (h:= ?_)
       refine mP 15 (h:=fun K hK=> ?_)
       go_simp
       refine hK.out _ _ (fun h=>absurd rfl h) (fun hS=> ?_)
       clear hS hK K
       try simp only[Act.put,List.setIfInBounds_toArray,List.set_cons_zero,List.set_cons_succ]
       refine bA (by kernel_rfl) ?_ _
       refine NoPanic.normal ?_
       go_wp2_with fail
       go_ret
       rw[HQ.out]
       have h7:=I4 HH.out pq.out KR.out zk.out (q':=(id,{x with b:=x.b++bs})) (v3:= .int .i64 ((l+nb:Nat):Int)) (by
        show _=_
        have e9:(x.b++bs).length=l+nb:=by rw[List.length_append,PK.out,←EJ.out]
        unfold bX
        simp only[e9]
        rfl) (.int .i64 0)
       rw[←Nat.add_assoc]at h7
       have h8:=kZ (f:=fun x:bF=>{x with b:=x.b++bs}) HS.out zk.out
       have h9:=data_set (f:=fun x:bF=>{x with b:=x.b++bs}) HS.out zk.out
       simp only at h8 h9
       rw[h8,←h9]at h7
       have h10:=h7.then_ HH.out.low (Below.refl _ _).drew
       refine⟨h10.1,h10.2.1,?_⟩
       rw[jZ (fun _=>by exact rfl)]
       exact h10.2.2
 ·have HQ:=Lib.hid (pY (T:=T) (id:=id) (bs:=bs) (v:=bL T id) (by
   unfold jo bL at*
   cases hx:aj id T with
   |none=>rfl
   |some x=>
    rw[hx]at h0
    by_cases hk:x.kind=2
    ·simp[hk]
    ·exact absurd (by simp[hk]) h0) h0)
  generalize bL T id=f at*
  have hne:(f==0)=false:=by simpa using h0
  have hne2:(f !=0)=true:=by simpa using h0
  clear h hT h0 hbs hbl hSr
  go_enter Tryz.func22,Tryz.ntmps22
  go_wp2_with fail
  (with_reducible refine HF.out.mono ?_)
  rintro e w1 ⟨rfl,rfl⟩
  go_wp2_with fail
  go_ret
  exact bC.no HH.out (Below.refl _ _) HQ.out
end
section
variable {W w:World} {P:Nat→Prop} {p:Nat} {T:aF}
theorem KS {S:Nat→Prop} (h:cO W P w p T) (a:Option Addr) (n c:Nat) (ls:List Nm) (hS:aH S w a n (ls.map strOf)):
  Calls Tryz.prog 115 #[ptr p, .slice a n c] w fun e w'=>e= .returned (.tuple #[.int .i64 (eO T ls).1, .int .i64 (eO T ls).2])∧Below w.heap.size w w':=by
 obtain⟨g,D,mb,ib,nb,hA,hF⟩:=h.at_
 exact Ew a n c ls w hA h.ok hS
theorem FZ {S:Nat→Prop} (h:cO W P w p T) (a:Option Addr) (n c:Nat) (ls:List Nm) (hS:aH S w a n (ls.map strOf)) (hc:n≤c) (jS:n≤1000000):
  Calls Tryz.prog 18 #[ptr p, .slice a n c] w (dS W P w p (bB T ls).2 (.int .i64 (bB T ls).1)):=by
 obtain⟨g,D,mb,ib,nb,hA,hF⟩:=h.at_
 exact(yP a n c ls w hA h.ok hS hc jS).mono fun e w' ht=>cO.kY hF h.below h.low ht (h.ok.bB _)
theorem I6 {S:Nat→Prop} (h:cO W P w p T) (a:Option Addr) (n c:Nat) (ls:List Nm) (hS:aH S w a n (ls.map strOf)) (hc:n≤c) (jS:n≤1000000):
  Calls Tryz.prog 14 #[ptr p, .slice a n c] w (dS W P w p (bU T ls).2 (.int .i64 (bU T ls).1)):=by
 obtain⟨g,D,mb,ib,nb,hA,hF⟩:=h.at_
 exact(Bg a n c ls w hA h.ok hS hc jS).mono fun e w' ht=>cO.kY hF h.below h.low ht (h.ok.bU _)
theorem F3 {S S':Nat→Prop} (h:cO W P w p T) (hO:fU T) (a:Option Addr) (n c:Nat) (ls:List Nm) (a':Option Addr) (n' c':Nat) (ls':List Nm) (hS:aH S w a n (ls.map strOf)) (hS':aH S' w a' n' (ls'.map strOf)) (hc:n≤c) (jS:n≤1000000) (hc':n'≤c') (uj:n'≤1000000):
  Calls Tryz.prog 93 #[ptr p, .slice a n c, .slice a' n' c'] w (dS W P w p (aT T ls ls').2 (.int .i64 (aT T ls ls').1)):=by
 obtain⟨g,D,mb,ib,nb,hA,hF⟩:=h.at_
 exact(za a n c ls a' n' c' ls' w hA hO hS hS' hc jS hc' uj).mono fun e w' ht=>cO.kY hF h.below h.low ht (hO.aT _ _).1
theorem KT (h:cO W P w p T) (id:Int) (hid:(Lit.int .i64 id).wf=true):
  Calls Tryz.prog 29 #[ptr p, .int .i64 id] w (dS W P w p (dM T id).2 (.int .i64 (dM T id).1)):=by
 obtain⟨g,D,mb,ib,nb,hA,hF⟩:=h.at_
 exact(drop_at id h.ok w hA hid).mono fun e w' ht=>cO.kY hF h.below h.low ht (h.ok.dM _)
theorem KU (h:cO W P w p T) (id:Int) (hid:(Lit.int .i64 id).wf=true):Calls Tryz.prog 116 #[ptr p, .int .i64 id] w (sw w (kT T id)):=by
 obtain⟨g,D,mb,ib,nb,hA,hF⟩:=h.at_
 exact EB id w hA h.ok hid
end
def Short (T:aF):Prop:=∀q∈T,∀e∈q.2.names,e.1.length≤1
theorem Short.aX {T:aF} (h:Short T) (k:Int) {f:bF→bF} (hf:∀x:bF,(∀e∈x.names,e.1.length≤1)→∀e∈(f x).names,e.1.length≤1):Short (Go.Proofs.YtohpcppeajijnaaGreat.aX k f T):=fun q hq=>by
 rcases sJ hq with h1|⟨p,hp,_,rfl⟩
 ·exact h q h1
 ·exact hf p.2 (h p hp)
theorem Short.same {T:aF} (h:Short T) (k:Int) {f:bF→bF} (hf:∀x,(f x).names=x.names):Short (Go.Proofs.YtohpcppeajijnaaGreat.aX k f T):=h.aX k fun x hx=>by rw[hf];exact hx
theorem Short.set {T:aF} (h:Short T) (d:Int) {n:Nm} (hn:n.length≤1) (id:Int):Short (setName T d n id):=h.aX d fun x hx=>yF (P:=fun e=>e.1.length≤1) hx hn
theorem Short.cut {T:aF} (h:Short T) (d:Int) (n:Nm):Short (aA T d n):=h.aX d fun x hx e he=>hx e (List.mem_filter.1 he).1
theorem Short.del {T:aF} (h:Short T) (k:Int):Short (bg k T):=fun q hq=>h q (List.mem_filter.1 hq).1
theorem Short.add {T:aF} (h:Short T) (f kind:Int):Short (bT fT f (bE kind) T):=fun q hq=>by
 rcases (kG fT).1 hq with rfl|h1
 ·intro e he;cases he
 ·exact h q (List.mem_filter.1 h1).1
theorem Short.settle {T:aF} (h:Short T) (k:Int):Short (eP T k):=by
 unfold eP
 cases aj k T with
 |none=>exact h
 |some x=>
  simp only
  split
  ·exact h.del k
  ·exact h
theorem p8 (T:aF) {p:List Nm} (hp:∀n∈p,n.length≤1):(aB T p).2.1.length≤1:=by
 have hl:(p.getLastD []).length≤1:=by
  rw[List.getLastD_eq_getLast?]
  cases h:p.getLast? with
  |none=>simp
  |some n=>exact hp n (List.mem_of_getLast? h)
 unfold aB
 split
 ·simp
 ·split
  ·simp
  ·split
   ·exact hl
   ·simp
def mQ (T:aF):Prop:=fU T∧Short T
theorem mQ.cu {T:aF} (h:mQ T) {p:List Nm} (hp:∀n∈p,n.length≤1) (kind:Int):mQ (Go.Proofs.YtohpcppeajijnaaGreat.cu T p kind).2:=by
 refine⟨h.1.cu _ _,?_⟩
 unfold Go.Proofs.YtohpcppeajijnaaGreat.cu
 split
 ·exact(h.2.add _ _).set _ (p8 T hp) _
 ·exact h.2
theorem mQ.dz {T:aF} (h:mQ T) (p:List Nm) {q:List Nm} (hq:∀n∈q,n.length≤1):mQ (Go.Proofs.YtohpcppeajijnaaGreat.dz T p q).2:=by
 refine⟨h.1.dz _ _,?_⟩
 unfold Go.Proofs.YtohpcppeajijnaaGreat.dz
 simp only
 split
 ·exact(h.2.set _ (p8 T hq) _).same _ (fun _=>by exact rfl)
 ·exact h.2
theorem mQ.bB {T:aF} (h:mQ T) (p:List Nm):mQ (Go.Proofs.YtohpcppeajijnaaGreat.bB T p).2:=by
 refine⟨h.1.bB _,?_⟩
 unfold Go.Proofs.YtohpcppeajijnaaGreat.bB
 simp only
 split
 ·exact(((h.2.cut _ _).same _ (f:=fun x=>{x with links:=x.links-1}) (fun _=>by exact rfl))).settle _
 ·exact h.2
theorem mQ.bU {T:aF} (h:mQ T) (p:List Nm):mQ (Go.Proofs.YtohpcppeajijnaaGreat.bU T p).2:=by
 refine⟨h.1.bU _,?_⟩
 unfold Go.Proofs.YtohpcppeajijnaaGreat.bU
 simp only
 split
 ·exact(h.2.cut _ _).del _
 ·exact h.2
theorem mQ.aT {T:aF} (h:mQ T) (p:List Nm) {q:List Nm} (hq:∀n∈q,n.length≤1):mQ (Go.Proofs.YtohpcppeajijnaaGreat.aT T p q).2:=by
 refine⟨h.1.aT _ _,?_⟩
 unfold Go.Proofs.YtohpcppeajijnaaGreat.aT
 simp only
 split
 ·exact(h.2.cut _ _).set _ (p8 T hq) _
 ·exact h.2
theorem mQ.bK {T:aF} (h:mQ T) (id:Int) (b:List UInt8):mQ (Go.Proofs.YtohpcppeajijnaaGreat.bK T id b).2:=by
 refine⟨h.1.bK _ _,?_⟩
 unfold Go.Proofs.YtohpcppeajijnaaGreat.bK
 simp only
 split
 ·exact h.2.same _ (fun _=>by exact rfl)
 ·exact h.2
theorem mQ.dR {T:aF} (h:mQ T) (id aK:Int) (h0:0≤aK):mQ (Go.Proofs.YtohpcppeajijnaaGreat.dR T id aK).2:=by
 refine⟨h.1.dR _ _ h0,?_⟩
 unfold Go.Proofs.YtohpcppeajijnaaGreat.dR
 simp only
 split
 ·exact(h.2.same _ (f:=fun x=>{x with closed:=true,aK:=aK}) (fun _=>by exact rfl)).settle _
 ·exact h.2
theorem mQ.dL {T:aF} (h:mQ T) (id aK:Int) (h0:0≤aK):mQ (Go.Proofs.YtohpcppeajijnaaGreat.dL T id aK).2:=by
 refine⟨h.1.dL _ _ h0,?_⟩
 unfold Go.Proofs.YtohpcppeajijnaaGreat.dL
 simp only
 split
 ·exact h.2.same _ (fun _=>by exact rfl)
 ·exact h.2
theorem mQ.dM {T:aF} (h:mQ T) (id:Int):mQ (Go.Proofs.YtohpcppeajijnaaGreat.dM T id).2:=by
 refine⟨h.1.dM _,?_⟩
 unfold Go.Proofs.YtohpcppeajijnaaGreat.dM
 simp only
 split
 ·rw[qy]
  refine Short.del (fun q hq e he=> ?_) _
  unfold eF at hq
  obtain⟨p,hp,rfl⟩:=List.mem_map.1 hq
  exact h.2 p hp e (List.mem_filter.1 he).1
 ·exact h.2
theorem mQ.new:mQ kV:=⟨fU.new,fun q hq e he=>by
 unfold kV at hq
 simp only[List.mem_singleton]at hq
 subst hq
 cases he⟩
structure iK (W:World) (Q P F:Nat→Prop) (w:World) (t r:Nat) (T:aF):Prop where
 tree:cO W P w t T
 ref:gX F w r T
 KV:∀x,F x→P x∧W.heap.size≤x
 JW:∀x,Q x→P x∧¬F x
 okay:mQ T
def BN (W:World) (Q:Nat→Prop) (w:World) (t r:Nat) (T:aF):Prop:=∃P F,iK W Q P F w t r T
section
variable {W w w1 w2:World} {Q P F:Nat→Prop} {t r:Nat} {T T':aF}
theorem iK.below (h:iK W Q P F w t r T) (hb:Below w.heap.size w w1):iK W Q P F w1 t r T:=⟨h.tree.grow hb,h.ref.below hb (Nat.le_refl _),h.KV,h.JW,h.okay⟩
theorem iK.zX (h:iK W Q P F w t r T) (hb:Below w.heap.size w w1):iK W (fun x=>Q x∨(w.heap.size≤x∧x<w1.heap.size)) (fun x=>P x∨(w.heap.size≤x∧x<w1.heap.size)) F w1 t r T:=by
 refine⟨h.tree.zX hb,h.ref.below hb (Nat.le_refl _),fun x hx=>⟨.inl (h.KV x hx).1,(h.KV x hx).2⟩,fun x hx=> ?_,h.okay⟩
 rcases hx with hx|hx
 ·exact⟨.inl (h.JW x hx).1,(h.JW x hx).2⟩
 ·exact⟨.inr hx,fun hf=>by have:=h.ref.low x hf;omega⟩
theorem iK.mono {Q':Nat→Prop} (h:iK W Q P F w t r T) (hq:∀x,Q' x→Q x):iK W Q' P F w t r T:=⟨h.tree,h.ref,h.KV,fun x hx=>h.JW x (hq x hx),h.okay⟩
theorem iK.mid {v:Value} {e:Ending} (h:iK W Q P F w t r T) (h1:dS W P w t T' v e w1):gX F w1 r T:=
 h.ref.keeps h1.2.2 fun b hb hw=>hw.2 (h.KV b hb).1
theorem cO.over (h:cO W P w1 t T') (hK:Keeps (fun x=>x=r) w1 w2) (hr:P r) (hW:W.heap.size≤r):cO W (fun x=>P x∨(w1.heap.size≤x∧x<w2.heap.size)) w2 t T':=by
 obtain⟨g,D,mb,ib,nb,hA,hF⟩:=h.at_
 have hs:=h.below.size
 refine⟨⟨g,D,mb,ib,nb,hA.keeps hK fun b hb he=>(hF b hb).2 (he▸hr),fun b hb=>⟨(hF b hb).1,fun hp=> ?_⟩⟩,h.ok,h.below.trans (hK.jd hs fun x hx he=>by omega),fun x hx=> ?_⟩
 ·rcases hp with hp|hp
  ·exact(hF b hb).2 hp
  ·rcases hb with hb|hb
   ·have:=hA.low b hb;omega
   ·have:=hA.nW b hb;omega
 ·rcases hx with hx|hx
  ·have:=h.low x hx;have:=hK.size;omega
  ·exact hx.2
theorem iK.step {v1 v2:Value} {e1 e2:Ending} (h:iK W Q P F w t r T) (h1:dS W P w t T' v1 e1 w1) (h2:bC F w1 r T' v2 e2 w2) (hO:mQ T'):BN W Q w2 t r T'∧(∀b,Q b→w2.heap[b]? =w.heap[b]?)∧w.heap.size≤w2.heap.size∧Below W.heap.size W w2:=by
 have hr:=h.KV r h.ref.own
 have h3:=h1.2.1.over h2.2.1 hr.1 hr.2
 have hlow:=h1.2.1.low
 refine⟨⟨_,_,h3,h2.2.2,fun x hx=> ?_,fun x hx=>⟨.inl (h.JW x hx).1,fun hf=> ?_⟩,hO⟩,fun b hb=> ?_,Nat.le_trans h1.2.2.size h2.2.1.size,h3.below⟩
 ·rcases hx with hx|hx
  ·exact⟨.inl (h.KV x hx).1,(h.KV x hx).2⟩
  ·have:=h1.2.1.below.size
   exact⟨.inr hx,by omega⟩
 ·rcases hf with hf|hf
  ·exact(h.JW x hx).2 hf
  ·have:=hlow x (h.JW x hx).1;omega
 ·have hb1:=h.JW b hb
  have hbw:=h.tree.low b hb1.1
  rw[h2.2.1.block b (hlow b hb1.1) (fun he=>hb1.2 (he▸h.ref.own))]
  exact h1.2.2.block b hbw (fun hw=>hw.2 hb1.1)
theorem iK.rest (h:iK W Q P F w t r T) (hb:Below w.heap.size w w1):BN W Q w1 t r T∧(∀b,Q b→w1.heap[b]? =w.heap[b]?)∧w.heap.size≤w1.heap.size∧Below W.heap.size W w1:=
 ⟨⟨_,_,h.below hb⟩,fun b hbq=>hb.block b (h.tree.low b (h.JW b hbq).1),hb.size,h.tree.below.trans (hb.mono h.tree.below.size)⟩
end
def kF (n lo hi:Int):Int:=lo+n%(hi-lo+1)
theorem Dx (n lo hi:Int) (h:lo≤hi):lo≤kF n lo hi∧kF n lo hi≤hi:=by
 unfold kF
 have h1:=Int.emod_nonneg n (show hi-lo+1≠0 by omega)
 have h2:=Int.emod_lt_of_pos n (show 0<hi-lo+1 by omega)
 omega
theorem F4 {n:Int} (h:(Lit.int .i64 n).wf=true): -9223372036854775808≤n∧n≤9223372036854775807:=by
 simp[Lit.wf,IntKind.min,IntKind.max,IntKind.signed,IntKind.bits]at h
 omega
theorem Dy (n lo hi:Int) (w:World) (hn:(Lit.int .i64 n).wf=true) (h1:0≤lo) (h2:lo≤hi) (h3:hi≤1099511627776):
  Calls Tryz.prog 21 #[.int .i64 n, .int .i64 lo, .int .i64 hi] w fun e w'=>e= .returned (.int .i64 (kF n lo hi))∧w=w':=by
 obtain⟨hw1,hw2⟩:=F4 hn
 clear hn
 have t1:=Int.tmod_lt_of_pos n (show 0<hi-lo+1 by omega)
 have t2:=Int.lt_tmod_of_pos n (show 0<hi-lo+1 by omega)
 have t3:=Int.emod_nonneg n (show hi-lo+1≠0 by omega)
 have t4:=Int.emod_lt_of_pos n (show 0<hi-lo+1 by omega)
 by_cases hn:0≤n
 ·have hx:¬n%(hi-lo+1)<0:=by omega
  go_enter Tryz.func21,Tryz.ntmps21
  go_wp2
  go_ret
  exact⟨fI (by unfold kF;rfl),rfl⟩
 ·have hE:n%(hi-lo+1)=if n.tmod (hi-lo+1)<0 then n.tmod (hi-lo+1)+(hi-lo+1)else n.tmod (hi-lo+1):=by
   have h5:=Int.emod_add_mul_ediv n (hi-lo+1)
   have h6:=Int.tmod_add_mul_tdiv n (hi-lo+1)
   have h7:(n.tmod (hi-lo+1))%(hi-lo+1)=n%(hi-lo+1):=by
    have h8:n=n.tmod (hi-lo+1)+(hi-lo+1)*n.tdiv (hi-lo+1):=by omega
    rw[←Int.add_mul_emod_self_left (n.tmod (hi-lo+1)) (hi-lo+1) (n.tdiv (hi-lo+1)),←h8]
   split
   ·rw[←h7,←Int.add_emod_right,Int.emod_eq_of_lt (by omega) (by omega)]
   ·rw[←h7,Int.emod_eq_of_lt (by omega) (by omega)]
  have HE:=Lib.hid hE
  clear hE
  by_cases ht:n.tmod (hi-lo+1)<0
  ·go_enter Tryz.func21,Tryz.ntmps21
   go_wp2
   go_ret
   exact⟨fI (by unfold kF;rw[HE.out,if_pos ht];omega),rfl⟩
  ·go_enter Tryz.func21,Tryz.ntmps21
   go_wp2
   go_ret
   exact⟨fI (by unfold kF;rw[HE.out,if_neg (by omega)]),rfl⟩
end Go.Proofs.YtohpcppeajijnaaGreat
