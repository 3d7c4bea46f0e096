/- tree: Copy. slices.Equal of texts; path.Within. tree: Rename. (*tree.Tree).Save. Trees with marks: what turns them, copies, what is committed. package snap: New, find. -/
import Derived.Test.YtjnhnlabpccgjaaGreatM12
import Derived.Test.YtjnhnlabpccgjaaGreatM14
import Derived.Test.YtjnhnlabpccgjaaGreatM17
import Derived.Shelf.SlMaps.Clone
import Derived.WalkLawsBesides
import Derived.Test.YtjnhnlabpccgjaaGreatM08
import Derived.Test.YtjnhnlabpccgjaaGreatM16
import Derived.Test.YtjnhnlabpccgjaaGreatM15
namespace Go.Proofs.YtjnhnlabpccgjaaGreat
open Go.ChangeShapes Go.WideShapes Go.ChangeAt Go.RowKit
set_option linter.unusedVariables false
set_option linter.unusedSimpArgs false
theorem EA (b:Nat) (l:List (Nm×Value)) (w:World) (hM:MapAt fM w b l):Calls Tryz.prog 169 #[.map (some b)] w fun e w'=>e= .returned (.map (some w.heap.size))∧MapAt fM w' w.heap.size l∧Below w.heap.size w w'∧w.heap.size<w'.heap.size:=
 (AnyW.maps_Clone_owns Tryz.NT 9 mg b l.length (uf fM l) w hM).mono fun e w' h=>⟨h.1,MapAt.rT h.2.1,h.2.2.2,h.2.1.lt⟩
theorem GQ (w:World):Calls Tryz.prog 169 #[.map none] w fun e w'=>e= .returned (.map none)∧w'=w:=AnyW.maps_Clone_nil Tryz.NT w
def Rj (w:World) (x:bq) (e:Ending) (w':World):Prop:=∃n,e= .returned (dU x n)∧(x.kind=2→MapAt fM w' n (dV x)∧w.heap.size≤n∧n<w'.heap.size)∧Below w.heap.size w w'
theorem GR {w:World} {x:bq} {nb:Nat} (hM:x.kind=2→MapAt fM w nb (dV x)):Calls Tryz.prog 169 #[dU x nb] w (Rj w x):=by
 by_cases hk:x.kind=2
 ·have e1:dU x nb= .map (some nb):=if_pos hk
  rw[e1]
  refine(EA nb (dV x) w (hM hk)).mono ?_
  rintro e w' ⟨rfl,h1,h2,h3⟩
  exact⟨w.heap.size,by unfold dU;rw[if_pos hk],fun _=>⟨h1,Nat.le_refl _,h3⟩,h2⟩
 ·have e1:dU x nb= .map none:=if_neg hk
  rw[e1]
  refine(GQ w).mono ?_
  rintro e w' ⟨rfl,rfl⟩
  exact⟨0,by unfold dU;rw[if_neg hk],fun h=>absurd h hk,Below.refl _ _⟩
section
variable {g:Nat→Own} {D:Nat→Prop} {p mb:Nat} {ib nb:Int→Nat} {T:aA}
def Rk (g:Nat→Own) (D:Nat→Prop) (w:World) (mb:Nat) (ib:Int→Nat) (T:aA) (q mq r:Nat) (wr:World):Prop:=
 ∃(left:Int→Bool) (cnt:Nat) (g':Nat→Own) (MJ nb':Int→Nat),eG aW wr mb r (T.map fun q=>(q.1,ptr (ib q.1))) left cnt∧aH g' D wr q mq MJ nb' (nX left T)∧(∀b,g' b≠ .none→w.heap.size≤b∧b≠r)∧Below w.heap.size w wr
def U_ (D:Nat→Prop) (w:World) (T:aA) (e:Ending) (w':World):Prop:=
 ∃q g' mq MJ nb',e= .returned (ptr q)∧aH g' D w' q mq MJ nb' T∧(∀b,g' b≠ .none→w.heap.size≤b)∧Below w.heap.size w w'
theorem GU {w0:World} {q mq:Nat} (hq:w0.heap[q]? =some (.cells #[.map (some mq)] 106 (0,0))) (hm:MapAt aW w0 mq []) (hne:q≠mq) (hD:∀b,D b→b<w0.heap.size∧b≠q∧b≠mq):
  aH (fun b=>if b=q then .head else if b=mq then .items else .none) D w0 q mq (fun _=>0) (fun _=>0) []:=by
 refine⟨hq,hm,fun k x hx=>(by simp[aj]at hx),if_pos rfl,by rw[if_neg (Ne.symm hne),if_pos rfl],fun k x hx=>(by simp[aj]at hx),fun k x hx=>(by simp[aj]at hx),fun b hb=> ?_,fun b hb=> ?_,fun b hb=>(hD b hb).1⟩
 ·rw[if_neg (hD b hb).2.1,if_neg (hD b hb).2.2]
 ·by_cases h1:b=q
  ·rw[h1];exact(Array.getElem?_eq_some_iff.1 hq).1
  ·by_cases h2:b=mq
   ·rw[h2];exact hm.lt
   ·rw[if_neg h1,if_neg h2]at hb;exact absurd rfl hb
set_option maxRecDepth 100000 in
set_option maxHeartbeats 8000000 in
theorem Rm (w:World) (h:aH g D w p mb ib nb T) (hT:OkW T):Calls Tryz.prog 139 #[ptr p] w (U_ D w T):=by
 have hmm:= @run_makeMap Tryz.prog
 have HH:=Lib.hid h
 have HT:=Lib.hid hT
 obtain⟨c0,hpw,hmw⟩:=h.cell
 have HB2:=Lib.hid ((wall w (.map #[] 0)).trans ((wall (w.alloc (.map #[] 0)) (.cells #[.map (some w.heap.size)] 106)).mono (by simp)))
 have lQ:=Lib.hid ((h.below HB2.out (Nat.le_refl _)).map)
 have c2:=(HB2.out.cell (p:=⟨p,0,none⟩) hpw).trans c0
 clear h hT
 go_enter Tryz.func139,Tryz.ntmps139
 go_wp2_with (at_range;refine mK aW rfl _ 104 107 rfl Tryz.underlying104 rfl lQ.out ?_;intro w0 hR0 hB0 hs0)
 go_frame
 have HQ2:=Lib.hid (jN (w:=w.alloc (.map #[] 0)) (v:= .map (some w.heap.size)) (t:=106))
 have KC:((w.alloc (.map #[] 0)).alloc (.cells #[.map (some w.heap.size)] 106)).heap[w.heap.size+1]? =some (.cells #[.map (some w.heap.size)] 106 (0,0)):=by
  have:=(MapKept.heap_alloc (w.alloc (.map #[] 0)) (.cells #[.map (some w.heap.size)] 106)).1
  simpa using this
 have hmb:MapAt aW ((w.alloc (.map #[] 0)).alloc (.cells #[.map (some w.heap.size)] 106)) w.heap.size []:=(MapAt.made (F:=aW) w).kept ((MapKept.heap_alloc (w.alloc (.map #[] 0)) _).2 w.heap.size (by simp))
 simp only[World.size_alloc]at hR0 hB0 hs0
 simp only[World.size_alloc]
 have hA0:aH (fun b=>if b=w.heap.size+1 then .head else if b=w.heap.size then .items else .none) D w0 (w.heap.size+1) w.heap.size (fun _=>0) (fun _=>0) []:=by
  refine GU ((hB0.block _ (by omega)).trans KC) (hmb.kept (hB0.block _ (by omega))) (by omega) fun b hb=> ?_
  have:=HH.out.mh b hb
  omega
 go_loopw [4,5] (fun _ _ wr=>Rk g D w mb ib T (w.heap.size+1) w.heap.size (w.heap.size+2) wr) (fun _ _ wr=>wr.rangeLeft mb (w.heap.size+2))
 case atStart=>
  refine⟨_,_,(fun b=>if b=w.heap.size+1 then .head else if b=w.heap.size then .items else .none),fun _=>0,fun _=>0,hR0,?_,?_,HB2.out.trans (hB0.mono (by omega))⟩
  ·rw[Ei (fun q hq=>by rw[dN,aI bH HT.out.sorted hq];rfl)]
   exact hA0
  ·intro b hb
   by_cases h1:b=w.heap.size+1
   ·omega
   ·by_cases h2:b=w.heap.size
    ·omega
    ·simp only[if_neg h1,if_neg h2]at hb;exact absurd rfl hb
 case round=>
  obtain⟨left,cnt,g1,TI,TJ,hR,hA,hg1,hB⟩:=hrel
  have HA1:=Lib.hid hA
  have HR:=Lib.hid hR
  have HB:=Lib.hid hB
  have CK:=Lib.hid hg1
  clear hR hA hB hg1
  go_wp2_with (first|(at_next;refine nU aW rfl _ rfl rfl HR.out ?_ ?_))
  ·intro hdone
   have Ye:Hid (nX left T=T):=Km hdone
   clear hdone
   go_wp2
   go_ret
   have h9:=HA1.out
   rw[Ye.out]at h9
   exact⟨_,g1,_,TI,TJ,rfl,h9,fun b hb=>(CK.out b hb).1,HB.out⟩
  ·intro k v w3 cnt1 NP hleft hg2 mo hlt hK1 hs1 hen
   rw[dN]at hg2
   cases hy:aj k T with
   |none=>rw[hy]at hg2;cases hg2
   |some x=>
    rw[hy]at hg2
    cases hg2
    have hrl:=HR.out.lt
    have hB3:Below w.heap.size w w3:=HB.out.trans (hK1.fD HB.out.size fun b hb (hbr:b=w.heap.size+2)=>by omega)
    have hAs:=HH.out.below hB3 (Nat.le_refl _)
    have hA3:aH g1 D w3 (w.heap.size+1) w.heap.size TI TJ (nX left T):=HA1.out.keeps hK1 fun b hb (hbr:b=w.heap.size+2)=>by
     rcases hb with hb|hb
     ·exact(CK.out b hb).2 hbr
     ·have:=HH.out.mh b hb;omega
    obtain⟨a,c,hcb,hcap,hrow⟩:=(hAs.item k x hy).cells
    have hnm:=(hAs.item k x hy).names
    have hiw:ib k<w3.heap.size:=(Array.getElem?_eq_some_iff.1 hcb).1
    have hqw:=hA3.cell.2.1
    have hq0:=hA3.cell.1
    have Yf:=mo.lt
    have HST:Hid (∀w5 v,Below w3.heap.size w3 w5→∃w6,(Instr.mapUpdate 104 (.map (some w.heap.size)) (.int .i64 k) v).run Tryz.prog w5= .ok () w6∧MapAt aW w6 w.heap.size (bM aW.lt k v ((nX left T).map fun q=>(q.1,ptr (TI q.1))))∧w5.mapTurned w6 w.heap.size):=fun w5 v hb=>by
     refine(hA3.map.kept (hb.block _ hA3.cell.2.2)).oJ aW Tryz.underlying104 ?_ k v NP
     have h1:(nX left T).length≤T.length:=List.length_filter_le _ _
     have h2:=HT.out.len
     rw[List.length_map]
     unfold maxLen
     omega
    have iK:Hid (∀w',Below w3.heap.size w3 w'→w'.cell? ⟨w.heap.size+1,0,none⟩=some (.map (some w.heap.size))∧w'.cell? ⟨ib k,0,none⟩=some (.int .i64 k)∧w'.cell? ⟨ib k,1,none⟩=some (.int .i64 x.kind)∧w'.cell? ⟨ib k,2,none⟩=some (.int .i64 x.links)∧w'.cell? ⟨ib k,3,none⟩=some (.int .i64 x.b.length)∧w'.cell? ⟨ib k,4,none⟩=some (.int .u64 x.aP)∧w'.cell? ⟨ib k,5,none⟩=some (.bool x.closed)∧w'.cell? ⟨ib k,6,none⟩=some (.slice a x.b.length c)∧w'.cell? ⟨ib k,7,none⟩=some (dU x (nb k))):=fun w' hb=>by
     refine⟨(hb.cell (p:=⟨w.heap.size+1,0,none⟩) hqw).trans hq0,?_,?_,?_,?_,?_,?_,?_,?_⟩
     ·exact(hb.cell (p:=⟨ib k,0,none⟩) hiw).trans (bU hcb 0)
     ·exact(hb.cell (p:=⟨ib k,1,none⟩) hiw).trans (bU hcb 1)
     ·exact(hb.cell (p:=⟨ib k,2,none⟩) hiw).trans (bU hcb 2)
     ·exact(hb.cell (p:=⟨ib k,3,none⟩) hiw).trans (bU hcb 3)
     ·exact(hb.cell (p:=⟨ib k,4,none⟩) hiw).trans (bU hcb 4)
     ·exact(hb.cell (p:=⟨ib k,5,none⟩) hiw).trans (bU hcb 5)
     ·exact(hb.cell (p:=⟨ib k,6,none⟩) hiw).trans (bU hcb 6)
     ·exact(hb.cell (p:=⟨ib k,7,none⟩) hiw).trans (bU hcb 7)
    have MK:=Lib.hid (GR (w:=w3.drew) (x:=x) (nb:=nb k) fun hk=>(hnm hk).kept rfl)
    have Rb:=Lib.hid hA3
    have HY:=Lib.hid hy
    have HR1:=Lib.hid mo
    have xJ:=Lib.hid hlt
    have HB3:=Lib.hid hB3
    have lS:=Lib.hid hrow
    have HCAP:=Lib.hid hcap
    have uJ:=Lib.hid hleft
    have e3:aW.val k= .int .i64 k:=rfl
    rw[e3]at hen⊢
    obtain⟨nl,hnl⟩:∃nl,nl=x.b.length:=⟨_,rfl⟩
    obtain⟨nv,QC⟩:∃nv,nv=dU x (nb k):=⟨_,rfl⟩
    rw[←hnl,←QC]at iK
    rw[←QC]at MK
    have Nf:=Lib.hid hnl
    clear hAs hA3 hcb hcap hrow hnm hy mo hlt hK1 hB3 hleft e3 hnl QC
    go_wp2_with fail
    refine qF 20 ((fun w'=>w'.cell? ⟨w.heap.size+1,0,none⟩=some (.map (some w.heap.size))∧w'.cell? ⟨ib k,0,none⟩=some (.int .i64 k)∧w'.cell? ⟨ib k,1,none⟩=some (.int .i64 x.kind)∧w'.cell? ⟨ib k,2,none⟩=some (.int .i64 x.links)∧w'.cell? ⟨ib k,3,none⟩=some (.int .i64 nl)∧w'.cell? ⟨ib k,4,none⟩=some (.int .u64 x.aP)∧w'.cell? ⟨ib k,5,none⟩=some (.bool x.closed)∧w'.cell? ⟨ib k,6,none⟩=some (.slice a nl c)∧w'.cell? ⟨ib k,7,none⟩=some nv)) ?_ fun hS=> ?_
    ·exact iK.out _ (Below.refl _ _).drew
    refine ak 0 hS ?_
    refine ak 1 hS ?_
    refine ak 2 hS ?_
    refine ak 3 hS ?_
    refine ak 4 hS ?_
    refine ak 5 hS ?_
    refine ak 6 hS ?_
    refine ak 7 hS ?_
    refine ak 8 hS ?_
    refine ak 9 hS ?_
    refine ak 10 hS ?_
    refine ak 11 hS ?_
    refine ak 12 hS ?_
    refine ak 13 hS ?_
    refine ak 14 hS ?_
    refine ak 15 hS ?_
    refine ak 16 hS ?_
    refine bK 17 fun K hK=> ?_
    go_simp
    (with_reducible refine MK.out.mono ?_)
    rintro e w4 ⟨n,rfl,hn4,hb4⟩
    have Ro:Below w3.heap.size w3 w4:=(Below.refl _ _).drew.trans hb4
    obtain⟨mv,hmv⟩:∃mv,dU x n= .map mv:=by unfold dU;split<;>exact⟨_,rfl⟩
    rw[hmv]
    have HMV:=Lib.hid hmv
    have Xy:=Lib.hid hn4
    clear hmv hn4 hb4
    go_wp2_with fail
    refine bR hK (iK.out _ Ro) fun hS=> ?_
    clear hK K
    refine ak 18 hS ?_
    refine bK 19 fun K hK=> ?_
    go_simp
    have KD:Below w3.heap.size w3 (w4.alloc (.cells #[.int .i64 k, .int .i64 x.kind, .int .i64 x.links, .int .i64 nl, .int .u64 x.aP, .bool x.closed, .slice a nl c, .map mv] 112)):=Ro.trans ((wall w4 _).mono Ro.size)
    have hci:(w4.alloc (.cells #[.int .i64 k, .int .i64 x.kind, .int .i64 x.links, .int .i64 nl, .int .u64 x.aP, .bool x.closed, .slice a nl c, .map mv] 112)).heap[w4.heap.size]? =some (.cells (gP k x a c (if x.kind=2 then n else w4.heap.size+1)) 112 (0,0)):=by
     rw[(MapKept.heap_alloc w4 _).1]
     unfold gP
     have e9:dU x (if x.kind=2 then n else w4.heap.size+1)= .map mv:=by
      have:=HMV.out
      unfold dU at this⊢
      by_cases hk:x.kind=2
      ·rw[if_pos hk]at this⊢;rw[if_pos hk];exact this
      ·rw[if_neg hk]at this⊢;exact this
     rw[e9,←Nf.out]
    have hs5:(w4.alloc (.cells #[.int .i64 k, .int .i64 x.kind, .int .i64 x.links, .int .i64 nl, .int .u64 x.aP, .bool x.closed, .slice a nl c, .map mv] 112)).heap.size=w4.heap.size+1:=by simp
    have Yg:=wall w4 (.cells #[.int .i64 k, .int .i64 x.kind, .int .i64 x.links, .int .i64 nl, .int .u64 x.aP, .bool x.closed, .slice a nl c, .map mv] 112)
    refine bR hK (iK.out _ KD) fun hS=> ?_
    clear hK K
    generalize (w4.alloc (.cells #[.int .i64 k, .int .i64 x.kind, .int .i64 x.links, .int .i64 nl, .int .u64 x.aP, .bool x.closed, .slice a nl c, .map mv] 112))=w5 at*
    refine bK 20 fun K hK=> ?_
    go_simp
    obtain⟨w6,TY,hM6,Xz⟩:=HST.out w5 (ptr w4.heap.size) KD
    rw[TY]
    go_simp
    refine j_ hK ?_
    clear hS hK K
    have ML:=Lib.hid hM6
    have F3:=Lib.hid Xz
    have HB45:=Lib.hid Yg
    have HCI:=Lib.hid hci
    have hs6:=iC Xz
    clear hM6 Xz TY hci Yg
    go_wp2_with fail
    have hs4:=Ro.size
    have hnew:∀b,b<w3.heap.size→b≠w.heap.size→w6.heap[b]? =w3.heap[b]? :=fun b hb hn=>(bX F3.out b (by omega) hn).trans (KD.block b hb)
    have MN:eG aW w6 mb (w.heap.size+2) (T.map fun q=>(q.1,ptr (ib q.1))) _ cnt1:=HR1.out.kept (hnew mb Yf.1 (by omega)) (hnew _ Yf.2.1 (by omega))
    go_roundw
    case rel=>
     have hi9:iq D w6 k w4.heap.size (if x.kind=2 then n else w4.heap.size+1) x:=by
      refine⟨⟨a,c,(bX F3.out _ (by omega) (by omega)).trans HCI.out,HCAP.out,lS.out.move (by omega) fun b hb hbw=>⟨hb,hnew b hbw (by have:=HH.out.mh b hb;omega)⟩⟩,fun hk=> ?_⟩
      obtain⟨k1,k2,k3⟩:=Xy.out hk
      rw[if_pos hk]
      have k2':w3.heap.size≤n:=k2
      exact(k1.kept (HB45.out.block n k3)).kept (bX F3.out n (by omega) (by omega))
     have hT9:=Rb.out.addD (i:=w4.heap.size) (n:=if x.kind=2 then n else w4.heap.size+1) (k:=k) (x:=x) (w':=w6) hs4 (by
      by_cases hk:x.kind=2
      ·rw[if_pos hk];exact(Xy.out hk).2.1
      ·rw[if_neg hk];omega) (by
      by_cases hk:x.kind=2
      ·rw[if_pos hk];have:=(Xy.out hk).2.2;omega
      ·rw[if_neg hk];omega) (by omega) (fun hk=>by
      rw[if_pos hk]
      have:=(Xy.out hk).2.2
      omega) (by rw[vI,if_pos uJ.out]) ML.out (by omega) hnew hi9
     rw[Gv HT.out.sorted HY.out uJ.out]at hT9
     refine⟨_,cnt1,_,_,_,MN,hT9,?_,?_⟩
     ·intro b hb
      by_cases h1:b=w4.heap.size
      ·omega
      ·simp only[if_neg h1]at hb
       by_cases h2:b=(if x.kind=2 then n else w4.heap.size+1)∧x.kind=2
       ·have h3:=Xy.out h2.2
        rw[if_pos h2.2]at h2
        have h4:w3.heap.size≤n:=h3.2.1
        omega
       ·rw[if_neg h2]at hb
        exact CK.out b hb
     ·refine HB3.out.trans ⟨?_,?_,?_,by omega,fun b hb=>hnew b (by have:=HB3.out.size;omega) (by omega)⟩
      ·exact(fT F3.out).os.trans KD.os
      ·exact(fT F3.out).tape.trans KD.tape
      ·exact(fT F3.out).output.trans KD.output
    case measure=>
     rw[MN.measure,HR.out.measure]
     exact xJ.out
end
section
variable {g:Nat→Own} {D:Nat→Prop} {p mb:Nat} {ib nb:Int→Nat} {T:aA}
end
section
variable {g:Nat→Own} {D:Nat→Prop} {p mb:Nat} {ib nb:Int→Nat} {T:aA}
theorem jy.other {B x:Nat} {w w':World} {v v':Value} {bs:List UInt8} (h:jy B w x v bs v' w') {b:Nat} (hb:b<w.heap.size) (hx:b≠x) (hv:v.ownBlock≠some b):w'.heap[b]? =w.heap[b]? ∧v'.ownBlock≠some b:=
 ⟨h.2.1.block b hb fun hf=>hf.elim hx hv,fun he=>by
  rcases h.2.2 b he with h1|h1
  ·exact hv h1
  ·omega⟩
theorem EB (w:World) (l:List UInt8) (hl:l.length≤1000):∃cap w1,(convert 9 23 (.string (strOf l))).run Tryz.prog w= .ok (.slice (some ⟨w.heap.size,0,none⟩) l.length cap) w1∧Below w.heap.size w w1∧w.heap.size<w1.heap.size∧l.length≤cap∧ah (fun b=>b=w.heap.size) w1 (some ⟨w.heap.size,0,none⟩) l.length (l.map bv):=by
 have h:=Lib.run_convert_string_bytes (P:=Tryz.prog) w 9 23 5 (strOf l) Tryz.underlying9 Tryz.underlying23 Tryz.underlying5
 rw[iF]at h
 refine⟨_,_,h,⟨rfl,rfl,rfl,by rw[Lib.bytesWorld_size];omega,fun k hk=>Lib.bytesWorld_at_old w _ _ k hk⟩,by rw[Lib.bytesWorld_size];omega,grownCap_ge _ _ _ _,⟨by simp,by unfold maxLen;omega,fun h0=>⟨w.heap.size,0,rfl,rfl,by rw[Lib.bytesWorld_size];omega,fun i hi=> ?_⟩⟩⟩
 rw[Nat.zero_add,Lib.bytesWorld_cell w _ _ i (by rw[iF];exact hi)]
 have e1:(strOf l).data.toList=l:=rfl
 rw[e1,List.getElem?_map,List.getElem?_eq_getElem hi,List.getD_eq_getElem?_getD,List.getElem?_eq_getElem hi]
 rfl
structure Yh (w:World) (D:Nat→Prop) (p mb:Nat) (ib nb:Nat) (k:Int) (x:bq) (T':List (Int×Value)) (a:Option Addr) (c:Nat):Prop where
 c0:w.cell? ⟨ib,0,none⟩=some (.int .i64 k)
 c1:w.cell? ⟨ib,1,none⟩=some (.int .i64 x.kind)
 c2:w.cell? ⟨ib,2,none⟩=some (.int .i64 x.links)
 c3:w.cell? ⟨ib,3,none⟩=some (.int .i64 x.b.length)
 c4:w.cell? ⟨ib,4,none⟩=some (.int .u64 x.aP)
 c5:w.cell? ⟨ib,5,none⟩=some (.bool x.closed)
 c6:w.cell? ⟨ib,6,none⟩=some (.slice a x.b.length c)
 c7:w.cell? ⟨ib,7,none⟩=some (dU x nb)
 row:ah D w a x.b.length (x.b.map bv)
 head:w.cell? ⟨p,0,none⟩=some (.map (some mb))
 map:MapAt aW w mb T'
 names:x.kind=2→MapAt fM w nb (dV x)
theorem GV {w:World} (h:aH g D w p mb ib nb T) {k:Int} {x:bq} (hx:aj k T=some x):∃a c,x.b.length≤c∧∀w',Below w.heap.size w w'→Yh w' D p mb (ib k) (nb k) k x (T.map fun q=>(q.1,ptr (ib q.1))) a c:=by
 obtain⟨⟨a,c,hblk,hcap,hrow⟩,_⟩:=h.item k x hx
 have hiw:=(Array.getElem?_eq_some_iff.1 hblk).1
 refine⟨a,c,hcap.1,fun w' hb=> ?_⟩
 have h':=h.below hb (Nat.le_refl _)
 obtain⟨c0,c1,c2,c3,c4,c5,c7,_⟩:=(h'.item k x hx).cell
 refine⟨c0,c1,c2,c3,c4,c5,?_,c7,hrow.below hb (Nat.le_refl _),h'.cell.1,h'.map,fun hk=>(h'.item k x hx).names hk⟩
 rw[hb.cell (p:=⟨ib k,6,none⟩) hiw]
 simp only[World.cell?,hblk]
 rfl
set_option maxRecDepth 100000 in
set_option maxHeartbeats 8000000 in
theorem EC (w:World) (h:aH g D w p mb ib nb T) (hT:OkW T) (hf:∀k x,aj k T=some x→x.names.length≤65535):Calls Tryz.prog 19 #[ptr p] w (ou w (bZ T)):=by
 have KE:=Lib.hid h
 have HT:=Lib.hid hT
 have U0:=Lib.hid hf
 have hlen:=hT.len
 obtain⟨N,hN⟩:∃N,N=T.length:=⟨_,rfl⟩
 have pJ:=Lib.hid hN
 rw[←hN]at hlen
 clear h hT hN hf
 go_enter Tryz.func19,Tryz.ntmps19
 go_wp2_with fail
 (with_reducible refine(oz w).mono ?_)
 rintro e w1 ⟨rfl,hW1,hb1⟩
 have HW1:=Lib.hid hW1
 have HB1:=Lib.hid hb1
 have h1:=KE.out.below hb1 (Nat.le_refl _)
 have hs1:=hb1.size
 obtain⟨hc0,hpw,hmw⟩:=h1.cell
 have vR:=Lib.hid h1.map
 have pK:=Lib.hid (lu hW1 (N:Int) (by omega) (by omega) (by simp))
 clear h1 hW1 hb1
 go_wp2_with (at_len;refine jW aW rfl _ 104 107 rfl Tryz.underlying104 rfl vR.out ?_;rw[List.length_map,←pJ.out])
 (with_reducible refine pK.out.mono ?_)
 rintro e w2 ⟨rfl,v2,hm2⟩
 have HW2:=Lib.hid hm2.1
 have HB2:=Lib.hid (HB1.out.trans (hm2.low HW1.out))
 have XA:=Lib.hid (CP w2 (KE.out.below HB2.out (Nat.le_refl _)) (by rw[←pJ.out];omega))
 clear hm2 pK hc0 hpw hmw vR HB1
 go_wp2_with fail
 (with_reducible refine XA.out.mono ?_)
 rintro e w3 ⟨a3,c3,rfl,hc3,hr3,hb3⟩
 have hil:(iW T).length=N:=by unfold iW;rw[List.length_map,pJ.out]
 rw[hil]at hc3 hr3⊢
 have HW3:=Lib.hid (HW2.out.below hb3)
 have HB3:=Lib.hid (HB2.out.trans (hb3.mono HB2.out.size))
 have HR3:=Lib.hid hr3
 have T9:Hid (∀b,w2.heap.size≤b→b≠w.heap.size∧v2.ownBlock≠some b):=fun b hb=>⟨by have:=HW2.out.lt;omega,fun he=>by have:=kJ HW2.out.own b he;omega⟩
 clear hb3 hr3 XA HW2
 go_wp2_with fail
 go_loopw [22] (fun iv wr=>∃(i:Nat) (v':Value),i≤N∧iv= .int .i64 i∧jy w.heap.size w3 w.heap.size v2 (dR (N:Int) 2++(T.take i).flatMap fun q=>iV q.1 q.2) v' wr) (fun iv _=>N-(intOf iv).toNat)
 case atStart=>exact⟨0,v2,by omega,rfl,by simpa using jy.refl HW3.out⟩
 case round=>
  obtain⟨i,v',hi,rfl,hm⟩:=hrel
  have HM:=Lib.hid hm
  have xK:=Lib.hid (HB3.out.trans (hm.low HW3.out))
  clear hm
  by_cases hin:i<N
  ·have hd1:decide ((i:Int)<(N:Int))=true:=by simpa using hin
   obtain⟨e,he⟩:∃e,T[i]? =some e:=⟨_,List.getElem?_eq_getElem (by have:=pJ.out;omega)⟩
   obtain⟨k,x⟩:=e
   have hmem:(k,x)∈T:=List.mem_of_getElem? he
   have hx:aj k T=some x:=aI bH HT.out.sorted hmem
   obtain⟨ab,cb,hcb,hF⟩:=GV KE.out hx
   have O1:=Lib.hid (HT.out.each k x hx)
   have qL:=HT.out.ids k x hx
   have hok:aW.ok k:=qC qL.1 (by omega)
   have HG:Hid (aj k (T.map fun q=>(q.1,ptr (ib q.1)))=some (ptr (ib k))):=by rw[dN,hx];rfl
   obtain⟨b3,o3,rfl,hS3,hb3w,hcc⟩:=HR3.out.at_ (by omega)
   have Yi:=T9.out b3 hS3.1
   have ck:wr.cell? ⟨b3,o3+i,none⟩=some (.int .i64 k):=by
    rw[World.cell?_of_block (w:=w3) (w':=wr) (a:=⟨b3,o3+i,none⟩) (HM.out.other hb3w Yi.1 Yi.2).1,hcc i hin]
    unfold iW
    rw[List.getElem?_map,List.getElem?_map,he]
    rfl
   have FR:=hF wr xK.out
   have HF:=Lib.hid hF
   have HX:=Lib.hid hx
   have HE:=Lib.hid he
   have c0:=FR.c0
   have c1:=FR.c1
   have c2:=FR.c2
   have c3':=FR.c3
   have c4:=FR.c4
   have c5:=FR.c5
   have p0:=FR.head
   have lQ:=Lib.hid FR.map
   have hen:=Gy k x O1.out qL.1 qL.2 wr
   unfold mI at hen
   have GX:=Lib.hid hen
   have hi0:(0:Int)≤(i:Int):=by omega
   have hiN:(i:Int)<(N:Int):=by omega
   clear hx he hmem hF FR hen hcc
   go_wp2_with (first|(at_lookup;refine bW aW rfl _ _ 104 107 rfl Tryz.underlying104 (Tryz.cK _) rfl lQ.out k rfl hok ?_;rw[HG.out]))
   (with_reducible refine GX.out.mono ?_)
   rintro e w4 ⟨ae,ne,ce,rfl,hce,hre,hbe⟩
   have hne:ne=16:=by have h9:=hre.length;rw[List.length_map,jD]at h9;omega
   subst hne
   obtain⟨NU,Rp⟩:∃NU,NU=(dR (N:Int) 2++(T.take i).flatMap fun q=>iV q.1 q.2):=⟨_,rfl⟩
   rw[←Rp]at HM
   have hl0:NU.length≤84200000:=by
    have h9:=pU HT.out U0.out (T.take i) fun q hq=>List.mem_of_mem_take hq
    rw[List.length_take]at h9
    rw[Rp,List.length_append,bO]
    omega
   have HBS:=Lib.hid Rp
   have vS:=HM.out.1.below hbe
   have qZ:=Lib.hid vS
   have kG:=Lib.hid (xK.out.trans (hbe.mono xK.out.size))
   have Rq:=HM.out.1.lt
   have Rt:=Lib.hid (uH vS ae 16 ce (oC k x) hre (fun b hb=>⟨by omega,fun he=>by have:=kJ HM.out.1.own b he;omega⟩) hce (by omega) (by omega))
   have qD:=Lib.hid (HM.out.below hbe)
   clear Rp vS hre hbe hce GX ck c0 c1 c2 c3' c4 c5 p0 lQ
   go_wp2_with fail
   (with_reducible refine Rt.out.mono ?_)
   rintro e w5 ⟨rfl,v5,Gz⟩
   have DU:=Lib.hid (qD.out.trans Gz)
   have rW:=Lib.hid (kG.out.trans ((Gz.low qZ.out).mono (Nat.le_refl _)))
   have F5:=HF.out w5 rW.out
   have c6:=F5.c6
   have hbl:=O1.out.size
   have Jg:=Lib.hid KE.out.mh
   have Va:=Lib.hid (uH Gz.1 ab x.b.length cb x.b F5.row (fun b hb=>⟨by have:=Jg.out b hb;omega,fun he=>by have:=bY Gz.1.own b he;have:=Jg.out b hb;omega⟩) hcb (by simp only[List.length_append,jD,bO];omega) (by omega))
   clear Gz F5 Rt qZ kG qD
   go_wp2_with fail
   (with_reducible refine Va.out.mono ?_)
   rintro e w6 ⟨rfl,v6,Nw⟩
   have DR:=Lib.hid (rW.out.trans (Nw.low DU.out.1))
   have ML:=Lib.hid (DU.out.trans Nw)
   clear Nw Va c6 DU rW
   have Ky:=U0.out _ _ HX.out
   have F6:=HF.out w6 DR.out
   have c7:=F6.c7
   obtain⟨L,hL⟩:∃L,L=x.names.length:=⟨_,rfl⟩
   have za:=Lib.hid hL
   have hlb:(NU++(dR ((16:Nat):Int) 2++oC k x)++(dR (x.b.length:Int) 2++x.b)).length≤84300000:=by simp only[List.length_append,jD,bO];omega
   have T_:=Lib.hid (lu ML.out.1 (L:Int) (by omega) (by omega) (by omega))
   by_cases hk2:x.kind=2
   ·have e2:dU x (nb k)= .map (some (nb k)):=if_pos hk2
    rw[e2]at c7
    have HN:=Lib.hid (F6.names hk2)
    have BI:=Lib.hid hk2
    clear F6 hk2 e2 hL
    go_wp2_with (at_len;refine jW fM rfl _ 110 3 rfl Tryz.underlying110 rfl HN.out ?_;rw[dV,List.length_map,←za.out])
    (with_reducible refine T_.out.mono ?_)
    rintro e w7 ⟨rfl,v7,Ny⟩
    have AJ:=DR.out.trans (Ny.low ML.out.1)
    have wS:=Lib.hid AJ
    have MO:=Lib.hid (ML.out.trans Ny)
    have e2:dU x (nb k)= .map (some (nb k)):=if_pos BI.out
    have c7:=(HF.out w7 AJ).c7
    have hkk:=Tryz.Jf (some (nb k)) w7
    have hso:=sorted_at k x w7 (KE.out.below AJ (Nat.le_refl _)) HT.out HX.out (U0.out _ _ HX.out)
    rw[e2]at c7 hso
    have hll:(x.names.map (·.1)).length=L:=by rw[List.length_map,za.out]
    have U2:=Lib.hid hso
    have Vb:=wall w7 (.cells #[.map (some (nb k))] 110)
    clear Ny AJ e2 hso T_ ML DR HN
    go_wp2_with (go_at_call 63;refine hkk.mono ?_;rintro e w' ⟨rfl,rfl⟩)
    (with_reducible refine U2.out.mono ?_)
    rintro e w8 ⟨a8,c8,rfl,hc8,BM,Jh⟩
    rw[hll]at BM hc8⊢
    have Vd:Below w7.heap.size w7 w8:=Vb.trans (Jh.mono Vb.size)
    have vK:=Lib.hid (wS.out.trans (Vd.mono wS.out.size))
    have Ji:=Lib.hid (MO.out.below Vd)
    have Yj:=Lib.hid BM
    have MP:Hid (∀b,w7.heap.size<b→b≠w.heap.size∧v7.ownBlock≠some b):=fun b hb=>⟨by have:=MO.out.1.lt;omega,fun he=>by have:=kJ MO.out.1.own b he;omega⟩
    have hsz8:(w7.alloc (.cells #[.map (some (nb k))] 110)).heap.size=w7.heap.size+1:=by simp
    clear Vd Jh Vb hkk BM U2 wS c7
    go_wp2_with fail
    go_loopw [63] (fun jv wr2=>∃(j:Nat) (vj:Value),j≤L∧jv= .int .i64 j∧jy w.heap.size w8 w.heap.size v7 (NU++(dR ((16:Nat):Int) 2++oC k x)++(dR (x.b.length:Int) 2++x.b)++dR (L:Int) 2++(x.names.take j).flatMap Ez) vj wr2) (fun jv _=>L-(intOf jv).toNat)
    case atStart=>exact⟨0,v7,by omega,rfl,by simpa using jy.refl Ji.out.1⟩
    case round=>
     obtain⟨j,vj,hj,rfl,hmj⟩:=hrel
     have XB:=Lib.hid hmj
     have HBJ:=Lib.hid (vK.out.trans (hmj.low Ji.out.1))
     clear hmj
     by_cases hjL:j<L
     ·have hd2:decide ((j:Int)<(L:Int))=true:=by simpa using hjL
      obtain⟨en,hen⟩:∃en,x.names[j]? =some en:=⟨_,List.getElem?_eq_getElem (by have:=za.out;omega)⟩
      obtain⟨nm,id⟩:=en
      have Jj:(nm,id)∈x.names:=List.mem_of_getElem? hen
      have hgn:=aI qK O1.out.sorted Jj
      have hg16:nm.length≤16:=kg (O1.out.good _ Jj)
      have Yk:=HT.out.leads k x HX.out _ Jj
      obtain⟨y,hy⟩:=Option.isSome_iff_exists.1 Yk.1
      have hid2:0≤id∧id≤65535:=HT.out.ids _ _ hy
      obtain⟨b8,o8,s,rfl,hS8,hb8w,hs,hsl,Yl⟩:=Yj.out.cell j hjL
      rw[List.getElem?_map,List.getElem?_map,hen]at hs
      obtain rfl:strOf nm=s:=by simpa using hs
      have ho8:=MP.out b8 (by omega)
      have cn:wr.cell? ⟨b8,o8+j,none⟩=some (.string (strOf nm)):=(World.cell?_of_block (w:=w8) (w':=wr) (a:=⟨b8,o8+j,none⟩) (XB.out.other hb8w ho8.1 ho8.2).1).trans Yl
      obtain⟨cn9,wc,hrun,hbc,hltc,Ua,hcells⟩:=EB wr nm (by omega)
      have hrow:ah (fun b=>b=wr.heap.size) wc (some ⟨wr.heap.size,0,none⟩) nm.length (nm.map bv):=hcells
      have hWC:=XB.out.1.below hbc
      have hxw:=XB.out.1.lt
      have hlj:(NU++(dR ((16:Nat):Int) 2++oC k x)++(dR (x.b.length:Int) 2++x.b)++dR (L:Int) 2++(x.names.take j).flatMap Ez).length≤85700000:=by
       have h9:=yj (x.names.take j) fun e he=>kg (O1.out.good e (List.mem_of_mem_take he))
       rw[List.length_take]at h9
       simp only[List.length_append,jD,bO]at hlb⊢
       omega
      have Xw:=Lib.hid (uH hWC (some ⟨wr.heap.size,0,none⟩) nm.length cn9 nm hrow (fun b hb=>⟨by rw[hb];omega,fun he=>by have:=kJ XB.out.1.own b he;omega⟩) Ua (by omega) (by omega))
      have MK:=Lib.hid (XB.out.below hbc)
      have HBC:=Lib.hid (HBJ.out.trans (hbc.mono HBJ.out.size))
      have MI:=Lib.hid hgn
      have HEN2:=Lib.hid hen
      have hj0:(0:Int)≤(j:Int):=by omega
      have hL4:L≤65535:=by have:=za.out;omega
      have ew:IntKind.i64.wrap ((j:Int)+1)=(j:Int)+1:=IntWalk.i64_in _ (by omega)
      have hjL':(j:Int)<(L:Int):=by omega
      clear hen Jj hgn Yk hy hs hsl Yl hrow hWC hbc hcells
      go_wp2_with fail
      (with_reducible refine Xw.out.mono ?_)
      rintro e Ru ⟨rfl,v10,Ve⟩
      have Ym:=Lib.hid (MK.out.trans Ve)
      have GY:=Lib.hid (HBC.out.trans (Ve.low MK.out.1))
      have F10:=HF.out Ru GY.out
      have c7:=F10.c7
      have e2:dU x (nb k)= .map (some (nb k)):=if_pos BI.out
      rw[e2]at c7
      have HN10:=Lib.hid (F10.names BI.out)
      have HG10:Hid (aj nm (dV x)=some (.int .i64 id)):=by rw[jM,MI.out];rfl
      have hnml:nm.length≤maxLen:=by unfold maxLen;omega
      have Vf:=Lib.hid (lu Ym.out.1 id hid2.1 (by omega) (by simp only[List.length_append,jD,bO]at hlj⊢;omega))
      clear Ve F10 e2 hrun
      go_wp2_with (at_lookup;refine bW fM rfl _ _ 110 3 rfl Tryz.underlying110 (Tryz.jh _) rfl HN10.out nm rfl hnml ?_;rw[HG10.out])
      (with_reducible refine Vf.out.mono ?_)
      rintro e w11 ⟨rfl,v11,Yn⟩
      have Vg:=Ym.out.trans Yn
      have hby:NU++(dR ((16:Nat):Int) 2++oC k x)++(dR (x.b.length:Int) 2++x.b)++dR (L:Int) 2++(x.names.take j).flatMap Ez++(dR (nm.length:Int) 2++nm)++dR id 2=NU++(dR ((16:Nat):Int) 2++oC k x)++(dR (x.b.length:Int) 2++x.b)++dR (L:Int) 2++(x.names.take (j+1)).flatMap Ez:=by
       rw[List.take_add_one,HEN2.out,List.flatMap_append]
       simp[Ez,lF,List.append_assoc]
      rw[hby]at Vg
      have HM11:=Lib.hid Vg
      clear Vg hby Yn
      go_wp2_with fail
      go_roundw
      case rel=>exact⟨j+1,v11,by omega,by go_num,HM11.out⟩
      case measure=>
       simp only[intOf]
       omega
     ·have hd2:decide ((j:Int)<(L:Int))=false:=by simpa using hjL
      have hfin:NU++(dR ((16:Nat):Int) 2++oC k x)++(dR (x.b.length:Int) 2++x.b)++dR (L:Int) 2++(x.names.take j).flatMap Ez=(dR (N:Int) 2++(T.take (i+1)).flatMap fun q=>iV q.1 q.2):=by
       rw[List.take_of_length_le (show x.names.length≤j by have:=za.out;omega),HBS.out,List.take_add_one,HE.out,List.flatMap_append,za.out]
       simp[iV,lF,jD,List.append_assoc]
      have Vh:=Ji.out.trans XB.out
      rw[hfin]at Vh
      have Ub:=Lib.hid Vh
      clear Vh hfin
      go_wp2_with fail
      go_roundw
      case rel=>exact⟨i+1,vj,by omega,by go_num,Ub.out⟩
      case measure=>simp[intOf];omega
   ·have e2:dU x (nb k)= .map none:=if_neg hk2
    have hnil:x.names=[]:=O1.out.file (O1.out.kind.resolve_right hk2)
    obtain rfl:L=0:=by rw[hL,hnil];rfl
    rw[e2]at c7
    have Yo:Hid (Calls Tryz.prog 59 #[ptr w.heap.size, .int .i64 0] w6 (nY w.heap.size w6 w.heap.size v6 (NU++(dR ((16:Nat):Int) 2++oC k x)++(dR (x.b.length:Int) 2++x.b)++dR ((0:Nat):Int) 2))):=T_.out
    clear F6 hk2 hL
    go_wp2_with fail
    (with_reducible refine Yo.out.mono ?_)
    rintro e w7 ⟨rfl,v7,Ny⟩
    have AJ:=DR.out.trans (Ny.low ML.out.1)
    have wS:=Lib.hid AJ
    have MO:=Lib.hid (ML.out.trans Ny)
    have c7:=(HF.out w7 AJ).c7
    have hkk:=Tryz.Jf none w7
    have hso:=sorted_at k x w7 (KE.out.below AJ (Nat.le_refl _)) HT.out HX.out (U0.out _ _ HX.out)
    rw[e2]at c7 hso
    rw[hnil]at hso
    have U2:=Lib.hid hso
    have HNIL:=Lib.hid hnil
    have Vb:=wall w7 (.cells #[.map none] 110)
    clear Ny AJ e2 hso T_ Yo ML DR hnil
    go_wp2_with (go_at_call 63;refine hkk.mono ?_;rintro e w' ⟨rfl,rfl⟩)
    (with_reducible refine U2.out.mono ?_)
    rintro e w8 ⟨a8,c8,rfl,hc8,BM,Jh⟩
    have Ji:=Lib.hid (MO.out.below (Vb.trans (Jh.mono Vb.size)))
    simp only[List.map_nil,List.length_nil]at hc8⊢
    clear Jh Vb hkk BM U2 wS c7
    have hfin:NU++(dR ((16:Nat):Int) 2++oC k x)++(dR (x.b.length:Int) 2++x.b)++dR ((0:Nat):Int) 2=(dR (N:Int) 2++(T.take (i+1)).flatMap fun q=>iV q.1 q.2):=by
     rw[HBS.out,List.take_add_one,HE.out,List.flatMap_append]
     simp[iV,lF,jD,HNIL.out,List.append_assoc]
    have Vh:=Ji.out
    rw[hfin]at Vh
    have Ub:=Lib.hid Vh
    clear Vh hfin Ji MO
    go_wp2_with fail
    go_loopw [63] (fun jv wr2=>jv= .int .i64 0∧wr2=w8) (fun jv _=>0)
    case atStart=>exact⟨rfl,rfl⟩
    case round=>
     obtain⟨rfl,rfl⟩:=hrel
     go_wp2_with fail
     go_roundw
     case rel=>exact⟨i+1,v7,by omega,by go_num,Ub.out⟩
     case measure=>simp[intOf];omega
  ·have hd1:decide ((i:Int)<(N:Int))=false:=by simpa using hin
   have hTi:(dR (N:Int) 2++(T.take i).flatMap fun q=>iV q.1 q.2)=bZ T:=by
    rw[List.take_of_length_le (by have:=pJ.out;omega),pJ.out]
    rfl
   have hlT:(bZ T).length≤100000000:=by
    have:=pU HT.out U0.out T fun q hq=>hq
    unfold bZ
    rw[List.length_append,bO]
    have:=pJ.out
    omega
   have HD:=Lib.hid (Eo HM.out.1 (by rw[hTi];exact hlT))
   rw[hTi]at HD
   go_wp2_with fail
   (with_reducible refine HD.out.mono ?_)
   rintro e w9 ⟨a9,n9,c9,rfl,QA,Q9,yg⟩
   have U3:=Lib.hid Q9
   have AB:=Lib.hid (xK.out.trans (yg.mono xK.out.size))
   have hsr:=xK.out.size
   clear Q9 yg
   go_wp2_with fail
   go_ret
   exact⟨a9,n9,c9,rfl,QA,U3.out.mono fun b hb=>⟨by omega,hb.2⟩,AB.out⟩
theorem Rv (w:World) (h:aH g D w p mb ib nb T) (hT:eH T):Calls Tryz.prog 19 #[ptr p] w (ou w (bZ T)):=
 EC w h hT fun k x hx=>by have:=hT.few hx;omega
end
section
variable {W w:World} {o:Mark} {i p:Nat} {T:aA}
theorem KF {S:Nat→Prop} (h:fH o i w p T) (hM:Marks W o w) (hi:i≠0) (hT:eH T) (a:Option Addr) (n c:Nat) (ls:List Nm) (hS:bB S w a n (ls.map strOf)) (hc:n≤c) (pO:n≤1000000):
  Calls Tryz.prog 33 #[ptr p, .slice a n c] w (jI o i w p (bJ T ls).2 (.int .i64 (bJ T ls).1)):=by
 obtain⟨g,D,mb,ib,nb,hA,hg,hD⟩:=h
 exact(Kq a n c ls w hA hT hS hc pO).mono fun e w' ht=>jI.of hM hi hg hD ht
theorem Rw (h:fH o i w p T) (hM:Marks W o w) (hi:i≠0) (id aP:Int) (hid:(Lit.int .i64 id).wf=true) (ht0:0≤aP) (ht1:aP≤18446744073709551615):
  Calls Tryz.prog 31 #[ptr p, .int .i64 id, .int .u64 aP] w (jI o i w p (fC T id aP).2 (.int .i64 (fC T id aP).1)):=by
 obtain⟨g,D,mb,ib,nb,hA,hg,hD⟩:=h
 exact(QY id aP w hA hid ht0 ht1).mono fun e w' ht=>jI.of hM hi hg hD ht
theorem Rx (h:fH o i w p T) (hM:Marks W o w) (hi:i≠0) (hT:OkW T) (id:Int) (hid:(Lit.int .i64 id).wf=true):
  Calls Tryz.prog 111 #[ptr p, .int .i64 id] w (jI o i w p (cu T id).2 (.int .i64 (cu T id).1)):=by
 obtain⟨g,D,mb,ib,nb,hA,hg,hD⟩:=h
 exact(drop_at id hT w hA hid).mono fun e w' ht=>jI.of hM hi hg hD ht
theorem ED (h:fH o i w p T) (hT:OkW T) (hf:∀k x,aj k T=some x→x.names.length≤65535):Calls Tryz.prog 19 #[ptr p] w (ou w (bZ T)):=by
 obtain⟨g,D,mb,ib,nb,hA,hg,hD⟩:=h
 exact EC w hA hT hf
theorem Ry (h:fH o i w p T) (hT:eH T):Calls Tryz.prog 19 #[ptr p] w (ou w (bZ T)):=by
 obtain⟨g,D,mb,ib,nb,hA,hg,hD⟩:=h
 exact Rv w hA hT
theorem Vi (h:fH o i w p T) (hT:OkW T):Calls Tryz.prog 60 #[ptr p] w (pR w (iW T)):=by
 obtain⟨g,D,mb,ib,nb,hA,hg,hD⟩:=h
 exact CP w hA (by have:=hT.len;omega)
open Classical in
theorem jd {W w w':World} {o:Mark} (hM:Marks W o w) (j:Nat) (G:Nat→Prop) (hG:∀b,G b→w.heap.size≤b∧b<w'.heap.size) (hb:Below w.heap.size w w'):∃o',Step o (fun i=>i=j) w o' w'∧(∀b,G b→o' b=j)∧(∀b,¬G b→o' b=o b):=by
 obtain⟨o',ho⟩:∃o':Mark,∀b,o' b=if G b then j else o b:=⟨_,fun _=>rfl⟩
 refine⟨o',⟨fun b hb'=> ?_,fun b hb' hn=> ?_,(Keeps.below hb).mono fun x hx hx'=>absurd hx (by omega)⟩,fun b hb'=>by rw[ho,if_pos hb'],fun b hb'=>by rw[ho,if_neg hb']⟩
 ·rw[ho,if_neg (fun h=>by have:=hG b h;omega)]
 ·by_cases h:G b
  ·rw[ho,if_pos h];exact⟨rfl,(hG b h).2⟩
  ·rw[ho,if_neg h]at hn;have:=(hM.new b hn).2;omega
theorem Rz (h:fH o i w p T) (hM:Marks W o w) (hT:OkW T) (j:Nat):
  Calls Tryz.prog 139 #[ptr p] w fun e w'=>∃q o',e= .returned (ptr q)∧Step o (fun i=>i=j) w o' w'∧fH o' j w' q T∧Below w.heap.size w w':=by
 obtain⟨g,D,mb,ib,nb,hA,hg,hD⟩:=h
 refine(Rm w hA hT).mono ?_
 rintro e w' ⟨q,g',mq,MJ,nb',rfl,hA',hg',hb⟩
 obtain⟨o',hs,h1,h2⟩:=jd hM j (fun b=>g' b≠ .none) (fun b hb'=>⟨hg' b hb',hA'.low b hb'⟩) hb
 refine⟨q,o',rfl,hs,⟨g',D,mq,MJ,nb',hA',fun b hb'=>h1 b hb',fun b hb'=> ?_⟩,hb⟩
 rw[hs.old b (hA.mh b hb')]
 exact hD b hb'
end
theorem GZ (o:Mark):∀(n b:Nat),b<n→o b≤((List.range n).map o).sum
 |n+1,b,h=>by
  rw[List.range_succ,List.map_append,List.sum_append]
  simp only[List.map_cons,List.map_nil,List.sum_cons,List.sum_nil]
  by_cases hb:b=n
  ·rw[hb];omega
  ·have:=GZ o n b (by omega);omega
theorem ze {W w:World} {o:Mark} (hM:Marks W o w):∃j,j≠0∧∀b,o b≠j:=by
 refine⟨((List.range w.heap.size).map o).sum+1,by omega,fun b hb=> ?_⟩
 have h1:=(hM.new b (by omega)).2
 have:=GZ o w.heap.size b h1
 omega
def aQ (T:aA) (k:Nat):aA:=((iW T).take k).foldl (fun S id=>(cu S id).2) T
theorem iR (T:aA):aQ T 0=T:=by unfold aQ;rw[List.take_zero];rfl
theorem g_ {T:aA} {k:Nat} {id:Int} (h:(iW T)[k]? =some id):aQ T (k+1)=(cu (aQ T k) id).2:=by
 unfold aQ
 obtain⟨hk,e⟩:=List.getElem?_eq_some_iff.1 h
 rw[List.take_succ_eq_append_getElem hk,List.foldl_append,e]
 rfl
theorem ji {T:aA}:aQ T T.length=bf T:=by
 unfold aQ bf
 rw[List.take_of_length_le (by unfold iW;rw[List.length_map];omega)]
theorem OkW.aQ {T:aA} (h:OkW T):∀k,OkW (aQ T k)
 |0=>by rw[iR];exact h
 |k+1=>by
  cases hg:(iW T)[k]? with
  |some id=>rw[g_ hg];exact(h.aQ k).cu id
  |none=>
   have:Go.Proofs.YtjnhnlabpccgjaaGreat.aQ T (k+1)=Go.Proofs.YtjnhnlabpccgjaaGreat.aQ T k:=by
    have hl:=List.getElem?_eq_none_iff.1 hg
    unfold Go.Proofs.YtjnhnlabpccgjaaGreat.aQ
    rw[List.take_of_length_le hl,List.take_of_length_le (by omega)]
   rw[this];exact h.aQ k
theorem eH.aQ {T:aA} (h:eH T):∀k,eH (aQ T k)
 |0=>by rw[iR];exact h
 |k+1=>by
  cases hg:(iW T)[k]? with
  |some id=>rw[g_ hg];exact(h.aQ k).cu id
  |none=>
   have:Go.Proofs.YtjnhnlabpccgjaaGreat.aQ T (k+1)=Go.Proofs.YtjnhnlabpccgjaaGreat.aQ T k:=by
    have hl:=List.getElem?_eq_none_iff.1 hg
    unfold Go.Proofs.YtjnhnlabpccgjaaGreat.aQ
    rw[List.take_of_length_le hl,List.take_of_length_le (by omega)]
   rw[this];exact h.aQ k
theorem ig.aQ {T:aA} (h:ig T):∀k,ig (aQ T k)
 |0=>by rw[iR];exact h
 |k+1=>by
  cases hg:(iW T)[k]? with
  |some id=>rw[g_ hg];exact(h.aQ k).cu id
  |none=>
   have:Go.Proofs.YtjnhnlabpccgjaaGreat.aQ T (k+1)=Go.Proofs.YtjnhnlabpccgjaaGreat.aQ T k:=by
    have hl:=List.getElem?_eq_none_iff.1 hg
    unfold Go.Proofs.YtjnhnlabpccgjaaGreat.aQ
    rw[List.take_of_length_le hl,List.take_of_length_le (by omega)]
   rw[this];exact h.aQ k
theorem eH.bf {T:aA} (h:eH T):eH (bf T):=by rw[←ji];exact h.aQ _
theorem OkW.bf {T:aA} (h:OkW T):OkW (bf T):=by rw[←ji];exact h.aQ _
theorem ig.bf {T:aA} (h:ig T):ig (bf T):=by rw[←ji];exact h.aQ _
section
variable {W w:World} {o:Mark} {i p:Nat} {T:aA}
set_option maxRecDepth 100000 in
set_option maxHeartbeats 4000000 in
theorem Ba (h:fH o i w p T) (hM:Marks W o w) (hT:OkW T) (j:Nat) (hj:j≠0) (hf:∀b,o b≠j):
  Calls Tryz.prog 87 #[ptr p] w fun e w'=>∃q o',e= .returned (ptr q)∧Step o (fun i=>i=j) w o' w'∧fH o' j w' q (bf T)∧Below w.heap.size w w':=by
 have X4:=Lib.hid (Rz h hM hT j)
 have HM:=Lib.hid hM
 have HT:=Lib.hid hT
 have HJ:=Lib.hid hj
 have HF:=Lib.hid hf
 have Yp:=hT.len
 clear h hM hT hj hf
 go_enter Tryz.func87,Tryz.ntmps87
 go_wp2_with fail
 (with_reducible refine X4.out.mono ?_)
 rintro e w1 ⟨q,o1,rfl,hs1,hT1,hb1⟩
 have pK:=Lib.hid hs1
 have vR:=Lib.hid (HM.out.step (fun e=>HJ.out e.symm) hs1)
 have HT1:=Lib.hid hT1
 have XA:=Lib.hid (Vi hT1 HT.out)
 clear hs1 hT1 hb1
 go_wp2_with fail
 (with_reducible refine XA.out.mono ?_)
 rintro e w2 ⟨a,cap,rfl,hlc,hrow,hb2⟩
 have hll:(iW T).length=T.length:=by unfold iW;rw[List.length_map]
 rw[hll]at hlc hrow
 rw[hll]
 obtain⟨tl,htl⟩:∃tl,tl=T.length:=⟨_,rfl⟩
 rw[←htl]at Yp hlc hrow⊢
 have Bb:=Lib.hid htl
 have lS:=Lib.hid hrow
 have HS2:=Lib.hid (pK.out.then_ HM.out (fun e=>HJ.out e.symm) hb2)
 have HT2:=Lib.hid (HT1.out.grow hb2)
 clear hb2 hrow htl hll
 have HR2:=Lib.hid ((lS.out.Nt vR.out))
 clear lS
 go_wp2_with fail
 go_loopw [4,12] (fun _ iv wr=>∃(k:Nat) (o2:Mark),iv= .int .i64 k∧k≤tl∧Step o (fun i=>i=j) w o2 wr∧fH o2 j wr q (aQ T k)∧ah (Free o2 wr) wr a tl ((iW T).map (Value.int .i64))) (fun _ iv _=>tl-(intOf iv).toNat)
 case atStart=>
  exact⟨0,o1,rfl,Nat.zero_le _,HS2.out,by rw[iR];exact HT2.out,HR2.out⟩
 case round=>
  obtain⟨k,o2,rfl,hk,hs,Yq,Bc⟩:=hrel
  have HS:=Lib.hid hs
  have DV:=Lib.hid Yq
  have F4:=Lib.hid Bc
  clear hs Yq Bc
  by_cases hlt:k<tl
  ·have hd:decide ((k:Int)<(tl:Int))=true:=by simpa using hlt
   obtain⟨id,hid⟩:∃id,(iW T)[k]? =some id:=⟨(iW T)[k]'(by unfold iW;rw[List.length_map,←Bb.out];exact hlt),List.getElem?_eq_getElem _⟩
   obtain⟨b,off,rfl,hfb,hbw,hc⟩:=F4.out.at_ (by omega)
   have hck:=hc k hlt
   rw[List.getElem?_map,hid]at hck
   have hcell:wr.cell? ⟨b,off+k,none⟩=some (.int .i64 id):=hck
   have hwf:(Lit.int .i64 id).wf=true:=by
    have hm:=List.mem_of_getElem? hid
    unfold iW at hm
    obtain⟨q',hq',rfl⟩:=List.mem_map.1 hm
    have:=HT.out.ids q'.1 q'.2 (aI bH HT.out.sorted hq')
    simp[Lit.wf,IntKind.min,IntKind.max,IntKind.signed,IntKind.bits]
    omega
   have HDR:=Lib.hid (Rx DV.out (HM.out.step (fun e=>HJ.out e.symm) HS.out) HJ.out (HT.out.aQ k) id hwf)
   have i0:(0:Int)≤(k:Int):=by omega
   have i1:(k:Int)<(tl:Int):=by omega
   have RA:=Lib.hid hid
   clear hid hfb hbw hc hck hwf
   go_wp2_with fail
   (with_reducible refine HDR.out.mono ?_)
   rintro e w3 ⟨rfl,o3,hs3,TR⟩
   have xG:=Lib.hid (HS.out.trans hs3)
   have HT3:=Lib.hid TR
   have HR3:=Lib.hid (F4.out.free (fun e=>HJ.out e.symm) hs3)
   clear hs3 TR HDR
   go_wp2_with fail
   go_roundw
   case rel=>
    refine⟨k+1,o3,by go_num,by omega,xG.out,?_,HR3.out⟩
    rw[g_ RA.out]
    exact HT3.out
   case measure=>simp[intOf];omega
  ·have hd:decide ((k:Int)<(tl:Int))=false:=by simp;omega
   obtain rfl:tl=k:=by omega
   go_wp2_with fail
   go_ret
   have h9:=DV.out
   rw[Bb.out,ji]at h9
   refine⟨q,o2,rfl,HS.out,h9,?_⟩
   exact HS.out.keep.fD (Nat.le_refl _) fun x _ hx=>HF.out x hx
theorem sO (h:fH o i w p T) (hM:Marks W o w) (hT:OkW T):
  Calls Tryz.prog 87 #[ptr p] w fun e w'=>∃q,e= .returned (ptr q)∧fH o 0 w' q (bf T)∧Below w.heap.size w w':=by
 obtain⟨j,hj,hf⟩:=ze hM
 refine(Ba h hM hT j hj hf).mono ?_
 rintro e w' ⟨q,o',rfl,hs,hT',hb⟩
 refine⟨q,rfl,hT'.remark (fun b hb' he=> ?_) (fun b hb' he=> ?_),hb⟩
 ·by_cases hlt:b<w.heap.size
  ·rw[hs.old b hlt]at he;exact absurd he (hf b)
  ·exact Decidable.byContradiction fun h0=>by have:=(hM.new b h0).2;omega
 ·by_cases hlt:b<w.heap.size
  ·rw[hs.old b hlt]at he;exact he
  ·exact Decidable.byContradiction fun h0=>by have:=(hM.new b h0).2;omega
end
section
variable {W w:World} {o:Mark} {i s:Nat} {S:jc}
theorem iT.grow {K:aA→Prop} (h:iT K o i w s S) {w':World} (hM:Marks W o w) (hb:Below w.heap.size w w'):iT K o i w' s S:=
 h.step (I:=fun _=>False) (fun h=>h) (fun h=>h) (Step.grow hM hb)
theorem iT.lt {K:aA→Prop} (h:iT K o i w s S):s<w.heap.size:=by
 obtain⟨v,la,lc,vals,h1,h2,h3,h4,h5,h6,h7,h8⟩:=h.at_
 exact h3
theorem BO (hM:Marks W o w) (j:Nat) (hj:j≠0):Calls Tryz.prog 22 #[] w fun e w'=>∃s o',e= .returned (ptr s)∧Step o (fun k=>k=j) w o' w'∧jO o' j w' s kN∧Below w.heap.size w w':=by
 have HM:=Lib.hid hM
 clear hM
 go_enter Tryz.func22,Tryz.ntmps22
 go_wp2
 go_ret
 obtain⟨o',hs,h1,h2⟩:=jd HM.out j (fun b=>b=w.heap.size) (w':=w.alloc (.cells #[.slice none 0 0, .int .i64 1, .slice none 0 0] 80)) (fun b hb=>by subst hb;simp) (wall w _)
 refine⟨w.heap.size,o',rfl,hs,⟨.slice none 0 0,none,0,[],(MapKept.heap_alloc w _).1,h1 _ rfl,by simp,⟨rfl, .inl ⟨rfl,rfl⟩⟩,fun b hb=>by simp[Value.ownBlock]at hb,rfl,Nat.le_refl _,ah.nil _ _ _⟩,wall w _⟩
def Uc (l:List dX) (id v:Int):Prop:=
 (v= -1∧∀x∈l,x.id≠id)∨∃(k:Nat) (x:dX),v=k∧l[k]? =some x∧x.id=id∧∀x'∈l.take k,x'.id≠id
theorem KG (z:Int) (hv qv:Value) (id:Int) (vb:Nat) (w:World) (hc:w.cell? ⟨vb,0,none⟩=some (.int .i64 id)) (hvb:vb<w.heap.size):Calls Tryz.prog 144 #[.agg #[.int .i64 z,hv,qv],ptr vb] w fun e w'=>e= .returned (.bool (z==id))∧Below w.heap.size w w':=by
 have hc2:(w.alloc (.cells #[.int .i64 z,hv,qv] 84)).cell? ⟨vb,0,none⟩=some (.int .i64 id):=((wall w _).cell (p:=⟨vb,0,none⟩) hvb).trans hc
 go_enter Tryz.func144,Tryz.ntmps144
 go_wp2
 go_ret
 exact⟨rfl,wall w _⟩
theorem KH {a:Option Addr} {n c:Nat} {vals:List Value} {l:List dX} (id:Int) (vb:Nat) (hl:l.length=n) (hr:ah (fun b=>b<w.heap.size) w a (n*3) vals) (hO:vQ o w vals l) (hn:n≤1000) (hc:w.cell? ⟨vb,0,none⟩=some (.int .i64 id)) (hvb:vb<w.heap.size):
  Calls Tryz.prog 143 #[.slice a n c, .func (.func 144) #[] #[ptr vb]] w fun e w'=>∃v,e= .returned (.int .i64 v)∧Uc l id v∧Below w.heap.size w w':=by
 have HR:=Lib.hid hr
 have HO:=Lib.hid hO
 have HL:=Lib.hid hl
 clear hr hO hl
 go_enter Tryz.func143,Tryz.ntmps143
 go_wp2
 go_loopw [5,8] (fun _ iv wr=>∃k:Nat,k≤n∧iv= .int .i64 k∧(∀x∈l.take k,x.id≠id)∧Below w.heap.size w wr) (fun _ iv _=>n-(intOf iv).toNat)
 case atStart=>exact⟨0,by omega,rfl,by simp,Below.refl _ _⟩
 case round=>
  obtain⟨k,hk,rfl,hno,hb⟩:=hrel
  have KI:=Lib.hid hno
  have HB:=Lib.hid hb
  clear hno
  by_cases hlt:k<n
  ·obtain⟨g,off,rfl,hgw,_,hcell⟩:=HR.out.at_ (by omega)
   obtain⟨x,hx⟩:∃x,l[k]? =some x:=⟨l[k]'(by rw[HL.out];exact hlt),List.getElem?_eq_getElem _⟩
   obtain⟨ha,hcp,q,e0,e1,e2,_⟩:=HO.out.at_ hx
   have d0:wr.cell? ⟨g,off+k*3,none⟩=some (.int .i64 x.id):=(hb.cell (p:=⟨g,off+k*3,none⟩) hgw).trans ((hcell (k*3) (by omega)).trans e0)
   have d1:wr.cell? ⟨g,off+k*3+1,none⟩=some (.slice ha x.hash.length hcp):=(hb.cell (p:=⟨g,off+k*3+1,none⟩) hgw).trans ((hcell (k*3+1) (by omega)).trans e1)
   have d2:wr.cell? ⟨g,off+k*3+2,none⟩=some (ptr q):=(hb.cell (p:=⟨g,off+k*3+2,none⟩) hgw).trans ((hcell (k*3+2) (by omega)).trans e2)
   have HX:=Lib.hid hx
   have hcv:=(hb.cell (p:=⟨vb,0,none⟩) hvb).trans hc
   have HF:=Lib.hid (KG x.id (.slice ha x.hash.length hcp) (ptr q) id vb wr hcv (by have:=hb.size;omega))
   have i0:(0:Int)≤(k:Int):=by omega
   have i1:(k:Int)<(n:Int):=by omega
   have hd:decide ((k:Int)<(n:Int))=true:=by simpa using i1
   clear hx hcell e0 e1 e2 hcv hb
   by_cases he:x.id=id
   ·have he2:(x.id==id)=true:=by simpa using he
    rw[he2]at HF
    have HE:=Lib.hid he
    clear he he2
    go_wp2_with fail
    (with_reducible refine HF.out.mono ?_)
    rintro e w1 ⟨rfl,hb1⟩
    go_wp2_with fail
    go_ret
    exact⟨k,rfl, .inr ⟨k,x,rfl,HX.out,HE.out,KI.out⟩,HB.out.trans (hb1.mono HB.out.size)⟩
   ·have he2:(x.id==id)=false:=by simpa using he
    rw[he2]at HF
    have HE:=Lib.hid he
    clear he he2
    go_wp2_with fail
    (with_reducible refine HF.out.mono ?_)
    rintro e w1 ⟨rfl,hb1⟩
    go_wp2_with fail
    go_roundw
    case rel=>
     refine⟨k+1,by omega,by go_num,fun y hy=> ?_,HB.out.trans (hb1.mono HB.out.size)⟩
     obtain⟨hkl,ek⟩:=List.getElem?_eq_some_iff.1 HX.out
     rw[List.take_succ_eq_append_getElem hkl,ek]at hy
     rcases List.mem_append.1 hy with hy|hy
     ·exact KI.out y hy
     ·simp only[List.mem_singleton]at hy
      rw[hy];exact HE.out
    case measure=>simp[intOf];omega
  ·have hd:decide ((k:Int)<(n:Int))=false:=by simp;omega
   go_wp2_with fail
   go_ret
   refine⟨-1,rfl, .inl ⟨rfl,fun x hx=>KI.out x ?_⟩,HB.out⟩
   rw[List.take_of_length_le (by have:=HL.out;omega)]
   exact hx
theorem NV (h:jO o i w s S) (id:Int) (hn:S.l.length≤1000):Calls Tryz.prog 91 #[ptr s, .int .i64 id] w fun e w'=>∃v,e= .returned (.int .i64 v)∧Uc S.l id v∧Below w.heap.size w w':=by
 obtain⟨v,la,lc,vals,h1,h2,h3,h4,h5,h6,h7,h8⟩:=h.at_
 obtain⟨a,c,rfl,hcap⟩:=cO h4
 obtain⟨-,-,hrow⟩:=ah.nZ h4 (by unfold maxLen;omega)
 have c0:w.cell? ⟨s,0,none⟩=some (.slice a S.l.length c):=by simp[World.cell?,h1]
 obtain⟨n,hnl⟩:∃n,n=S.l.length:=⟨_,rfl⟩
 rw[←hnl]at c0 hrow hcap hn
 have hca:=(wall w (.cells #[.int .i64 id] 3))
 have c1:=(hca.cell (p:=⟨s,0,none⟩) h3).trans c0
 have HI:=Lib.hid (KH (w:=w.alloc (.cells #[.int .i64 id] 3)) (a:=a) (n:=n) (c:=c) id w.heap.size hnl.symm ((hrow.below hca (Nat.le_refl _)).mono fun b hb=>by simp;omega) (show vQ o _ vals S.l from fI.grow hca h6) hn jN (by simp))
 clear h h1 h2 h4 h5 h6 h7 h8 hrow hca c0 hnl
 go_enter Tryz.func91,Tryz.ntmps91
 go_wp2_with fail
 (with_reducible refine HI.out.mono ?_)
 rintro e w1 ⟨v,rfl,hf,hb1⟩
 have HF:=Lib.hid hf
 have HB:=Lib.hid hb1
 clear hf hb1
 go_wp2_with fail
 go_ret
 exact⟨v,rfl,HF.out,(wall w _).trans (HB.out.mono (by simp))⟩
end
end Go.Proofs.YtjnhnlabpccgjaaGreat
