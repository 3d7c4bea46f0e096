/- tree: Copy. slices.Equal of texts; path.Within. tree: Rename. (*tree.Tree).Save. -/
import Derived.Test.YtohpcppeajijnaaGreatM13
import Derived.Test.YtohpcppeajijnaaGreatM15
import Derived.Test.YtohpcppeajijnaaGreatM18
import Derived.Shelf.SlMaps.Clone
import Derived.WalkLawsBesides
import Derived.Test.YtohpcppeajijnaaGreatM08
import Derived.Test.YtohpcppeajijnaaGreatM17
namespace Go.Proofs.YtohpcppeajijnaaGreat
open Go.ChangeShapes Go.WideShapes Go.ChangeAt Go.RowKit
set_option linter.unusedVariables false
set_option linter.unusedSimpArgs false
theorem AJ (b:Nat) (l:List (Nm×Value)) (w:World) (hM:MapAt gF w b l):Calls Tryz.prog 153 #[.map (some b)] w fun e w'=>e= .returned (.map (some w.heap.size))∧MapAt gF w' w.heap.size l∧Below w.heap.size w w'∧w.heap.size<w'.heap.size:=
 (AnyW.maps_Clone_owns Tryz.I6 9 kL b l.length (qL gF l) w hM).mono fun e w' h=>⟨h.1,MapAt.o_ h.2.1,h.2.2.2,h.2.1.lt⟩
theorem CB (w:World):Calls Tryz.prog 153 #[.map none] w fun e w'=>e= .returned (.map none)∧w'=w:=AnyW.maps_Clone_nil Tryz.I6 w
def MG (w:World) (x:bf) (e:Ending) (w':World):Prop:=∃n,e= .returned (dO x n)∧(x.kind=2→MapAt gF w' n (dP x)∧w.heap.size≤n∧n<w'.heap.size)∧Below w.heap.size w w'
theorem CF {w:World} {x:bf} {nb:Nat} (hM:x.kind=2→MapAt gF w nb (dP x)):Calls Tryz.prog 153 #[dO x nb] w (MG w x):=by
 by_cases hk:x.kind=2
 ·have e1:dO x nb= .map (some nb):=if_pos hk
  rw[e1]
  refine(AJ nb (dP x) w (hM hk)).mono ?_
  rintro e w' ⟨rfl,h1,h2,h3⟩
  exact⟨w.heap.size,by unfold dO;rw[if_pos hk],fun _=>⟨h1,Nat.le_refl _,h3⟩,h2⟩
 ·have e1:dO x nb= .map none:=if_neg hk
  rw[e1]
  refine(CB w).mono ?_
  rintro e w' ⟨rfl,rfl⟩
  exact⟨0,by unfold dO;rw[if_neg hk],fun h=>absurd h hk,Below.refl _ _⟩
section
variable {g:Nat→Own} {D:Nat→Prop} {p mb:Nat} {ib nb:Int→Nat} {T:aI}
def MH (g:Nat→Own) (D:Nat→Prop) (w:World) (mb:Nat) (ib:Int→Nat) (T:aI) (q mq r:Nat) (wr:World):Prop:=
 ∃(left:Int→Bool) (cnt:Nat) (g':Nat→Own) (D7 nb':Int→Nat),eO b_ wr mb r (T.map fun q=>(q.1,ptr (ib q.1))) left cnt∧aK g' D wr q mq D7 nb' (lV left T)∧(∀b,g' b≠ .none→w.heap.size≤b∧b≠r)∧Below w.heap.size w wr
def O8 (D:Nat→Prop) (w:World) (T:aI) (e:Ending) (w':World):Prop:=
 ∃q g' mq D7 nb',e= .returned (ptr q)∧aK g' D w' q mq D7 nb' T∧(∀b,g' b≠ .none→w.heap.size≤b)∧Below w.heap.size w w'
theorem CG {w0:World} {q mq:Nat} (hq:w0.heap[q]? =some (.cells #[.map (some mq)] 96 (0,0))) (hm:MapAt b_ w0 mq []) (hne:q≠mq) (hD:∀b,D b→b<w0.heap.size∧b≠q∧b≠mq):
  aK (fun b=>if b=q then .head else if b=mq then .items else .none) D w0 q mq (fun _=>0) (fun _=>0) []:=by
 refine⟨hq,hm,fun k x hx=>(by simp[aF]at hx),if_pos rfl,by rw[if_neg (Ne.symm hne),if_pos rfl],fun k x hx=>(by simp[aF]at hx),fun k x hx=>(by simp[aF]at hx),fun b hb=> ?_,fun b hb=> ?_,fun b hb=>(hD b hb).1⟩
 ·rw[if_neg (hD b hb).2.1,if_neg (hD b hb).2.2]
 ·by_cases h1:b=q
  ·rw[h1];exact(Array.getElem?_eq_some_iff.1 hq).1
  ·by_cases h2:b=mq
   ·rw[h2];exact hm.lt
   ·rw[if_neg h1,if_neg h2]at hb;exact absurd rfl hb
set_option maxRecDepth 100000 in
set_option maxHeartbeats 8000000 in
theorem Eh (w:World) (h:aK g D w p mb ib nb T) (hT:dR T):Calls Tryz.prog 104 #[ptr p] w (O8 D w T):=by
 have hmm:= @run_makeMap Tryz.prog
 have HH:=Lib.hid h
 have HT:=Lib.hid hT
 obtain⟨c0,hpw,hmw⟩:=h.cell
 have HB2:=Lib.hid ((wall w (.map #[] 0)).trans ((wall (w.alloc (.map #[] 0)) (.cells #[.map (some w.heap.size)] 96)).mono (by simp)))
 have oz:=Lib.hid ((h.below HB2.out (Nat.le_refl _)).map)
 have c2:=(HB2.out.cell (p:=⟨p,0,none⟩) hpw).trans c0
 clear h hT
 go_enter Tryz.func104,Tryz.ntmps104
 go_wp2_with (at_range;refine qM b_ rfl _ 94 92 rfl Tryz.underlying94 rfl oz.out ?_;intro w0 hR0 hB0 hs0)
 go_frame
 have ZB:=Lib.hid (iU (w:=w.alloc (.map #[] 0)) (v:= .map (some w.heap.size)) (t:=96))
 have Fy:((w.alloc (.map #[] 0)).alloc (.cells #[.map (some w.heap.size)] 96)).heap[w.heap.size+1]? =some (.cells #[.map (some w.heap.size)] 96 (0,0)):=by
  have:=(MapKept.heap_alloc (w.alloc (.map #[] 0)) (.cells #[.map (some w.heap.size)] 96)).1
  simpa using this
 have hmb:MapAt b_ ((w.alloc (.map #[] 0)).alloc (.cells #[.map (some w.heap.size)] 96)) w.heap.size []:=(MapAt.made (F:=b_) w).kept ((MapKept.heap_alloc (w.alloc (.map #[] 0)) _).2 w.heap.size (by simp))
 simp only[World.size_alloc]at hR0 hB0 hs0
 simp only[World.size_alloc]
 have LU:aK (fun b=>if b=w.heap.size+1 then .head else if b=w.heap.size then .items else .none) D w0 (w.heap.size+1) w.heap.size (fun _=>0) (fun _=>0) []:=by
  refine CG ((hB0.block _ (by omega)).trans Fy) (hmb.kept (hB0.block _ (by omega))) (by omega) fun b hb=> ?_
  have:=HH.out.lN b hb
  omega
 go_loopw [4,5] (fun _ _ wr=>MH g D w mb ib T (w.heap.size+1) w.heap.size (w.heap.size+2) wr) (fun _ _ wr=>wr.rangeLeft mb (w.heap.size+2))
 case atStart=>
  refine⟨_,_,(fun b=>if b=w.heap.size+1 then .head else if b=w.heap.size then .items else .none),fun _=>0,fun _=>0,hR0,?_,?_,HB2.out.trans (hB0.mono (by omega))⟩
  ·rw[Aq (fun q hq=>by rw[fH,bL dD HT.out.sorted hq];rfl)]
   exact LU
  ·intro b hb
   by_cases h1:b=w.heap.size+1
   ·omega
   ·by_cases h2:b=w.heap.size
    ·omega
    ·simp only[if_neg h1,if_neg h2]at hb;exact absurd rfl hb
 case round=>
  obtain⟨left,cnt,g1,NZ,N7,hR,hA,hg1,hB⟩:=hrel
  have HA1:=Lib.hid hA
  have HR:=Lib.hid hR
  have HB:=Lib.hid hB
  have wV:=Lib.hid hg1
  clear hR hA hB hg1
  go_wp2_with (first|(at_next;refine tL b_ rfl _ rfl rfl HR.out ?_ ?_))
  ·intro hdone
   have R8:Hid (lV left T=T):=Fe hdone
   clear hdone
   go_wp2
   go_ret
   have h9:=HA1.out
   rw[R8.out]at h9
   exact⟨_,g1,_,NZ,N7,rfl,h9,fun b hb=>(wV.out b hb).1,HB.out⟩
  ·intro k v w3 cnt1 R9 hleft hg2 Rv hlt hK1 hs1 hen
   rw[fH]at hg2
   cases hy:aF k T with
   |none=>rw[hy]at hg2;cases hg2
   |some x=>
    rw[hy]at hg2
    cases hg2
    have hrl:=HR.out.lt
    have hB3:Below w.heap.size w w3:=HB.out.trans (hK1.iH HB.out.size fun b hb (hbr:b=w.heap.size+2)=>by omega)
    have hAs:=HH.out.below hB3 (Nat.le_refl _)
    have hA3:aK g1 D w3 (w.heap.size+1) w.heap.size NZ N7 (lV left T):=HA1.out.keeps hK1 fun b hb (hbr:b=w.heap.size+2)=>by
     rcases hb with hb|hb
     ·exact(wV.out b hb).2 hbr
     ·have:=HH.out.lN b hb;omega
    obtain⟨a,c,hcb,hcap,hrow⟩:=(hAs.item k x hy).cells
    have hnm:=(hAs.item k x hy).names
    have hiw:ib k<w3.heap.size:=(Array.getElem?_eq_some_iff.1 hcb).1
    have Wx:=hA3.cell.2.1
    have hq0:=hA3.cell.1
    have Sb:=Rv.lt
    have HST:Hid (∀w5 v,Below w3.heap.size w3 w5→∃w6,(Instr.mapUpdate 94 (.map (some w.heap.size)) (.int .i64 k) v).run Tryz.prog w5= .ok () w6∧MapAt b_ w6 w.heap.size (bP b_.lt k v ((lV left T).map fun q=>(q.1,ptr (NZ q.1))))∧w5.mapTurned w6 w.heap.size):=fun w5 v hb=>by
     refine(hA3.map.kept (hb.block _ hA3.cell.2.2)).rV b_ Tryz.underlying94 ?_ k v R9
     have h1:(lV left T).length≤T.length:=List.length_filter_le _ _
     have h2:=HT.out.len
     rw[List.length_map]
     unfold maxLen
     omega
    have gq:Hid (∀w',Below w3.heap.size w3 w'→w'.cell? ⟨w.heap.size+1,0,none⟩=some (.map (some w.heap.size))∧w'.cell? ⟨ib k,0,none⟩=some (.int .i64 k)∧w'.cell? ⟨ib k,1,none⟩=some (.int .i64 x.kind)∧w'.cell? ⟨ib k,2,none⟩=some (.int .i64 x.links)∧w'.cell? ⟨ib k,3,none⟩=some (.int .i64 x.b.length)∧w'.cell? ⟨ib k,4,none⟩=some (.int .u64 x.aS)∧w'.cell? ⟨ib k,5,none⟩=some (.bool x.closed)∧w'.cell? ⟨ib k,6,none⟩=some (.slice a x.b.length c)∧w'.cell? ⟨ib k,7,none⟩=some (dO x (nb k))):=fun w' hb=>by
     refine⟨(hb.cell (p:=⟨w.heap.size+1,0,none⟩) Wx).trans hq0,?_,?_,?_,?_,?_,?_,?_,?_⟩
     ·exact(hb.cell (p:=⟨ib k,0,none⟩) hiw).trans (f_ hcb 0)
     ·exact(hb.cell (p:=⟨ib k,1,none⟩) hiw).trans (f_ hcb 1)
     ·exact(hb.cell (p:=⟨ib k,2,none⟩) hiw).trans (f_ hcb 2)
     ·exact(hb.cell (p:=⟨ib k,3,none⟩) hiw).trans (f_ hcb 3)
     ·exact(hb.cell (p:=⟨ib k,4,none⟩) hiw).trans (f_ hcb 4)
     ·exact(hb.cell (p:=⟨ib k,5,none⟩) hiw).trans (f_ hcb 5)
     ·exact(hb.cell (p:=⟨ib k,6,none⟩) hiw).trans (f_ hcb 6)
     ·exact(hb.cell (p:=⟨ib k,7,none⟩) hiw).trans (f_ hcb 7)
    have Sc:=Lib.hid (CF (w:=w3.drew) (x:=x) (nb:=nb k) fun hk=>(hnm hk).kept rfl)
    have MB:=Lib.hid hA3
    have HY:=Lib.hid hy
    have HR1:=Lib.hid Rv
    have Ed:=Lib.hid hlt
    have HB3:=Lib.hid hB3
    have gZ:=Lib.hid hrow
    have HCAP:=Lib.hid hcap
    have ZC:=Lib.hid hleft
    have e3:b_.val k= .int .i64 k:=rfl
    rw[e3]at hen⊢
    obtain⟨nl,hnl⟩:∃nl,nl=x.b.length:=⟨_,rfl⟩
    obtain⟨nv,CJ⟩:∃nv,nv=dO x (nb k):=⟨_,rfl⟩
    rw[←hnl,←CJ]at gq
    rw[←CJ]at Sc
    have LJ:=Lib.hid hnl
    clear hAs hA3 hcb hcap hrow hnm hy Rv hlt hK1 hB3 hleft e3 hnl CJ
    go_wp2_with fail
    refine wp_region_noPanic ?_
    refine aH (last:=20) (S:=(fun w'=>w'.cell? ⟨w.heap.size+1,0,none⟩=some (.map (some w.heap.size))∧w'.cell? ⟨ib k,0,none⟩=some (.int .i64 k)∧w'.cell? ⟨ib k,1,none⟩=some (.int .i64 x.kind)∧w'.cell? ⟨ib k,2,none⟩=some (.int .i64 x.links)∧w'.cell? ⟨ib k,3,none⟩=some (.int .i64 nl)∧w'.cell? ⟨ib k,4,none⟩=some (.int .u64 x.aS)∧w'.cell? ⟨ib k,5,none⟩=some (.bool x.closed)∧w'.cell? ⟨ib k,6,none⟩=some (.slice a nl c)∧w'.cell? ⟨ib k,7,none⟩=some nv)) (by kernel_rfl) ?_ (fun hS=> ?_)
    ·exact gq.out _ (Below.refl _ _).drew
    refine aC 0 (hS:=hS) (h:= ?_)
    refine aC 1 (hS:=hS) (h:= ?_)
    refine aC 2 (hS:=hS) (h:= ?_)
    refine aC 3 (hS:=hS) (h:= ?_)
    refine aC 4 (hS:=hS) (h:= ?_)
    refine aC 5 (hS:=hS) (h:= ?_)
    refine aC 6 (hS:=hS) (h:= ?_)
    refine aC 7 (hS:=hS) (h:= ?_)
    refine aC 8 (hS:=hS) (h:= ?_)
    refine aC 9 (hS:=hS) (h:= ?_)
    refine aC 10 (hS:=hS) (h:= ?_)
    refine aC 11 (hS:=hS) (h:= ?_)
    refine aC 12 (hS:=hS) (h:= ?_)
    refine aC 13 (hS:=hS) (h:= ?_)
    refine aC 14 (hS:=hS) (h:= ?_)
    refine aC 15 (hS:=hS) (h:= ?_)
    refine aC 16 (hS:=hS) (h:= ?_)
    refine dh 17 (h:=fun K hK=> ?_)
    go_simp
    (with_reducible refine Sc.out.mono ?_)
    rintro e w4 ⟨n,rfl,Rw,hb4⟩
    have MI:Below w3.heap.size w3 w4:=(Below.refl _ _).drew.trans hb4
    obtain⟨mv,hmv⟩:∃mv,dO x n= .map mv:=by unfold dO;split<;>exact⟨_,rfl⟩
    rw[hmv]
    have HMV:=Lib.hid hmv
    have Sd:=Lib.hid Rw
    clear hmv Rw hb4
    go_wp2_with fail
    refine hK.out _ _ (fun _=>gq.out _ MI) (fun hS=> ?_)
    replace hS:=hS (by decide)
    clear hK K
    try simp only[Act.put,List.setIfInBounds_toArray,List.set_cons_zero,List.set_cons_succ]
    refine aC 18 (hS:=hS) (h:= ?_)
    refine dh 19 (h:=fun K hK=> ?_)
    go_simp
    have Fz:Below w3.heap.size w3 (w4.alloc (.cells #[.int .i64 k, .int .i64 x.kind, .int .i64 x.links, .int .i64 nl, .int .u64 x.aS, .bool x.closed, .slice a nl c, .map mv] 109)):=MI.trans ((wall w4 _).mono MI.size)
    have hci:(w4.alloc (.cells #[.int .i64 k, .int .i64 x.kind, .int .i64 x.links, .int .i64 nl, .int .u64 x.aS, .bool x.closed, .slice a nl c, .map mv] 109)).heap[w4.heap.size]? =some (.cells (gK k x a c (if x.kind=2 then n else w4.heap.size+1)) 109 (0,0)):=by
     rw[(MapKept.heap_alloc w4 _).1]
     unfold gK
     have e9:dO x (if x.kind=2 then n else w4.heap.size+1)= .map mv:=by
      have:=HMV.out
      unfold dO at this⊢
      by_cases hk:x.kind=2
      ·rw[if_pos hk]at this⊢;rw[if_pos hk];exact this
      ·rw[if_neg hk]at this⊢;exact this
     rw[e9,←LJ.out]
    have hs5:(w4.alloc (.cells #[.int .i64 k, .int .i64 x.kind, .int .i64 x.links, .int .i64 nl, .int .u64 x.aS, .bool x.closed, .slice a nl c, .map mv] 109)).heap.size=w4.heap.size+1:=by simp
    have Sg:=wall w4 (.cells #[.int .i64 k, .int .i64 x.kind, .int .i64 x.links, .int .i64 nl, .int .u64 x.aS, .bool x.closed, .slice a nl c, .map mv] 109)
    refine hK.out _ _ (fun _=>gq.out _ Fz) (fun hS=> ?_)
    replace hS:=hS (by decide)
    clear hK K
    try simp only[Act.put,List.setIfInBounds_toArray,List.set_cons_zero,List.set_cons_succ]
    generalize (w4.alloc (.cells #[.int .i64 k, .int .i64 x.kind, .int .i64 x.links, .int .i64 nl, .int .u64 x.aS, .bool x.closed, .slice a nl c, .map mv] 109))=w5 at*
    refine dh 20 (h:=fun K hK=> ?_)
    go_simp
    obtain⟨w6,Oi,ZE,Wy⟩:=HST.out w5 (ptr w4.heap.size) Fz
    rw[Oi]
    go_simp
    refine hK.out _ _ (fun h=>absurd rfl h) (fun hS=> ?_)
    clear hS hK K
    try simp only[Act.put,List.setIfInBounds_toArray,List.set_cons_zero,List.set_cons_succ]
    refine aG (by kernel_rfl) ?_ _
    refine NoPanic.normal ?_
    have Hq:=Lib.hid ZE
    have zk:=Lib.hid Wy
    have Wz:=Lib.hid Sg
    have HCI:=Lib.hid hci
    have hs6:=jc Wy
    clear ZE Wy Oi hci Sg
    go_wp2_with fail
    have hs4:=MI.size
    have hnew:∀b,b<w3.heap.size→b≠w.heap.size→w6.heap[b]? =w3.heap[b]? :=fun b hb hn=>(eB zk.out b (by omega) hn).trans (Fz.block b hb)
    have Hr:eO b_ w6 mb (w.heap.size+2) (T.map fun q=>(q.1,ptr (ib q.1))) _ cnt1:=HR1.out.kept (hnew mb Sb.1 (by omega)) (hnew _ Sb.2.1 (by omega))
    go_roundw
    case rel=>
     have hi9:gU D w6 k w4.heap.size (if x.kind=2 then n else w4.heap.size+1) x:=by
      refine⟨⟨a,c,(eB zk.out _ (by omega) (by omega)).trans HCI.out,HCAP.out,gZ.out.move (by omega) fun b hb hbw=>⟨hb,hnew b hbw (by have:=HH.out.lN b hb;omega)⟩⟩,fun hk=> ?_⟩
      obtain⟨k1,k2,k3⟩:=Sd.out hk
      rw[if_pos hk]
      have k2':w3.heap.size≤n:=k2
      exact(k1.kept (Wz.out.block n k3)).kept (eB zk.out n (by omega) (by omega))
     have ZF:=MB.out.Wj (i:=w4.heap.size) (n:=if x.kind=2 then n else w4.heap.size+1) (k:=k) (x:=x) (w':=w6) hs4 (by
      by_cases hk:x.kind=2
      ·rw[if_pos hk];exact(Sd.out hk).2.1
      ·rw[if_neg hk];omega) (by
      by_cases hk:x.kind=2
      ·rw[if_pos hk];have:=(Sd.out hk).2.2;omega
      ·rw[if_neg hk];omega) (by omega) (fun hk=>by
      rw[if_pos hk]
      have:=(Sd.out hk).2.2
      omega) (by rw[sH,if_pos ZC.out]) Hq.out (by omega) hnew hi9
     rw[Cm HT.out.sorted HY.out ZC.out]at ZF
     refine⟨_,cnt1,_,_,_,Hr,ZF,?_,?_⟩
     ·intro b hb
      by_cases h1:b=w4.heap.size
      ·omega
      ·simp only[if_neg h1]at hb
       by_cases h2:b=(if x.kind=2 then n else w4.heap.size+1)∧x.kind=2
       ·have h3:=Sd.out h2.2
        rw[if_pos h2.2]at h2
        have h4:w3.heap.size≤n:=h3.2.1
        omega
       ·rw[if_neg h2]at hb
        exact wV.out b hb
     ·refine HB3.out.trans ⟨?_,?_,?_,by omega,fun b hb=>hnew b (by have:=HB3.out.size;omega) (by omega)⟩
      ·exact(fB zk.out).os.trans Fz.os
      ·exact(fB zk.out).tape.trans Fz.tape
      ·exact(fB zk.out).output.trans Fz.output
    case measure=>
     rw[Hr.measure,HR.out.measure]
     exact Ed.out
end
section
variable {g:Nat→Own} {D:Nat→Prop} {p mb:Nat} {ib nb:Int→Nat} {T:aI}
end
section
variable {g:Nat→Own} {D:Nat→Prop} {p mb:Nat} {ib nb:Int→Nat} {T:aI}
theorem iB.other {B x:Nat} {w w':World} {v v':Value} {bs:List UInt8} (h:iB B w x v bs v' w') {b:Nat} (hb:b<w.heap.size) (hx:b≠x) (hv:v.ownBlock≠some b):w'.heap[b]? =w.heap[b]? ∧v'.ownBlock≠some b:=
 ⟨h.2.1.block b hb fun hf=>hf.elim hx hv,fun he=>by
  rcases h.2.2 b he with h1|h1
  ·exact hv h1
  ·omega⟩
theorem AL (w:World) (l:List UInt8) (hl:l.length≤1000):∃cap w1,(convert 9 39 (.string (strOf l))).run Tryz.prog w= .ok (.slice (some ⟨w.heap.size,0,none⟩) l.length cap) w1∧Below w.heap.size w w1∧w.heap.size<w1.heap.size∧l.length≤cap∧ak (fun b=>b=w.heap.size) w1 (some ⟨w.heap.size,0,none⟩) l.length (l.map bv):=by
 have h:=Lib.run_convert_string_bytes (P:=Tryz.prog) w 9 39 5 (strOf l) Tryz.underlying9 Tryz.underlying39 Tryz.underlying5
 rw[gT]at h
 refine⟨_,_,h,⟨rfl,rfl,rfl,by rw[Lib.bytesWorld_size];omega,fun k hk=>Lib.bytesWorld_at_old w _ _ k hk⟩,by rw[Lib.bytesWorld_size];omega,grownCap_ge _ _ _ _,⟨by simp,by unfold maxLen;omega,fun h0=>⟨w.heap.size,0,rfl,rfl,by rw[Lib.bytesWorld_size];omega,fun i hi=> ?_⟩⟩⟩
 rw[Nat.zero_add,Lib.bytesWorld_cell w _ _ i (by rw[gT];exact hi)]
 have e1:(strOf l).data.toList=l:=rfl
 rw[e1,List.getElem?_map,List.getElem?_eq_getElem hi,List.getD_eq_getElem?_getD,List.getElem?_eq_getElem hi]
 rfl
structure Si (w:World) (D:Nat→Prop) (p mb:Nat) (ib nb:Nat) (k:Int) (x:bf) (T':List (Int×Value)) (a:Option Addr) (c:Nat):Prop where
 c0:w.cell? ⟨ib,0,none⟩=some (.int .i64 k)
 c1:w.cell? ⟨ib,1,none⟩=some (.int .i64 x.kind)
 c2:w.cell? ⟨ib,2,none⟩=some (.int .i64 x.links)
 c3:w.cell? ⟨ib,3,none⟩=some (.int .i64 x.b.length)
 c4:w.cell? ⟨ib,4,none⟩=some (.int .u64 x.aS)
 c5:w.cell? ⟨ib,5,none⟩=some (.bool x.closed)
 c6:w.cell? ⟨ib,6,none⟩=some (.slice a x.b.length c)
 c7:w.cell? ⟨ib,7,none⟩=some (dO x nb)
 row:ak D w a x.b.length (x.b.map bv)
 head:w.cell? ⟨p,0,none⟩=some (.map (some mb))
 map:MapAt b_ w mb T'
 names:x.kind=2→MapAt gF w nb (dP x)
theorem CK {w:World} (h:aK g D w p mb ib nb T) {k:Int} {x:bf} (hx:aF k T=some x):∃a c,x.b.length≤c∧∀w',Below w.heap.size w w'→Si w' D p mb (ib k) (nb k) k x (T.map fun q=>(q.1,ptr (ib q.1))) a c:=by
 obtain⟨⟨a,c,hblk,hcap,hrow⟩,_⟩:=h.item k x hx
 have hiw:=(Array.getElem?_eq_some_iff.1 hblk).1
 refine⟨a,c,hcap.1,fun w' hb=> ?_⟩
 have h':=h.below hb (Nat.le_refl _)
 obtain⟨c0,c1,c2,c3,c4,c5,c7,_⟩:=(h'.item k x hx).cell
 refine⟨c0,c1,c2,c3,c4,c5,?_,c7,hrow.below hb (Nat.le_refl _),h'.cell.1,h'.map,fun hk=>(h'.item k x hx).names hk⟩
 rw[hb.cell (p:=⟨ib k,6,none⟩) hiw]
 simp only[World.cell?,hblk]
 rfl
set_option maxRecDepth 100000 in
set_option maxHeartbeats 8000000 in
theorem MJ (w:World) (h:aK g D w p mb ib nb T) (hT:dR T):Calls Tryz.prog 31 #[ptr p] w (kC w (fq T)):=by
 have Rx:=Lib.hid h
 have HT:=Lib.hid hT
 have hlen:=hT.len
 obtain⟨N,hN⟩:∃N,N=T.length:=⟨_,rfl⟩
 have xV:=Lib.hid hN
 rw[←hN]at hlen
 clear h hT hN
 go_enter Tryz.func31,Tryz.ntmps31
 go_wp2_with fail
 (with_reducible refine(mK w).mono ?_)
 rintro e w1 ⟨rfl,hW1,hb1⟩
 have HW1:=Lib.hid hW1
 have HB1:=Lib.hid hb1
 have h1:=Rx.out.below hb1 (Nat.le_refl _)
 have hs1:=hb1.size
 obtain⟨hc0,hpw,hmw⟩:=h1.cell
 have Ei:=Lib.hid h1.map
 have kR:=Lib.hid (jH hW1 (N:Int) (by omega) (by omega) (by simp))
 clear h1 hW1 hb1
 go_wp2_with (at_len;refine lS b_ rfl _ 94 92 rfl Tryz.underlying94 rfl Ei.out ?_;rw[List.length_map,←xV.out])
 (with_reducible refine kR.out.mono ?_)
 rintro e w2 ⟨rfl,v2,hm2⟩
 have HW2:=Lib.hid hm2.1
 have HB2:=Lib.hid (HB1.out.trans (hm2.low HW1.out))
 have Oj:=Lib.hid (yU w2 (Rx.out.below HB2.out (Nat.le_refl _)) (by rw[←xV.out];omega))
 clear hm2 kR hc0 hpw hmw Ei HB1
 go_wp2_with fail
 (with_reducible refine Oj.out.mono ?_)
 rintro e w3 ⟨a3,c3,rfl,hc3,hr3,hb3⟩
 have hil:(iV T).length=N:=by unfold iV;rw[List.length_map,xV.out]
 rw[hil]at hc3 hr3⊢
 have HW3:=Lib.hid (HW2.out.below hb3)
 have HB3:=Lib.hid (HB2.out.trans (hb3.mono HB2.out.size))
 have HR3:=Lib.hid hr3
 have Ol:Hid (∀b,w2.heap.size≤b→b≠w.heap.size∧v2.ownBlock≠some b):=fun b hb=>⟨by have:=HW2.out.lt;omega,fun he=>by have:=jF HW2.out.own b he;omega⟩
 clear hb3 hr3 Oj HW2
 go_wp2_with fail
 go_loopw [22] (fun iv wr=>∃(i:Nat) (v':Value),i≤N∧iv= .int .i64 i∧iB w.heap.size w3 w.heap.size v2 (dU (N:Int) 2++(T.take i).flatMap fun q=>lY q.1 q.2) v' wr) (fun iv _=>N-(intOf iv).toNat)
 case atStart=>exact⟨0,v2,by omega,rfl,by simpa using iB.refl HW3.out⟩
 case round=>
  obtain⟨i,v',hi,rfl,hm⟩:=hrel
  have HM:=Lib.hid hm
  have yt:=Lib.hid (HB3.out.trans (hm.low HW3.out))
  clear hm
  by_cases hin:i<N
  ·have hd1:decide ((i:Int)<(N:Int))=true:=by simpa using hin
   obtain⟨e,he⟩:∃e,T[i]? =some e:=⟨_,List.getElem?_eq_getElem (by have:=xV.out;omega)⟩
   obtain⟨k,x⟩:=e
   have hmem:(k,x)∈T:=List.mem_of_getElem? he
   have hx:aF k T=some x:=bL dD HT.out.sorted hmem
   obtain⟨ab,cb,hcb,hF⟩:=CK Rx.out hx
   have O1:=Lib.hid (HT.out.each k x hx)
   have sD:=HT.out.ids k x hx
   have hok:b_.ok k:=tO sD.1 (by omega)
   have HG:Hid (aF k (T.map fun q=>(q.1,ptr (ib q.1)))=some (ptr (ib k))):=by rw[fH,hx];rfl
   obtain⟨b3,o3,rfl,Vs,WA,hcc⟩:=HR3.out.at_ (by omega)
   have Sj:=Ol.out b3 Vs.1
   have ck:wr.cell? ⟨b3,o3+i,none⟩=some (.int .i64 k):=by
    rw[World.cell?_of_block (w:=w3) (w':=wr) (a:=⟨b3,o3+i,none⟩) (HM.out.other WA Sj.1 Sj.2).1,hcc i hin]
    unfold iV
    rw[List.getElem?_map,List.getElem?_map,he]
    rfl
   have FR:=hF wr yt.out
   have HF:=Lib.hid hF
   have HX:=Lib.hid hx
   have HE:=Lib.hid he
   have c0:=FR.c0
   have c1:=FR.c1
   have c2:=FR.c2
   have c3':=FR.c3
   have c4:=FR.c4
   have c5:=FR.c5
   have p0:=FR.head
   have oz:=Lib.hid FR.map
   have hen:=Cq k x O1.out sD.1 sD.2 wr
   unfold kH at hen
   have LV:=Lib.hid hen
   have hi0:(0:Int)≤(i:Int):=by omega
   have WB:(i:Int)<(N:Int):=by omega
   clear hx he hmem hF FR hen hcc
   go_wp2_with (first|(at_lookup;refine eF b_ rfl _ _ 94 92 rfl Tryz.underlying94 (Tryz.fI _) rfl oz.out k rfl hok ?_;rw[HG.out]))
   (with_reducible refine LV.out.mono ?_)
   rintro e w4 ⟨ae,ne,ce,rfl,hce,hre,hbe⟩
   have hne:ne=16:=by have h9:=hre.length;rw[List.length_map,jm]at h9;omega
   subst hne
   obtain⟨I7,MK⟩:∃I7,I7=(dU (N:Int) 2++(T.take i).flatMap fun q=>lY q.1 q.2):=⟨_,rfl⟩
   rw[←MK]at HM
   have hl0:I7.length≤5800000:=by
    have h9:=kT HT.out (T.take i) fun q hq=>List.mem_of_mem_take hq
    rw[List.length_take]at h9
    rw[MK,List.length_append,bJ]
    omega
   have Vt:=Lib.hid MK
   have sM:=HM.out.1.below hbe
   have n_:=Lib.hid sM
   have kS:=Lib.hid (yt.out.trans (hbe.mono yt.out.size))
   have Ht:=HM.out.1.lt
   have ML:=Lib.hid (rA sM ae 16 ce (oH k x) hre (fun b hb=>⟨by omega,fun he=>by have:=jF HM.out.1.own b he;omega⟩) hce (by omega) (by omega))
   have Cc:=Lib.hid (HM.out.below hbe)
   clear MK sM hre hbe hce LV ck c0 c1 c2 c3' c4 c5 p0 oz
   go_wp2_with fail
   (with_reducible refine ML.out.mono ?_)
   rintro e w5 ⟨rfl,v5,Cr⟩
   have O9:=Lib.hid (Cc.out.trans Cr)
   have lX:=Lib.hid (kS.out.trans ((Cr.low n_.out).mono (Nat.le_refl _)))
   have F5:=HF.out w5 lX.out
   have c6:=F5.c6
   have hbl:=O1.out.size
   have Hu:=Lib.hid Rx.out.lN
   have O_:=Lib.hid (rA Cr.1 ab x.b.length cb x.b F5.row (fun b hb=>⟨by have:=Hu.out b hb;omega,fun he=>by have:=bC Cr.1.own b he;have:=Hu.out b hb;omega⟩) hcb (by simp only[List.length_append,jm,bJ];omega) (by omega))
   clear Cr F5 ML n_ kS Cc
   go_wp2_with fail
   (with_reducible refine O_.out.mono ?_)
   rintro e w6 ⟨rfl,v6,IE⟩
   have yc:=Lib.hid (lX.out.trans (IE.low O9.out.1))
   have Hq:=Lib.hid (O9.out.trans IE)
   clear IE O_ c6 O9 lX
   have AB:=HT.out.few HX.out
   have F6:=HF.out w6 yc.out
   have c7:=F6.c7
   obtain⟨L,hL⟩:∃L,L=x.names.length:=⟨_,rfl⟩
   have BN:=Lib.hid hL
   have hlb:(I7++(dU ((16:Nat):Int) 2++oH k x)++(dU (x.b.length:Int) 2++x.b)).length≤5900000:=by simp only[List.length_append,jm,bJ];omega
   have Vu:=Lib.hid (jH Hq.out.1 (L:Int) (by omega) (by omega) (by omega))
   by_cases hk2:x.kind=2
   ·have e2:dO x (nb k)= .map (some (nb k)):=if_pos hk2
    rw[e2]at c7
    have HN:=Lib.hid (F6.names hk2)
    have Ch:=Lib.hid hk2
    clear F6 hk2 e2 hL
    go_wp2_with (at_len;refine lS gF rfl _ 107 3 rfl Tryz.underlying107 rfl HN.out ?_;rw[dP,List.length_map,←BN.out])
    (with_reducible refine Vu.out.mono ?_)
    rintro e w7 ⟨rfl,v7,IG⟩
    have tV:=yc.out.trans (IG.low Hq.out.1)
    have uQ:=Lib.hid tV
    have Ry:=Lib.hid (Hq.out.trans IG)
    have e2:dO x (nb k)= .map (some (nb k)):=if_pos Ch.out
    have c7:=(HF.out w7 tV).c7
    have hkk:=Tryz.Ef (some (nb k)) w7
    have hso:=sorted_at k x w7 (Rx.out.below tV (Nat.le_refl _)) HT.out HX.out
    rw[e2]at c7 hso
    have hll:(x.names.map (·.1)).length=L:=by rw[List.length_map,BN.out]
    have OY:=Lib.hid hso
    have Pb:=wall w7 (.cells #[.map (some (nb k))] 107)
    clear IG tV e2 hso Vu Hq yc HN
    go_wp2_with (go_at_call 88;refine hkk.mono ?_;rintro e w' ⟨rfl,rfl⟩)
    (with_reducible refine OY.out.mono ?_)
    rintro e w8 ⟨a8,c8,rfl,hc8,Eb,uD⟩
    rw[hll]at Eb hc8⊢
    have Pf:Below w7.heap.size w7 w8:=Pb.trans (uD.mono Pb.size)
    have uw:=Lib.hid (uQ.out.trans (Pf.mono uQ.out.size))
    have LW:=Lib.hid (Ry.out.below Pf)
    have WC:=Lib.hid Eb
    have BO:Hid (∀b,w7.heap.size<b→b≠w.heap.size∧v7.ownBlock≠some b):=fun b hb=>⟨by have:=Ry.out.1.lt;omega,fun he=>by have:=jF Ry.out.1.own b he;omega⟩
    have hsz8:(w7.alloc (.cells #[.map (some (nb k))] 107)).heap.size=w7.heap.size+1:=by simp
    clear Pf uD Pb hkk Eb OY uQ c7
    go_wp2_with fail
    go_loopw [63] (fun jv wr2=>∃(j:Nat) (vj:Value),j≤L∧jv= .int .i64 j∧iB w.heap.size w8 w.heap.size v7 (I7++(dU ((16:Nat):Int) 2++oH k x)++(dU (x.b.length:Int) 2++x.b)++dU (L:Int) 2++(x.names.take j).flatMap LQ) vj wr2) (fun jv _=>L-(intOf jv).toNat)
    case atStart=>exact⟨0,v7,by omega,rfl,by simpa using iB.refl LW.out.1⟩
    case round=>
     obtain⟨j,vj,hj,rfl,WE⟩:=hrel
     have Rz:=Lib.hid WE
     have ZG:=Lib.hid (uw.out.trans (WE.low LW.out.1))
     clear WE
     by_cases WG:j<L
     ·have hd2:decide ((j:Int)<(L:Int))=true:=by simpa using WG
      obtain⟨en,hen⟩:∃en,x.names[j]? =some en:=⟨_,List.getElem?_eq_getElem (by have:=BN.out;omega)⟩
      obtain⟨nm,id⟩:=en
      have Ej:(nm,id)∈x.names:=List.mem_of_getElem? hen
      have hgn:=bL Ac O1.out.sorted Ej
      have hg16:nm.length≤16:=lZ (O1.out.good _ Ej)
      have Sk:=HT.out.leads k x HX.out _ Ej
      obtain⟨y,hy⟩:=Option.isSome_iff_exists.1 Sk.1
      have WH:0≤id∧id≤65535:=HT.out.ids _ _ hy
      obtain⟨b8,o8,s,rfl,Vv,WI,hs,hsl,Sl⟩:=WC.out.cell j WG
      rw[List.getElem?_map,List.getElem?_map,hen]at hs
      obtain rfl:strOf nm=s:=by simpa using hs
      have Om:=BO.out b8 (by omega)
      have cn:wr.cell? ⟨b8,o8+j,none⟩=some (.string (strOf nm)):=(World.cell?_of_block (w:=w8) (w':=wr) (a:=⟨b8,o8+j,none⟩) (Rz.out.other WI Om.1 Om.2).1).trans Sl
      obtain⟨ZH,wc,hrun,hbc,WJ,Oo,hcells⟩:=AL wr nm (by omega)
      have hrow:ak (fun b=>b=wr.heap.size) wc (some ⟨wr.heap.size,0,none⟩) nm.length (nm.map bv):=hcells
      have ZI:=Rz.out.1.below hbc
      have hxw:=Rz.out.1.lt
      have hlj:(I7++(dU ((16:Nat):Int) 2++oH k x)++(dU (x.b.length:Int) 2++x.b)++dU (L:Int) 2++(x.names.take j).flatMap LQ).length≤6000000:=by
       have h9:=zi (x.names.take j) fun e he=>lZ (O1.out.good e (List.mem_of_mem_take he))
       rw[List.length_take]at h9
       simp only[List.length_append,jm,bJ]at hlb⊢
       omega
      have Ru:=Lib.hid (rA ZI (some ⟨wr.heap.size,0,none⟩) nm.length ZH nm hrow (fun b hb=>⟨by rw[hb];omega,fun he=>by have:=jF Rz.out.1.own b he;omega⟩) Oo (by omega) (by omega))
      have Sc:=Lib.hid (Rz.out.below hbc)
      have HBC:=Lib.hid (ZG.out.trans (hbc.mono ZG.out.size))
      have Hl:=Lib.hid hgn
      have WK:=Lib.hid hen
      have hj0:(0:Int)≤(j:Int):=by omega
      have hL4:L≤4096:=by have:=BN.out;omega
      have ew:IntKind.i64.wrap ((j:Int)+1)=(j:Int)+1:=IntWalk.i64_in _ (by omega)
      have hjL':(j:Int)<(L:Int):=by omega
      clear hen Ej hgn Sk hy hs hsl Sl hrow ZI hbc hcells
      go_wp2_with fail
      (with_reducible refine Ru.out.mono ?_)
      rintro e w10 ⟨rfl,v10,Pg⟩
      have Sm:=Lib.hid (Sc.out.trans Pg)
      have WL:=Lib.hid (HBC.out.trans (Pg.low Sc.out.1))
      have WM:=HF.out w10 WL.out
      have c7:=WM.c7
      have e2:dO x (nb k)= .map (some (nb k)):=if_pos Ch.out
      rw[e2]at c7
      have WO:=Lib.hid (WM.names Ch.out)
      have WQ:Hid (aF nm (dP x)=some (.int .i64 id)):=by rw[lu,Hl.out];rfl
      have WR:nm.length≤maxLen:=by unfold maxLen;omega
      have Ph:=Lib.hid (jH Sm.out.1 id WH.1 (by omega) (by simp only[List.length_append,jm,bJ]at hlj⊢;omega))
      clear Pg WM e2 hrun
      go_wp2_with (at_lookup;refine eF gF rfl _ _ 107 3 rfl Tryz.underlying107 (Tryz.pz _) rfl WO.out nm rfl WR ?_;rw[WQ.out])
      (with_reducible refine Ph.out.mono ?_)
      rintro e w11 ⟨rfl,v11,Sn⟩
      have Pj:=Sm.out.trans Sn
      have hby:I7++(dU ((16:Nat):Int) 2++oH k x)++(dU (x.b.length:Int) 2++x.b)++dU (L:Int) 2++(x.names.take j).flatMap LQ++(dU (nm.length:Int) 2++nm)++dU id 2=I7++(dU ((16:Nat):Int) 2++oH k x)++(dU (x.b.length:Int) 2++x.b)++dU (L:Int) 2++(x.names.take (j+1)).flatMap LQ:=by
       rw[List.take_add_one,WK.out,List.flatMap_append]
       simp[LQ,mZ,List.append_assoc]
      rw[hby]at Pj
      have WS:=Lib.hid Pj
      clear Pj hby Sn
      go_wp2_with fail
      go_roundw
      case rel=>exact⟨j+1,v11,by omega,by go_num,WS.out⟩
      case measure=>
       simp only[intOf]
       omega
     ·have hd2:decide ((j:Int)<(L:Int))=false:=by simpa using WG
      have hfin:I7++(dU ((16:Nat):Int) 2++oH k x)++(dU (x.b.length:Int) 2++x.b)++dU (L:Int) 2++(x.names.take j).flatMap LQ=(dU (N:Int) 2++(T.take (i+1)).flatMap fun q=>lY q.1 q.2):=by
       rw[List.take_of_length_le (show x.names.length≤j by have:=BN.out;omega),Vt.out,List.take_add_one,HE.out,List.flatMap_append,BN.out]
       simp[lY,mZ,jm,List.append_assoc]
      have Pk:=LW.out.trans Rz.out
      rw[hfin]at Pk
      have Oq:=Lib.hid Pk
      clear Pk hfin
      go_wp2_with fail
      go_roundw
      case rel=>exact⟨i+1,vj,by omega,by go_num,Oq.out⟩
      case measure=>simp[intOf];omega
   ·have e2:dO x (nb k)= .map none:=if_neg hk2
    have hnil:x.names=[]:=O1.out.file (O1.out.kind.resolve_right hk2)
    obtain rfl:L=0:=by rw[hL,hnil];rfl
    rw[e2]at c7
    have Sq:Hid (Calls Tryz.prog 83 #[ptr w.heap.size, .int .i64 0] w6 (lW w.heap.size w6 w.heap.size v6 (I7++(dU ((16:Nat):Int) 2++oH k x)++(dU (x.b.length:Int) 2++x.b)++dU ((0:Nat):Int) 2))):=Vu.out
    clear F6 hk2 hL
    go_wp2_with fail
    (with_reducible refine Sq.out.mono ?_)
    rintro e w7 ⟨rfl,v7,IG⟩
    have tV:=yc.out.trans (IG.low Hq.out.1)
    have uQ:=Lib.hid tV
    have Ry:=Lib.hid (Hq.out.trans IG)
    have c7:=(HF.out w7 tV).c7
    have hkk:=Tryz.Ef none w7
    have hso:=sorted_at k x w7 (Rx.out.below tV (Nat.le_refl _)) HT.out HX.out
    rw[e2]at c7 hso
    rw[hnil]at hso
    have OY:=Lib.hid hso
    have WT:=Lib.hid hnil
    have Pb:=wall w7 (.cells #[.map none] 107)
    clear IG tV e2 hso Vu Sq Hq yc hnil
    go_wp2_with (go_at_call 88;refine hkk.mono ?_;rintro e w' ⟨rfl,rfl⟩)
    (with_reducible refine OY.out.mono ?_)
    rintro e w8 ⟨a8,c8,rfl,hc8,Eb,uD⟩
    have LW:=Lib.hid (Ry.out.below (Pb.trans (uD.mono Pb.size)))
    simp only[List.map_nil,List.length_nil]at hc8⊢
    clear uD Pb hkk Eb OY uQ c7
    have hfin:I7++(dU ((16:Nat):Int) 2++oH k x)++(dU (x.b.length:Int) 2++x.b)++dU ((0:Nat):Int) 2=(dU (N:Int) 2++(T.take (i+1)).flatMap fun q=>lY q.1 q.2):=by
     rw[Vt.out,List.take_add_one,HE.out,List.flatMap_append]
     simp[lY,mZ,jm,WT.out,List.append_assoc]
    have Pk:=LW.out
    rw[hfin]at Pk
    have Oq:=Lib.hid Pk
    clear Pk hfin LW Ry
    go_wp2_with fail
    go_loopw [63] (fun jv wr2=>jv= .int .i64 0∧wr2=w8) (fun jv _=>0)
    case atStart=>exact⟨rfl,rfl⟩
    case round=>
     obtain⟨rfl,rfl⟩:=hrel
     go_wp2_with fail
     go_roundw
     case rel=>exact⟨i+1,v7,by omega,by go_num,Oq.out⟩
     case measure=>simp[intOf];omega
  ·have hd1:decide ((i:Int)<(N:Int))=false:=by simpa using hin
   have ZJ:(dU (N:Int) 2++(T.take i).flatMap fun q=>lY q.1 q.2)=fq T:=by
    rw[List.take_of_length_le (by have:=xV.out;omega),xV.out]
    rfl
   have hlT:(fq T).length≤100000000:=by
    have:=kT HT.out T fun q hq=>hq
    unfold fq
    rw[List.length_append,bJ]
    have:=xV.out
    omega
   have HD:=Lib.hid (vI HM.out.1 (by rw[ZJ];exact hlT))
   rw[ZJ]at HD
   go_wp2_with fail
   (with_reducible refine HD.out.mono ?_)
   rintro e w9 ⟨a9,n9,c9,rfl,Od,Ea,uy⟩
   have Mv:=Lib.hid Ea
   have yg:=Lib.hid (yt.out.trans (uy.mono yt.out.size))
   have hsr:=yt.out.size
   clear Ea uy
   go_wp2_with fail
   go_ret
   exact⟨a9,n9,c9,rfl,Od,Mv.out.mono fun b hb=>⟨by omega,hb.2⟩,yg.out⟩
end
end Go.Proofs.YtohpcppeajijnaaGreat
