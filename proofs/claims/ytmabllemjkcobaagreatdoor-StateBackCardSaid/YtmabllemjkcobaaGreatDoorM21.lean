/- tree: Copy. slices.Equal of texts; path.Within. -/
import Derived.Test.YtmabllemjkcobaaGreatDoorM14
import Derived.Test.YtmabllemjkcobaaGreatDoorM17
import Derived.Test.YtmabllemjkcobaaGreatDoorM20
import Derived.Shelf.SlMaps.Clone
import Derived.WalkLawsBesides
import Derived.Test.YtmabllemjkcobaaGreatDoorM09
namespace Go.Proofs.YtmabllemjkcobaaGreatDoor
open Go.ChangeShapes Go.WideShapes Go.ChangeAt Go.RowKit
set_option linter.unusedVariables false
set_option linter.unusedSimpArgs false
theorem Dl (b:Nat) (l:List (Nm×Value)) (w:World) (hM:MapAt bV w b l):Calls Tryz.prog 126 #[.map (some b)] w fun e w'=>e= .returned (.map (some w.heap.size))∧MapAt bV w' w.heap.size l∧Below w.heap.size w w'∧w.heap.size<w'.heap.size:=
 (AnyW.maps_Clone_owns Tryz.Mc 9 lK b l.length (sJ bV l) w hM).mono fun e w' h=>⟨h.1,MapAt.ru h.2.1,h.2.2.2,h.2.1.lt⟩
theorem Fp (w:World):Calls Tryz.prog 126 #[.map none] w fun e w'=>e= .returned (.map none)∧w'=w:=AnyW.maps_Clone_nil Tryz.Mc w
def Qb (w:World) (x:eB) (e:Ending) (w':World):Prop:=∃n,e= .returned (dH x n)∧(x.kind=2→MapAt bV w' n (bC x)∧w.heap.size≤n∧n<w'.heap.size)∧Below w.heap.size w w'
theorem Fq {w:World} {x:eB} {nb:Nat} (hM:x.kind=2→MapAt bV w nb (bC x)):Calls Tryz.prog 126 #[dH x nb] w (Qb w x):=by
 by_cases hk:x.kind=2
 ·have e1:dH x nb= .map (some nb):=if_pos hk
  rw[e1]
  refine(Dl nb (bC x) w (hM hk)).mono ?_
  rintro e w' ⟨rfl,h1,h2,h3⟩
  exact⟨w.heap.size,by unfold dH;rw[if_pos hk],fun _=>⟨h1,Nat.le_refl _,h3⟩,h2⟩
 ·have e1:dH x nb= .map none:=if_neg hk
  rw[e1]
  refine(Fp w).mono ?_
  rintro e w' ⟨rfl,rfl⟩
  exact⟨0,by unfold dH;rw[if_neg hk],fun h=>absurd h hk,Below.refl _ _⟩
section
variable {g:Nat→Own} {D:Nat→Prop} {p mb:Nat} {ib nb:Int→Nat} {T:aK}
def Qc (g:Nat→Own) (D:Nat→Prop) (w:World) (mb:Nat) (ib:Int→Nat) (T:aK) (q mq r:Nat) (wr:World):Prop:=
 ∃(left:Int→Bool) (cnt:Nat) (g':Nat→Own) (G5 nb':Int→Nat),dZ aP wr mb r (T.map fun q=>(q.1,ptr (ib q.1))) left cnt∧aC g' D wr q mq G5 nb' (nM left T)∧(∀b,g' b≠ .none→w.heap.size≤b∧b≠r)∧Below w.heap.size w wr
def Tv (D:Nat→Prop) (w:World) (T:aK) (e:Ending) (w':World):Prop:=
 ∃q g' mq G5 nb',e= .returned (ptr q)∧aC g' D w' q mq G5 nb' T∧(∀b,g' b≠ .none→w.heap.size≤b)∧Below w.heap.size w w'
theorem Fu {w0:World} {q mq:Nat} (hq:w0.heap[q]? =some (.cells #[.map (some mq)] 97 (0,0))) (hm:MapAt aP w0 mq []) (hne:q≠mq) (hD:∀b,D b→b<w0.heap.size∧b≠q∧b≠mq):
  aC (fun b=>if b=q then .head else if b=mq then .items else .none) D w0 q mq (fun _=>0) (fun _=>0) []:=by
 refine⟨hq,hm,fun k x hx=>(by simp[ah]at hx),if_pos rfl,by rw[if_neg (Ne.symm hne),if_pos rfl],fun k x hx=>(by simp[ah]at hx),fun k x hx=>(by simp[ah]at hx),fun b hb=> ?_,fun b hb=> ?_,fun b hb=>(hD b hb).1⟩
 ·rw[if_neg (hD b hb).2.1,if_neg (hD b hb).2.2]
 ·by_cases h1:b=q
  ·rw[h1];exact(Array.getElem?_eq_some_iff.1 hq).1
  ·by_cases h2:b=mq
   ·rw[h2];exact hm.lt
   ·rw[if_neg h1,if_neg h2]at hb;exact absurd rfl hb
set_option maxRecDepth 100000 in
set_option maxHeartbeats 8000000 in
theorem Hl (w:World) (h:aC g D w p mb ib nb T) (hT:dI T):Calls Tryz.prog 58 #[ptr p] w (Tv D w T):=by
 have hmm:= @run_makeMap Tryz.prog
 have HH:=Lib.hid h
 have HT:=Lib.hid hT
 obtain⟨c0,hpw,hmw⟩:=h.cell
 have HB2:=Lib.hid ((wall w (.map #[] 0)).trans ((wall (w.alloc (.map #[] 0)) (.cells #[.map (some w.heap.size)] 97)).mono (by simp)))
 have fU:=Lib.hid ((h.below HB2.out (Nat.le_refl _)).map)
 have c2:=(HB2.out.cell (p:=⟨p,0,none⟩) hpw).trans c0
 clear h hT
 go_enter Tryz.func58,Tryz.ntmps58
 go_wp2_with (at_range;refine ku aP rfl _ 95 88 rfl Tryz.underlying95 rfl fU.out ?_;intro w0 hR0 hB0 hs0)
 go_frame
 have Qd:=Lib.hid (jU (w:=w.alloc (.map #[] 0)) (v:= .map (some w.heap.size)) (t:=97))
 have hqb:((w.alloc (.map #[] 0)).alloc (.cells #[.map (some w.heap.size)] 97)).heap[w.heap.size+1]? =some (.cells #[.map (some w.heap.size)] 97 (0,0)):=by
  have:=(MapKept.heap_alloc (w.alloc (.map #[] 0)) (.cells #[.map (some w.heap.size)] 97)).1
  simpa using this
 have hmb:MapAt aP ((w.alloc (.map #[] 0)).alloc (.cells #[.map (some w.heap.size)] 97)) w.heap.size []:=(MapAt.made (F:=aP) w).kept ((MapKept.heap_alloc (w.alloc (.map #[] 0)) _).2 w.heap.size (by simp))
 simp only[World.size_alloc]at hR0 hB0 hs0
 simp only[World.size_alloc]
 have YD:aC (fun b=>if b=w.heap.size+1 then .head else if b=w.heap.size then .items else .none) D w0 (w.heap.size+1) w.heap.size (fun _=>0) (fun _=>0) []:=by
  refine Fu ((hB0.block _ (by omega)).trans hqb) (hmb.kept (hB0.block _ (by omega))) (by omega) fun b hb=> ?_
  have:=HH.out.l5 b hb
  omega
 go_loopw [4,5] (fun _ _ wr=>Qc g D w mb ib T (w.heap.size+1) w.heap.size (w.heap.size+2) wr) (fun _ _ wr=>wr.rangeLeft mb (w.heap.size+2))
 case atStart=>
  refine⟨_,_,(fun b=>if b=w.heap.size+1 then .head else if b=w.heap.size then .items else .none),fun _=>0,fun _=>0,hR0,?_,?_,HB2.out.trans (hB0.mono (by omega))⟩
  ·rw[CY (fun q hq=>by rw[bZ,aY dQ HT.out.sorted hq];rfl)]
   exact YD
  ·intro b hb
   by_cases h1:b=w.heap.size+1
   ·omega
   ·by_cases h2:b=w.heap.size
    ·omega
    ·simp only[if_neg h1,if_neg h2]at hb;exact absurd rfl hb
 case round=>
  obtain⟨left,cnt,g1,RG,RH,hR,hA,hg1,hB⟩:=hrel
  have HA1:=Lib.hid hA
  have HR:=Lib.hid hR
  have HB:=Lib.hid hB
  have VI:=Lib.hid hg1
  clear hR hA hB hg1
  go_wp2_with (first|(at_next;refine lM aP rfl _ rfl rfl HR.out ?_ ?_))
  ·intro hdone
   have P8:Hid (nM left T=T):=Jh hdone
   clear hdone
   go_wp2
   go_ret
   have h9:=HA1.out
   rw[P8.out]at h9
   exact⟨_,g1,_,RG,RH,rfl,h9,fun b hb=>(VI.out b hb).1,HB.out⟩
  ·intro k v w3 cnt1 Jl hleft hg2 kP hlt hK1 hs1 hen
   rw[bZ]at hg2
   cases hy:ah k T with
   |none=>rw[hy]at hg2;cases hg2
   |some x=>
    rw[hy]at hg2
    cases hg2
    have hrl:=HR.out.lt
    have hB3:Below w.heap.size w w3:=HB.out.trans (hK1.gP HB.out.size fun b hb (hbr:b=w.heap.size+2)=>by omega)
    have hAs:=HH.out.below hB3 (Nat.le_refl _)
    have hA3:aC g1 D w3 (w.heap.size+1) w.heap.size RG RH (nM left T):=HA1.out.keeps hK1 fun b hb (hbr:b=w.heap.size+2)=>by
     rcases hb with hb|hb
     ·exact(VI.out b hb).2 hbr
     ·have:=HH.out.l5 b hb;omega
    obtain⟨a,c,hcb,hcap,hrow⟩:=(hAs.item k x hy).cells
    have hnm:=(hAs.item k x hy).names
    have hiw:ib k<w3.heap.size:=(Array.getElem?_eq_some_iff.1 hcb).1
    have hqw:=hA3.cell.2.1
    have hq0:=hA3.cell.1
    have VR:=kP.lt
    have HST:Hid (∀w5 v,Below w3.heap.size w3 w5→∃w6,(Instr.mapUpdate 95 (.map (some w.heap.size)) (.int .i64 k) v).run Tryz.prog w5= .ok () w6∧MapAt aP w6 w.heap.size (cO aP.lt k v ((nM left T).map fun q=>(q.1,ptr (RG q.1))))∧w5.mapTurned w6 w.heap.size):=fun w5 v hb=>by
     refine(hA3.map.kept (hb.block _ hA3.cell.2.2)).oC aP Tryz.underlying95 ?_ k v Jl
     have h1:(nM left T).length≤T.length:=List.length_filter_le _ _
     have h2:=HT.out.len
     rw[List.length_map]
     unfold maxLen
     omega
    have jl:Hid (∀w',Below w3.heap.size w3 w'→w'.cell? ⟨w.heap.size+1,0,none⟩=some (.map (some w.heap.size))∧w'.cell? ⟨ib k,0,none⟩=some (.int .i64 k)∧w'.cell? ⟨ib k,1,none⟩=some (.int .i64 x.kind)∧w'.cell? ⟨ib k,2,none⟩=some (.int .i64 x.links)∧w'.cell? ⟨ib k,3,none⟩=some (.int .i64 x.b.length)∧w'.cell? ⟨ib k,4,none⟩=some (.int .u64 x.au)∧w'.cell? ⟨ib k,5,none⟩=some (.bool x.closed)∧w'.cell? ⟨ib k,6,none⟩=some (.slice a x.b.length c)∧w'.cell? ⟨ib k,7,none⟩=some (dH x (nb k))):=fun w' hb=>by
     refine⟨(hb.cell (p:=⟨w.heap.size+1,0,none⟩) hqw).trans hq0,?_,?_,?_,?_,?_,?_,?_,?_⟩
     ·exact(hb.cell (p:=⟨ib k,0,none⟩) hiw).trans (bY hcb 0)
     ·exact(hb.cell (p:=⟨ib k,1,none⟩) hiw).trans (bY hcb 1)
     ·exact(hb.cell (p:=⟨ib k,2,none⟩) hiw).trans (bY hcb 2)
     ·exact(hb.cell (p:=⟨ib k,3,none⟩) hiw).trans (bY hcb 3)
     ·exact(hb.cell (p:=⟨ib k,4,none⟩) hiw).trans (bY hcb 4)
     ·exact(hb.cell (p:=⟨ib k,5,none⟩) hiw).trans (bY hcb 5)
     ·exact(hb.cell (p:=⟨ib k,6,none⟩) hiw).trans (bY hcb 6)
     ·exact(hb.cell (p:=⟨ib k,7,none⟩) hiw).trans (bY hcb 7)
    have KZ:=Lib.hid (Fq (w:=w3.drew) (x:=x) (nb:=nb k) fun hk=>(hnm hk).kept rfl)
    have LQ:=Lib.hid hA3
    have HY:=Lib.hid hy
    have HR1:=Lib.hid kP
    have oK:=Lib.hid hlt
    have HB3:=Lib.hid hB3
    have dS:=Lib.hid hrow
    have HCAP:=Lib.hid hcap
    have wS:=Lib.hid hleft
    have e3:aP.val k= .int .i64 k:=rfl
    rw[e3]at hen⊢
    obtain⟨nl,hnl⟩:∃nl,nl=x.b.length:=⟨_,rfl⟩
    obtain⟨nv,O8⟩:∃nv,nv=dH x (nb k):=⟨_,rfl⟩
    rw[←hnl,←O8]at jl
    rw[←O8]at KZ
    have Pv:=Lib.hid hnl
    clear hAs hA3 hcb hcap hrow hnm hy kP hlt hK1 hB3 hleft e3 hnl O8
    go_wp2_with fail
    refine wp_region_noPanic ?_
    refine bH (last:=20) (S:=(fun w'=>w'.cell? ⟨w.heap.size+1,0,none⟩=some (.map (some w.heap.size))∧w'.cell? ⟨ib k,0,none⟩=some (.int .i64 k)∧w'.cell? ⟨ib k,1,none⟩=some (.int .i64 x.kind)∧w'.cell? ⟨ib k,2,none⟩=some (.int .i64 x.links)∧w'.cell? ⟨ib k,3,none⟩=some (.int .i64 nl)∧w'.cell? ⟨ib k,4,none⟩=some (.int .u64 x.au)∧w'.cell? ⟨ib k,5,none⟩=some (.bool x.closed)∧w'.cell? ⟨ib k,6,none⟩=some (.slice a nl c)∧w'.cell? ⟨ib k,7,none⟩=some nv)) (by kernel_rfl) ?_ (fun hS=> ?_)
    ·exact jl.out _ (Below.refl _ _).drew
    refine bf 0 (hS:=hS) (h:= ?_)
    refine bf 1 (hS:=hS) (h:= ?_)
    refine bf 2 (hS:=hS) (h:= ?_)
    refine bf 3 (hS:=hS) (h:= ?_)
    refine bf 4 (hS:=hS) (h:= ?_)
    refine bf 5 (hS:=hS) (h:= ?_)
    refine bf 6 (hS:=hS) (h:= ?_)
    refine bf 7 (hS:=hS) (h:= ?_)
    refine bf 8 (hS:=hS) (h:= ?_)
    refine bf 9 (hS:=hS) (h:= ?_)
    refine bf 10 (hS:=hS) (h:= ?_)
    refine bf 11 (hS:=hS) (h:= ?_)
    refine bf 12 (hS:=hS) (h:= ?_)
    refine bf 13 (hS:=hS) (h:= ?_)
    refine bf 14 (hS:=hS) (h:= ?_)
    refine bf 15 (hS:=hS) (h:= ?_)
    refine bf 16 (hS:=hS) (h:= ?_)
    refine jF 17 (h:=fun K hK=> ?_)
    go_simp
    (with_reducible refine KZ.out.mono ?_)
    rintro e w4 ⟨n,rfl,Vg,hb4⟩
    have Qe:Below w3.heap.size w3 w4:=(Below.refl _ _).drew.trans hb4
    obtain⟨mv,hmv⟩:∃mv,dH x n= .map mv:=by unfold dH;split<;>exact⟨_,rfl⟩
    rw[hmv]
    have HMV:=Lib.hid hmv
    have Jq:=Lib.hid Vg
    clear hmv Vg hb4
    go_wp2_with fail
    refine hK.out _ _ (fun _=>jl.out _ Qe) (fun hS=> ?_)
    replace hS:=hS (by decide)
    clear hK K
    try simp only[Act.put,List.setIfInBounds_toArray,List.set_cons_zero,List.set_cons_succ]
    refine bf 18 (hS:=hS) (h:= ?_)
    refine jF 19 (h:=fun K hK=> ?_)
    go_simp
    have Jr:Below w3.heap.size w3 (w4.alloc (.cells #[.int .i64 k, .int .i64 x.kind, .int .i64 x.links, .int .i64 nl, .int .u64 x.au, .bool x.closed, .slice a nl c, .map mv] 94)):=Qe.trans ((wall w4 _).mono Qe.size)
    have hci:(w4.alloc (.cells #[.int .i64 k, .int .i64 x.kind, .int .i64 x.links, .int .i64 nl, .int .u64 x.au, .bool x.closed, .slice a nl c, .map mv] 94)).heap[w4.heap.size]? =some (.cells (gL k x a c (if x.kind=2 then n else w4.heap.size+1)) 94 (0,0)):=by
     rw[(MapKept.heap_alloc w4 _).1]
     unfold gL
     have e9:dH x (if x.kind=2 then n else w4.heap.size+1)= .map mv:=by
      have:=HMV.out
      unfold dH at this⊢
      by_cases hk:x.kind=2
      ·rw[if_pos hk]at this⊢;rw[if_pos hk];exact this
      ·rw[if_neg hk]at this⊢;exact this
     rw[e9,←Pv.out]
    have hs5:(w4.alloc (.cells #[.int .i64 k, .int .i64 x.kind, .int .i64 x.links, .int .i64 nl, .int .u64 x.au, .bool x.closed, .slice a nl c, .map mv] 94)).heap.size=w4.heap.size+1:=by simp
    have VT:=wall w4 (.cells #[.int .i64 k, .int .i64 x.kind, .int .i64 x.links, .int .i64 nl, .int .u64 x.au, .bool x.closed, .slice a nl c, .map mv] 94)
    refine hK.out _ _ (fun _=>jl.out _ Jr) (fun hS=> ?_)
    replace hS:=hS (by decide)
    clear hK K
    try simp only[Act.put,List.setIfInBounds_toArray,List.set_cons_zero,List.set_cons_succ]
    generalize (w4.alloc (.cells #[.int .i64 k, .int .i64 x.kind, .int .i64 x.links, .int .i64 nl, .int .u64 x.au, .bool x.closed, .slice a nl c, .map mv] 94))=w5 at*
    refine jF 20 (h:=fun K hK=> ?_)
    go_simp
    obtain⟨w6,RV,Js,Fv⟩:=HST.out w5 (ptr w4.heap.size) Jr
    rw[RV]
    go_simp
    refine hK.out _ _ (fun h=>absurd rfl h) (fun hS=> ?_)
    clear hS hK K
    try simp only[Act.put,List.setIfInBounds_toArray,List.set_cons_zero,List.set_cons_succ]
    refine aT (by kernel_rfl) ?_ _
    refine NoPanic.normal ?_
    have Md:=Lib.hid Js
    have Vh:=Lib.hid Fv
    have VU:=Lib.hid VT
    have HCI:=Lib.hid hci
    have hs6:=gQ Fv
    clear Js Fv RV hci VT
    go_wp2_with fail
    have hs4:=Qe.size
    have hnew:∀b,b<w3.heap.size→b≠w.heap.size→w6.heap[b]? =w3.heap[b]? :=fun b hb hn=>(bQ Vh.out b (by omega) hn).trans (Jr.block b hb)
    have hR6:dZ aP w6 mb (w.heap.size+2) (T.map fun q=>(q.1,ptr (ib q.1))) _ cnt1:=HR1.out.kept (hnew mb VR.1 (by omega)) (hnew _ VR.2.1 (by omega))
    go_roundw
    case rel=>
     have hi9:iA D w6 k w4.heap.size (if x.kind=2 then n else w4.heap.size+1) x:=by
      refine⟨⟨a,c,(bQ Vh.out _ (by omega) (by omega)).trans HCI.out,HCAP.out,dS.out.move (by omega) fun b hb hbw=>⟨hb,hnew b hbw (by have:=HH.out.l5 b hb;omega)⟩⟩,fun hk=> ?_⟩
      obtain⟨k1,k2,k3⟩:=Jq.out hk
      rw[if_pos hk]
      have k2':w3.heap.size≤n:=k2
      exact(k1.kept (VU.out.block n k3)).kept (bQ Vh.out n (by omega) (by omega))
     have hT9:=LQ.out.Zc (i:=w4.heap.size) (n:=if x.kind=2 then n else w4.heap.size+1) (k:=k) (x:=x) (w':=w6) hs4 (by
      by_cases hk:x.kind=2
      ·rw[if_pos hk];exact(Jq.out hk).2.1
      ·rw[if_neg hk];omega) (by
      by_cases hk:x.kind=2
      ·rw[if_pos hk];have:=(Jq.out hk).2.2;omega
      ·rw[if_neg hk];omega) (by omega) (fun hk=>by
      rw[if_pos hk]
      have:=(Jq.out hk).2.2
      omega) (by rw[uP,if_pos wS.out]) Md.out (by omega) hnew hi9
     rw[EY HT.out.sorted HY.out wS.out]at hT9
     refine⟨_,cnt1,_,_,_,hR6,hT9,?_,?_⟩
     ·intro b hb
      by_cases h1:b=w4.heap.size
      ·omega
      ·simp only[if_neg h1]at hb
       by_cases h2:b=(if x.kind=2 then n else w4.heap.size+1)∧x.kind=2
       ·have h3:=Jq.out h2.2
        rw[if_pos h2.2]at h2
        have h4:w3.heap.size≤n:=h3.2.1
        omega
       ·rw[if_neg h2]at hb
        exact VI.out b hb
     ·refine HB3.out.trans ⟨?_,?_,?_,by omega,fun b hb=>hnew b (by have:=HB3.out.size;omega) (by omega)⟩
      ·exact(eu Vh.out).os.trans Jr.os
      ·exact(eu Vh.out).tape.trans Jr.tape
      ·exact(eu Vh.out).output.trans Jr.output
    case measure=>
     rw[hR6.measure,HR.out.measure]
     exact oK.out
end
theorem Ad {S S':Nat→Prop} (a a':Option Addr) (len cap len' cap':Nat) (ss ss':List ByteArray) (w:World) (h:aO S w a len ss) (h':aO S' w a' len' ss'):
  Calls Tryz.prog 178 #[.slice a len cap, .slice a' len' cap'] w fun e w'=>e= .returned (.bool (decide (ss=ss')))∧Below w.heap.size w w':=by
 have hl:=h.length
 have hl':=h'.length
 have hm:=h.row.small
 have hm':=h'.row.small
 unfold maxLen at hm hm'
 by_cases hne:len=len'
 ·subst hne
  by_cases h0:len=0
  ·subst h0
   refine(Tryz.slices_Equal_string_empty a a' cap 0 cap' w (by omega)).mono ?_
   rintro e w' ⟨rfl,rfl⟩
   obtain rfl:ss=[]:=by simpa using hl
   obtain rfl:ss'=[]:=by simpa using hl'
   exact⟨rfl,Below.refl _ _⟩
  ·obtain⟨b,off,rfl,_,_,_⟩:=h.row.at_ (by omega)
   obtain⟨b',off',rfl,_,_,_⟩:=h'.row.at_ (by omega)
   refine(Tryz.slices_Equal_string b off len cap b' off' len cap' ss ss' w (by omega) (by omega) (by omega) (by omega) (fun j hj=>uL h j hj) (fun j hj=>uL h' j hj)).mono ?_
   rintro e w' ⟨rfl,q,rfl⟩
   rw[List.take_of_length_le (by omega),List.take_of_length_le (by omega)]
   exact⟨rfl,⟨rfl,rfl,rfl,Nat.le_refl _,fun _ _=>rfl⟩⟩
 ·refine(Tryz.slices_Equal_string_lens a a' len cap len' cap' w hne).mono ?_
  rintro e w' ⟨rfl,rfl⟩
  have:ss≠ss':=fun e=>hne (by rw[←hl,←hl',e])
  exact⟨by simp[this],Below.refl _ _⟩
def pI (ss ss':List ByteArray):Bool:=decide (ss.take ss'.length=ss')
theorem Dm {S S':Nat→Prop} (a a':Option Addr) (len cap len' cap':Nat) (ss ss':List ByteArray) (w:World) (h:aO S w a len ss) (h':aO S' w a' len' ss') (hcap:len≤cap):
  Calls Tryz.prog 108 #[.slice a len cap, .slice a' len' cap'] w fun e w'=>e= .returned (.bool (pI ss ss'))∧Below w.heap.size w w':=by
 have hl:=h.length
 have hl':=h'.length
 have hm:=h.row.small
 unfold maxLen at hm
 by_cases hle:len'≤len
 ·have hT:=h.take len' hle
  have hp:decide (ss.take len'=ss')=pI ss ss':=by
   unfold pI;rw[hl']
  have HP:=Lib.hid hp
  clear hp hl hl'
  have e5:len'≤cap:=by omega
  cases a with
  |none=>
   have h0:len'=0:=by
    rcases Nat.eq_zero_or_pos len' with h0|h0
    ·exact h0
    ·obtain⟨b,off,e,_⟩:=h.row.at_ (by omega)
     cases e
   subst h0
   go_enter Tryz.func108,Tryz.ntmps108
   go_wp2_with fail
   refine(Ad _ _ _ _ _ _ _ _ _ hT h').mono ?_
   rintro e w1 ⟨rfl,hb⟩
   rw[HP.out]
   go_wp2_with fail
   go_ret
   exact⟨rfl,hb⟩
  |some ad=>
   go_enter Tryz.func108,Tryz.ntmps108
   go_wp2_with fail
   refine(Ad _ _ _ _ _ _ _ _ _ hT h').mono ?_
   rintro e w1 ⟨rfl,hb⟩
   rw[HP.out]
   go_wp2_with fail
   go_ret
   exact⟨rfl,hb⟩
 ·have hp:pI ss ss'=false:=by
   unfold pI
   rw[decide_eq_false_iff_not]
   intro hh
   have:=congrArg List.length hh
   simp at this
   omega
  have HP:=Lib.hid hp
  clear hp hl hl'
  go_enter Tryz.func108,Tryz.ntmps108
  go_wp2_with fail
  go_ret
  exact⟨kg HP.out.symm,Below.refl _ _⟩
end Go.Proofs.YtmabllemjkcobaaGreatDoor
