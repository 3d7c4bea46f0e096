/- tree: Copy. Trees with marks: what turns them, copies, what is committed. -/
import Derived.Test.YtohpcppeajijnaaGreatM29
import Derived.Test.YtohpcppeajijnaaGreatM18
import Derived.Test.YtohpcppeajijnaaGreatM30
import Derived.Test.YtohpcppeajijnaaGreatM04
import Derived.Shelf.SlMaps.Clone
import Derived.WalkLawsBesides
import Derived.Test.YtohpcppeajijnaaGreatM19
import Derived.Test.YtohpcppeajijnaaGreatM27
import Derived.Test.YtohpcppeajijnaaGreatM21
namespace Go.Proofs.YtohpcppeajijnaaGreat
open Go.ChangeShapes Go.WideShapes Go.ChangeAt Go.RowKit
set_option linter.unusedVariables false
set_option linter.unusedSimpArgs false
theorem zJ (b:Nat) (l:List (Nm×Value)) (w:World) (hM:MapAt dx w b l):Calls Tryz.prog 153 #[.map (some b)] w fun e w'=>e= .returned (.map (some w.heap.size))∧MapAt dx w' w.heap.size l∧Below w.heap.size w w'∧w.heap.size<w'.heap.size:=
 (AnyW.maps_Clone_owns Tryz.GZ 9 kI b l.length (qp dx l) w hM).mono fun e w' h=>⟨h.1,MapAt.oP h.2.1,h.2.2.2,h.2.1.lt⟩
theorem Bq (w:World):Calls Tryz.prog 153 #[.map none] w fun e w'=>e= .returned (.map none)∧w'=w:=AnyW.maps_Clone_nil Tryz.GZ w
def J_ (w:World) (x:bF) (e:Ending) (w':World):Prop:=∃n,e= .returned (dJ x n)∧(x.kind=2→MapAt dx w' n (bR x)∧w.heap.size≤n∧n<w'.heap.size)∧Below w.heap.size w w'
theorem Br {w:World} {x:bF} {nb:Nat} (hM:x.kind=2→MapAt dx w nb (bR x)):Calls Tryz.prog 153 #[dJ x nb] w (J_ w x):=by
 by_cases hk:x.kind=2
 ·have e1:dJ x nb= .map (some nb):=if_pos hk
  rw[e1]
  refine(zJ nb (bR x) w (hM hk)).mono ?_
  rintro e w' ⟨rfl,h1,h2,h3⟩
  exact⟨w.heap.size,by unfold dJ;rw[if_pos hk],fun _=>⟨h1,Nat.le_refl _,h3⟩,h2⟩
 ·have e1:dJ x nb= .map none:=if_neg hk
  rw[e1]
  refine(Bq w).mono ?_
  rintro e w' ⟨rfl,rfl⟩
  exact⟨0,by unfold dJ;rw[if_neg hk],fun h=>absurd h hk,Below.refl _ _⟩
section
variable {g:Nat→Own} {D:Nat→Prop} {p mb:Nat} {ib nb:Int→Nat} {T:aH}
def Ka (g:Nat→Own) (D:Nat→Prop) (w:World) (mb:Nat) (ib:Int→Nat) (T:aH) (q mq r:Nat) (wr:World):Prop:=
 ∃(left:Int→Bool) (cnt:Nat) (g':Nat→Own) (Cn nb':Int→Nat),eH bP wr mb r (T.map fun q=>(q.1,ptr (ib q.1))) left cnt∧aK g' D wr q mq Cn nb' (lQ left T)∧(∀b,g' b≠ .none→w.heap.size≤b∧b≠r)∧Below w.heap.size w wr
def M8 (D:Nat→Prop) (w:World) (T:aH) (e:Ending) (w':World):Prop:=
 ∃q g' mq Cn nb',e= .returned (ptr q)∧aK g' D w' q mq Cn nb' T∧(∀b,g' b≠ .none→w.heap.size≤b)∧Below w.heap.size w w'
theorem Bt {w0:World} {q mq:Nat} (hq:w0.heap[q]? =some (.cells #[.map (some mq)] 96 (0,0))) (hm:MapAt bP w0 mq []) (hne:q≠mq) (hD:∀b,D b→b<w0.heap.size∧b≠q∧b≠mq):
  aK (fun b=>if b=q then .head else if b=mq then .items else .none) D w0 q mq (fun _=>0) (fun _=>0) []:=by
 refine⟨hq,hm,fun k x hx=>(by simp[aj]at hx),if_pos rfl,by rw[if_neg (Ne.symm hne),if_pos rfl],fun k x hx=>(by simp[aj]at hx),fun k x hx=>(by simp[aj]at hx),fun b hb=> ?_,fun b hb=> ?_,fun b hb=>(hD b hb).1⟩
 ·rw[if_neg (hD b hb).2.1,if_neg (hD b hb).2.2]
 ·by_cases h1:b=q
  ·rw[h1];exact(Array.getElem?_eq_some_iff.1 hq).1
  ·by_cases h2:b=mq
   ·rw[h2];exact hm.lt
   ·rw[if_neg h1,if_neg h2]at hb;exact absurd rfl hb
set_option maxRecDepth 100000 in
set_option maxHeartbeats 8000000 in
theorem Kc (w:World) (h:aK g D w p mb ib nb T) (hT:dA T):Calls Tryz.prog 104 #[ptr p] w (M8 D w T):=by
 have hmm:= @run_makeMap Tryz.prog
 have HH:=Lib.hid h
 have HT:=Lib.hid hT
 obtain⟨c0,hpw,hmw⟩:=h.cell
 have HB2:=Lib.hid ((wall w (.map #[] 0)).trans ((wall (w.alloc (.map #[] 0)) (.cells #[.map (some w.heap.size)] 96)).mono (by simp)))
 have iE:=Lib.hid ((h.below HB2.out (Nat.le_refl _)).map)
 have c2:=(HB2.out.cell (p:=⟨p,0,none⟩) hpw).trans c0
 clear h hT
 go_enter Tryz.func104,Tryz.ntmps104
 go_wp2_with (at_range;refine mX bP rfl _ 94 92 rfl Tryz.underlying94 rfl iE.out ?_;intro w0 hR0 hB0 hs0)
 go_frame
 have MR:=Lib.hid (jM (w:=w.alloc (.map #[] 0)) (v:= .map (some w.heap.size)) (t:=96))
 have El:((w.alloc (.map #[] 0)).alloc (.cells #[.map (some w.heap.size)] 96)).heap[w.heap.size+1]? =some (.cells #[.map (some w.heap.size)] 96 (0,0)):=by
  have:=(MapKept.heap_alloc (w.alloc (.map #[] 0)) (.cells #[.map (some w.heap.size)] 96)).1
  simpa using this
 have hmb:MapAt bP ((w.alloc (.map #[] 0)).alloc (.cells #[.map (some w.heap.size)] 96)) w.heap.size []:=(MapAt.made (F:=bP) w).kept ((MapKept.heap_alloc (w.alloc (.map #[] 0)) _).2 w.heap.size (by simp))
 simp only[World.size_alloc]at hR0 hB0 hs0
 simp only[World.size_alloc]
 have QI:aK (fun b=>if b=w.heap.size+1 then .head else if b=w.heap.size then .items else .none) D w0 (w.heap.size+1) w.heap.size (fun _=>0) (fun _=>0) []:=by
  refine Bt ((hB0.block _ (by omega)).trans El) (hmb.kept (hB0.block _ (by omega))) (by omega) fun b hb=> ?_
  have:=HH.out.lG b hb
  omega
 go_loopw [4,5] (fun _ _ wr=>Ka g D w mb ib T (w.heap.size+1) w.heap.size (w.heap.size+2) wr) (fun _ _ wr=>wr.rangeLeft mb (w.heap.size+2))
 case atStart=>
  refine⟨_,_,(fun b=>if b=w.heap.size+1 then .head else if b=w.heap.size then .items else .none),fun _=>0,fun _=>0,hR0,?_,?_,HB2.out.trans (hB0.mono (by omega))⟩
  ·rw[zI (fun q hq=>by rw[dX,bX dR HT.out.sorted hq];rfl)]
   exact QI
  ·intro b hb
   by_cases h1:b=w.heap.size+1
   ·omega
   ·by_cases h2:b=w.heap.size
    ·omega
    ·simp only[if_neg h1,if_neg h2]at hb;exact absurd rfl hb
 case round=>
  obtain⟨left,cnt,g1,KR,KS,hR,hA,hg1,hB⟩:=hrel
  have HA1:=Lib.hid hA
  have HR:=Lib.hid hR
  have HB:=Lib.hid hB
  have Ap:=Lib.hid hg1
  clear hR hA hB hg1
  go_wp2_with (first|(at_next;refine n_ bP rfl _ rfl rfl HR.out ?_ ?_))
  ·intro hdone
   have OA:Hid (lQ left T=T):=Ej hdone
   clear hdone
   go_wp2
   go_ret
   have h9:=HA1.out
   rw[OA.out]at h9
   exact⟨_,g1,_,KR,KS,rfl,h9,fun b hb=>(Ap.out b hb).1,HB.out⟩
  ·intro k v w3 cnt1 L9 hleft hg2 JH hlt hK1 hs1 hen
   rw[dX]at hg2
   cases hy:aj k T with
   |none=>rw[hy]at hg2;cases hg2
   |some x=>
    rw[hy]at hg2
    cases hg2
    have hrl:=HR.out.lt
    have hB3:Below w.heap.size w w3:=HB.out.trans (hK1.jr HB.out.size fun b hb (hbr:b=w.heap.size+2)=>by omega)
    have hAs:=HH.out.below hB3 (Nat.le_refl _)
    have hA3:aK g1 D w3 (w.heap.size+1) w.heap.size KR KS (lQ left T):=HA1.out.keeps hK1 fun b hb (hbr:b=w.heap.size+2)=>by
     rcases hb with hb|hb
     ·exact(Ap.out b hb).2 hbr
     ·have:=HH.out.lG b hb;omega
    obtain⟨a,c,hcb,hcap,hrow⟩:=(hAs.item k x hy).cells
    have hnm:=(hAs.item k x hy).names
    have hiw:ib k<w3.heap.size:=(Array.getElem?_eq_some_iff.1 hcb).1
    have Y9:=hA3.cell.2.1
    have hq0:=hA3.cell.1
    have Ph:=JH.lt
    have HST:Hid (∀w5 v,Below w3.heap.size w3 w5→∃w6,(Instr.mapUpdate 94 (.map (some w.heap.size)) (.int .i64 k) v).run Tryz.prog w5= .ok () w6∧MapAt bP w6 w.heap.size (bY bP.lt k v ((lQ left T).map fun q=>(q.1,ptr (KR q.1))))∧w5.mapTurned w6 w.heap.size):=fun w5 v hb=>by
     refine(hA3.map.kept (hb.block _ hA3.cell.2.2)).rG bP Tryz.underlying94 ?_ k v L9
     have h1:(lQ left T).length≤T.length:=List.length_filter_le _ _
     have h2:=HT.out.len
     rw[List.length_map]
     unfold maxLen
     omega
    have jH:Hid (∀w',Below w3.heap.size w3 w'→w'.cell? ⟨w.heap.size+1,0,none⟩=some (.map (some w.heap.size))∧w'.cell? ⟨ib k,0,none⟩=some (.int .i64 k)∧w'.cell? ⟨ib k,1,none⟩=some (.int .i64 x.kind)∧w'.cell? ⟨ib k,2,none⟩=some (.int .i64 x.links)∧w'.cell? ⟨ib k,3,none⟩=some (.int .i64 x.b.length)∧w'.cell? ⟨ib k,4,none⟩=some (.int .u64 x.aQ)∧w'.cell? ⟨ib k,5,none⟩=some (.bool x.closed)∧w'.cell? ⟨ib k,6,none⟩=some (.slice a x.b.length c)∧w'.cell? ⟨ib k,7,none⟩=some (dJ x (nb k))):=fun w' hb=>by
     refine⟨(hb.cell (p:=⟨w.heap.size+1,0,none⟩) Y9).trans hq0,?_,?_,?_,?_,?_,?_,?_,?_⟩
     ·exact(hb.cell (p:=⟨ib k,0,none⟩) hiw).trans (gM hcb 0)
     ·exact(hb.cell (p:=⟨ib k,1,none⟩) hiw).trans (gM hcb 1)
     ·exact(hb.cell (p:=⟨ib k,2,none⟩) hiw).trans (gM hcb 2)
     ·exact(hb.cell (p:=⟨ib k,3,none⟩) hiw).trans (gM hcb 3)
     ·exact(hb.cell (p:=⟨ib k,4,none⟩) hiw).trans (gM hcb 4)
     ·exact(hb.cell (p:=⟨ib k,5,none⟩) hiw).trans (gM hcb 5)
     ·exact(hb.cell (p:=⟨ib k,6,none⟩) hiw).trans (gM hcb 6)
     ·exact(hb.cell (p:=⟨ib k,7,none⟩) hiw).trans (gM hcb 7)
    have OH:=Lib.hid (Br (w:=w3.drew) (x:=x) (nb:=nb k) fun hk=>(hnm hk).kept rfl)
    have Gd:=Lib.hid hA3
    have HY:=Lib.hid hy
    have HR1:=Lib.hid JH
    have Cx:=Lib.hid hlt
    have HB3:=Lib.hid hB3
    have yw:=Lib.hid hrow
    have HCAP:=Lib.hid hcap
    have Xp:=Lib.hid hleft
    have e3:bP.val k= .int .i64 k:=rfl
    rw[e3]at hen⊢
    obtain⟨nl,hnl⟩:∃nl,nl=x.b.length:=⟨_,rfl⟩
    obtain⟨nv,Ke⟩:∃nv,nv=dJ x (nb k):=⟨_,rfl⟩
    rw[←hnl,←Ke]at jH
    rw[←Ke]at OH
    have I8:=Lib.hid hnl
    clear hAs hA3 hcb hcap hrow hnm hy JH hlt hK1 hB3 hleft e3 hnl Ke
    go_wp2_with fail
    refine wp_region_noPanic ?_
    refine bW (last:=20) (S:=(fun w'=>w'.cell? ⟨w.heap.size+1,0,none⟩=some (.map (some w.heap.size))∧w'.cell? ⟨ib k,0,none⟩=some (.int .i64 k)∧w'.cell? ⟨ib k,1,none⟩=some (.int .i64 x.kind)∧w'.cell? ⟨ib k,2,none⟩=some (.int .i64 x.links)∧w'.cell? ⟨ib k,3,none⟩=some (.int .i64 nl)∧w'.cell? ⟨ib k,4,none⟩=some (.int .u64 x.aQ)∧w'.cell? ⟨ib k,5,none⟩=some (.bool x.closed)∧w'.cell? ⟨ib k,6,none⟩=some (.slice a nl c)∧w'.cell? ⟨ib k,7,none⟩=some nv)) (by kernel_rfl) ?_ (fun hS=> ?_)
    ·exact jH.out _ (Below.refl _ _).drew
    refine aT 0 (hS:=hS) (h:= ?_)
    refine aT 1 (hS:=hS) (h:= ?_)
    refine aT 2 (hS:=hS) (h:= ?_)
    refine aT 3 (hS:=hS) (h:= ?_)
    refine aT 4 (hS:=hS) (h:= ?_)
    refine aT 5 (hS:=hS) (h:= ?_)
    refine aT 6 (hS:=hS) (h:= ?_)
    refine aT 7 (hS:=hS) (h:= ?_)
    refine aT 8 (hS:=hS) (h:= ?_)
    refine aT 9 (hS:=hS) (h:= ?_)
    refine aT 10 (hS:=hS) (h:= ?_)
    refine aT 11 (hS:=hS) (h:= ?_)
    refine aT 12 (hS:=hS) (h:= ?_)
    refine aT 13 (hS:=hS) (h:= ?_)
    refine aT 14 (hS:=hS) (h:= ?_)
    refine aT 15 (hS:=hS) (h:= ?_)
    refine aT 16 (hS:=hS) (h:= ?_)
    refine jF 17 (h:=fun K hK=> ?_)
    go_simp
    (with_reducible refine OH.out.mono ?_)
    rintro e w4 ⟨n,rfl,SE,hb4⟩
    have Kg:Below w3.heap.size w3 w4:=(Below.refl _ _).drew.trans hb4
    obtain⟨mv,hmv⟩:∃mv,dJ x n= .map mv:=by unfold dJ;split<;>exact⟨_,rfl⟩
    rw[hmv]
    have Y_:=Lib.hid hmv
    have Pj:=Lib.hid SE
    clear hmv SE hb4
    go_wp2_with fail
    refine hK.out _ _ (fun _=>jH.out _ Kg) (fun hS=> ?_)
    replace hS:=hS (by decide)
    clear hK K
    try simp only[Act.put,List.setIfInBounds_toArray,List.set_cons_zero,List.set_cons_succ]
    refine aT 18 (hS:=hS) (h:= ?_)
    refine jF 19 (h:=fun K hK=> ?_)
    go_simp
    have Em:Below w3.heap.size w3 (w4.alloc (.cells #[.int .i64 k, .int .i64 x.kind, .int .i64 x.links, .int .i64 nl, .int .u64 x.aQ, .bool x.closed, .slice a nl c, .map mv] 109)):=Kg.trans ((wall w4 _).mono Kg.size)
    have hci:(w4.alloc (.cells #[.int .i64 k, .int .i64 x.kind, .int .i64 x.links, .int .i64 nl, .int .u64 x.aQ, .bool x.closed, .slice a nl c, .map mv] 109)).heap[w4.heap.size]? =some (.cells (iG k x a c (if x.kind=2 then n else w4.heap.size+1)) 109 (0,0)):=by
     rw[(MapKept.heap_alloc w4 _).1]
     unfold iG
     have e9:dJ x (if x.kind=2 then n else w4.heap.size+1)= .map mv:=by
      have:=Y_.out
      unfold dJ at this⊢
      by_cases hk:x.kind=2
      ·rw[if_pos hk]at this⊢;rw[if_pos hk];exact this
      ·rw[if_neg hk]at this⊢;exact this
     rw[e9,←I8.out]
    have hs5:(w4.alloc (.cells #[.int .i64 k, .int .i64 x.kind, .int .i64 x.links, .int .i64 nl, .int .u64 x.aQ, .bool x.closed, .slice a nl c, .map mv] 109)).heap.size=w4.heap.size+1:=by simp
    have Pk:=wall w4 (.cells #[.int .i64 k, .int .i64 x.kind, .int .i64 x.links, .int .i64 nl, .int .u64 x.aQ, .bool x.closed, .slice a nl c, .map mv] 109)
    refine hK.out _ _ (fun _=>jH.out _ Em) (fun hS=> ?_)
    replace hS:=hS (by decide)
    clear hK K
    try simp only[Act.put,List.setIfInBounds_toArray,List.set_cons_zero,List.set_cons_succ]
    generalize (w4.alloc (.cells #[.int .i64 k, .int .i64 x.kind, .int .i64 x.links, .int .i64 nl, .int .u64 x.aQ, .bool x.closed, .slice a nl c, .map mv] 109))=w5 at*
    refine jF 20 (h:=fun K hK=> ?_)
    go_simp
    obtain⟨w6,Ld,La,Fe⟩:=HST.out w5 (ptr w4.heap.size) Em
    rw[Ld]
    go_simp
    refine hK.out _ _ (fun h=>absurd rfl h) (fun hS=> ?_)
    clear hS hK K
    try simp only[Act.put,List.setIfInBounds_toArray,List.set_cons_zero,List.set_cons_succ]
    refine aV (by kernel_rfl) ?_ _
    refine NoPanic.normal ?_
    have JQ:=Lib.hid La
    have vI:=Lib.hid Fe
    have SF:=Lib.hid Pk
    have Za:=Lib.hid hci
    have hs6:=iJ Fe
    clear La Fe Ld hci Pk
    go_wp2_with fail
    have hs4:=Kg.size
    have hnew:∀b,b<w3.heap.size→b≠w.heap.size→w6.heap[b]? =w3.heap[b]? :=fun b hb hn=>(dZ vI.out b (by omega) hn).trans (Em.block b hb)
    have Fg:eH bP w6 mb (w.heap.size+2) (T.map fun q=>(q.1,ptr (ib q.1))) _ cnt1:=HR1.out.kept (hnew mb Ph.1 (by omega)) (hnew _ Ph.2.1 (by omega))
    go_roundw
    case rel=>
     have hi9:iL D w6 k w4.heap.size (if x.kind=2 then n else w4.heap.size+1) x:=by
      refine⟨⟨a,c,(dZ vI.out _ (by omega) (by omega)).trans Za.out,HCAP.out,yw.out.move (by omega) fun b hb hbw=>⟨hb,hnew b hbw (by have:=HH.out.lG b hb;omega)⟩⟩,fun hk=> ?_⟩
      obtain⟨k1,k2,k3⟩:=Pj.out hk
      rw[if_pos hk]
      have k2':w3.heap.size≤n:=k2
      exact(k1.kept (SF.out.block n k3)).kept (dZ vI.out n (by omega) (by omega))
     have Xq:=Gd.out.SC (i:=w4.heap.size) (n:=if x.kind=2 then n else w4.heap.size+1) (k:=k) (x:=x) (w':=w6) hs4 (by
      by_cases hk:x.kind=2
      ·rw[if_pos hk];exact(Pj.out hk).2.1
      ·rw[if_neg hk];omega) (by
      by_cases hk:x.kind=2
      ·rw[if_pos hk];have:=(Pj.out hk).2.2;omega
      ·rw[if_neg hk];omega) (by omega) (fun hk=>by
      rw[if_pos hk]
      have:=(Pj.out hk).2.2
      omega) (by rw[sw,if_pos Xp.out]) JQ.out (by omega) hnew hi9
     rw[Bo HT.out.sorted HY.out Xp.out]at Xq
     refine⟨_,cnt1,_,_,_,Fg,Xq,?_,?_⟩
     ·intro b hb
      by_cases h1:b=w4.heap.size
      ·omega
      ·simp only[if_neg h1]at hb
       by_cases h2:b=(if x.kind=2 then n else w4.heap.size+1)∧x.kind=2
       ·have h3:=Pj.out h2.2
        rw[if_pos h2.2]at h2
        have h4:w3.heap.size≤n:=h3.2.1
        omega
       ·rw[if_neg h2]at hb
        exact Ap.out b hb
     ·refine HB3.out.trans ⟨?_,?_,?_,by omega,fun b hb=>hnew b (by have:=HB3.out.size;omega) (by omega)⟩
      ·exact(dN vI.out).os.trans Em.os
      ·exact(dN vI.out).tape.trans Em.tape
      ·exact(dN vI.out).output.trans Em.output
    case measure=>
     rw[Fg.measure,HR.out.measure]
     exact Cx.out
end
section
variable {W w:World} {o:Mark} {i p:Nat} {T:aH}
theorem Kh {S S':Nat→Prop} (h:eU o i w p T) (hM:Marks W o w) (hi:i≠0) (hT:dA T) (a:Option Addr) (n c:Nat) (ls:List Nm) (a':Option Addr) (n' c':Nat) (ls':List Nm) (hS:aG S w a n (ls.map strOf)) (hS':aG S' w a' n' (ls'.map strOf)) (hc':n'≤c') (jd:n'≤1000000):
  Calls Tryz.prog 16 #[ptr p, .slice a n c, .slice a' n' c'] w (fJ o i w p (aO T ls ls').2 (.int .i64 (aO T ls ls').1)):=by
 obtain⟨g,D,mb,ib,nb,hA,hg,hD⟩:=h
 exact(Ct a n c ls a' n' c' ls' w hA hT hS hS' hc' jd).mono fun e w' ht=>fJ.of hM hi hg hD ht
theorem En {S:Nat→Prop} (h:eU o i w p T) (hM:Marks W o w) (hi:i≠0) (hT:dA T) (a:Option Addr) (n c:Nat) (ls:List Nm) (hS:aG S w a n (ls.map strOf)) (hc:n≤c) (jd:n≤1000000):
  Calls Tryz.prog 18 #[ptr p, .slice a n c] w (fJ o i w p (bQ T ls).2 (.int .i64 (bQ T ls).1)):=by
 obtain⟨g,D,mb,ib,nb,hA,hg,hD⟩:=h
 exact(DJ a n c ls w hA hT hS hc jd).mono fun e w' ht=>fJ.of hM hi hg hD ht
theorem G5 {S:Nat→Prop} (h:eU o i w p T) (hM:Marks W o w) (hi:i≠0) (hT:dA T) (a:Option Addr) (n c:Nat) (ls:List Nm) (hS:aG S w a n (ls.map strOf)) (hc:n≤c) (jd:n≤1000000):
  Calls Tryz.prog 14 #[ptr p, .slice a n c] w (fJ o i w p (cO T ls).2 (.int .i64 (cO T ls).1)):=by
 obtain⟨g,D,mb,ib,nb,hA,hg,hD⟩:=h
 exact(Gf a n c ls w hA hT hS hc jd).mono fun e w' ht=>fJ.of hM hi hg hD ht
theorem Eo {S S':Nat→Prop} (h:eU o i w p T) (hM:Marks W o w) (hi:i≠0) (hO:fQ T) (a:Option Addr) (n c:Nat) (ls:List Nm) (a':Option Addr) (n' c':Nat) (ls':List Nm) (hS:aG S w a n (ls.map strOf)) (hS':aG S' w a' n' (ls'.map strOf)) (hc:n≤c) (jd:n≤1000000) (hc':n'≤c') (ny:n'≤1000000):
  Calls Tryz.prog 93 #[ptr p, .slice a n c, .slice a' n' c'] w (fJ o i w p (aY T ls ls').2 (.int .i64 (aY T ls ls').1)):=by
 obtain⟨g,D,mb,ib,nb,hA,hg,hD⟩:=h
 exact(D8 a n c ls a' n' c' ls' w hA hO hS hS' hc jd hc' ny).mono fun e w' ht=>fJ.of hM hi hg hD ht
theorem Ki (h:eU o i w p T) (hM:Marks W o w) (hi:i≠0) (id aQ:Int) (hid:(Lit.int .i64 id).wf=true) (ht0:0≤aQ) (ht1:aQ≤18446744073709551615):
  Calls Tryz.prog 23 #[ptr p, .int .i64 id, .int .u64 aQ] w (fJ o i w p (eF T id aQ).2 (.int .i64 (eF T id aQ).1)):=by
 obtain⟨g,D,mb,ib,nb,hA,hg,hD⟩:=h
 exact(Jr id aQ w hA hid ht0 ht1).mono fun e w' ht=>fJ.of hM hi hg hD ht
theorem Kj (h:eU o i w p T) (hM:Marks W o w) (hi:i≠0) (hT:dA T) (id aQ:Int) (hid:(Lit.int .i64 id).wf=true) (ht0:0≤aQ) (ht1:aQ≤18446744073709551615):
  Calls Tryz.prog 25 #[ptr p, .int .i64 id, .int .u64 aQ] w (fJ o i w p (dO T id aQ).2 (.int .i64 (dO T id aQ).1)):=by
 obtain⟨g,D,mb,ib,nb,hA,hg,hD⟩:=h
 exact(Js id aQ w hA hid ht0 ht1 (fun x hx=>(hT.each id x hx).aQ)).mono fun e w' ht=>fJ.of hM hi hg hD ht
theorem CU (h:eU o i w p T) (hM:Marks W o w) (hi:i≠0) (hT:dA T) (id:Int) (hid:(Lit.int .i64 id).wf=true):
  Calls Tryz.prog 29 #[ptr p, .int .i64 id] w (fJ o i w p (dH T id).2 (.int .i64 (dH T id).1)):=by
 obtain⟨g,D,mb,ib,nb,hA,hg,hD⟩:=h
 exact(drop_at id hT w hA hid).mono fun e w' ht=>fJ.of hM hi hg hD ht
theorem yx (h:eU o i w p T) (hT:dA T):Calls Tryz.prog 31 #[ptr p] w (pV w (gT T)):=by
 obtain⟨g,D,mb,ib,nb,hA,hg,hD⟩:=h
 exact JN w hA hT
theorem M9 (h:eU o i w p T) (hT:dA T):Calls Tryz.prog 84 #[ptr p] w (tZ w (kD T)):=by
 obtain⟨g,D,mb,ib,nb,hA,hg,hD⟩:=h
 exact CJ w hA (by have:=hT.len;omega)
open Classical in
theorem vJ {W w w':World} {o:Mark} (hM:Marks W o w) (j:Nat) (G:Nat→Prop) (hG:∀b,G b→w.heap.size≤b∧b<w'.heap.size) (hb:Below w.heap.size w w'):∃o',Step o (fun i=>i=j) w o' w'∧(∀b,G b→o' b=j)∧(∀b,¬G b→o' b=o b):=by
 obtain⟨o',ho⟩:∃o':Mark,∀b,o' b=if G b then j else o b:=⟨_,fun _=>rfl⟩
 refine⟨o',⟨fun b hb'=> ?_,fun b hb' hn=> ?_,(Keeps.below hb).mono fun x hx hx'=>absurd hx (by omega)⟩,fun b hb'=>by rw[ho,if_pos hb'],fun b hb'=>by rw[ho,if_neg hb']⟩
 ·rw[ho,if_neg (fun h=>by have:=hG b h;omega)]
 ·by_cases h:G b
  ·rw[ho,if_pos h];exact⟨rfl,(hG b h).2⟩
  ·rw[ho,if_neg h]at hn;have:=(hM.new b hn).2;omega
theorem Kk (h:eU o i w p T) (hM:Marks W o w) (hT:dA T) (j:Nat):
  Calls Tryz.prog 104 #[ptr p] w fun e w'=>∃q o',e= .returned (ptr q)∧Step o (fun i=>i=j) w o' w'∧eU o' j w' q T∧Below w.heap.size w w':=by
 obtain⟨g,D,mb,ib,nb,hA,hg,hD⟩:=h
 refine(Kc w hA hT).mono ?_
 rintro e w' ⟨q,g',mq,Cn,nb',rfl,hA',hg',hb⟩
 obtain⟨o',hs,h1,h2⟩:=vJ hM j (fun b=>g' b≠ .none) (fun b hb'=>⟨hg' b hb',hA'.low b hb'⟩) hb
 refine⟨q,o',rfl,hs,⟨g',D,mq,Cn,nb',hA',fun b hb'=>h1 b hb',fun b hb'=> ?_⟩,hb⟩
 rw[hs.old b (hA.lG b hb')]
 exact hD b hb'
end
theorem G6 (o:Mark):∀(n b:Nat),b<n→o b≤((List.range n).map o).sum
 |n+1,b,h=>by
  rw[List.range_succ,List.map_append,List.sum_append]
  simp only[List.map_cons,List.map_nil,List.sum_cons,List.sum_nil]
  by_cases hb:b=n
  ·rw[hb];omega
  ·have:=G6 o n b (by omega);omega
theorem Bu {W w:World} {o:Mark} (hM:Marks W o w):∃j,j≠0∧∀b,o b≠j:=by
 refine⟨((List.range w.heap.size).map o).sum+1,by omega,fun b hb=> ?_⟩
 have h1:=(hM.new b (by omega)).2
 have:=G6 o w.heap.size b h1
 omega
def dw (T:aH) (k:Nat):aH:=((kD T).take k).foldl (fun S id=>(dH S id).2) T
theorem lY (T:aH):dw T 0=T:=by unfold dw;rw[List.take_zero];rfl
theorem lZ {T:aH} {k:Nat} {id:Int} (h:(kD T)[k]? =some id):dw T (k+1)=(dH (dw T k) id).2:=by
 unfold dw
 obtain⟨hk,e⟩:=List.getElem?_eq_some_iff.1 h
 rw[List.take_succ_eq_append_getElem hk,List.foldl_append,e]
 rfl
theorem nC {T:aH}:dw T T.length=fu T:=by
 unfold dw fu
 rw[List.take_of_length_le (by unfold kD;rw[List.length_map];omega)]
theorem dA.dw {T:aH} (h:dA T):∀k,dA (dw T k)
 |0=>by rw[lY];exact h
 |k+1=>by
  cases hg:(kD T)[k]? with
  |some id=>rw[lZ hg];exact(h.dw k).dH id
  |none=>
   have:Go.Proofs.YtohpcppeajijnaaGreat.dw T (k+1)=Go.Proofs.YtohpcppeajijnaaGreat.dw T k:=by
    have hl:=List.getElem?_eq_none_iff.1 hg
    unfold Go.Proofs.YtohpcppeajijnaaGreat.dw
    rw[List.take_of_length_le hl,List.take_of_length_le (by omega)]
   rw[this];exact h.dw k
theorem fQ.dw {T:aH} (h:fQ T):∀k,fQ (dw T k)
 |0=>by rw[lY];exact h
 |k+1=>by
  cases hg:(kD T)[k]? with
  |some id=>rw[lZ hg];exact(h.dw k).dH id
  |none=>
   have:Go.Proofs.YtohpcppeajijnaaGreat.dw T (k+1)=Go.Proofs.YtohpcppeajijnaaGreat.dw T k:=by
    have hl:=List.getElem?_eq_none_iff.1 hg
    unfold Go.Proofs.YtohpcppeajijnaaGreat.dw
    rw[List.take_of_length_le hl,List.take_of_length_le (by omega)]
   rw[this];exact h.dw k
theorem dA.fu {T:aH} (h:dA T):dA (fu T):=by rw[←nC];exact h.dw _
theorem fQ.fu {T:aH} (h:fQ T):fQ (fu T):=by rw[←nC];exact h.dw _
section
variable {W w:World} {o:Mark} {i p:Nat} {T:aH}
set_option maxRecDepth 100000 in
set_option maxHeartbeats 4000000 in
theorem wF (h:eU o i w p T) (hM:Marks W o w) (hT:dA T) (j:Nat) (hj:j≠0) (hf:∀b,o b≠j):
  Calls Tryz.prog 44 #[ptr p] w fun e w'=>∃q o',e= .returned (ptr q)∧Step o (fun i=>i=j) w o' w'∧eU o' j w' q (fu T)∧Below w.heap.size w w':=by
 have Ry:=Lib.hid (Kk h hM hT j)
 have HM:=Lib.hid hM
 have HT:=Lib.hid hT
 have HJ:=Lib.hid hj
 have HF:=Lib.hid hf
 have Zb:=hT.len
 clear h hM hT hj hf
 go_enter Tryz.func44,Tryz.ntmps44
 go_wp2_with fail
 (with_reducible refine Ry.out.mono ?_)
 rintro e w1 ⟨q,o1,rfl,hs1,hT1,hb1⟩
 have qo:=Lib.hid hs1
 have DV:=Lib.hid (HM.out.step (fun e=>HJ.out e.symm) hs1)
 have HT1:=Lib.hid hT1
 have QC:=Lib.hid (M9 hT1 HT.out)
 clear hs1 hT1 hb1
 go_wp2_with fail
 (with_reducible refine QC.out.mono ?_)
 rintro e w2 ⟨a,cap,rfl,hlc,hrow,hb2⟩
 have hll:(kD T).length=T.length:=by unfold kD;rw[List.length_map]
 rw[hll]at hlc hrow
 rw[hll]
 obtain⟨tl,htl⟩:∃tl,tl=T.length:=⟨_,rfl⟩
 rw[←htl]at Zb hlc hrow⊢
 have QJ:=Lib.hid htl
 have yw:=Lib.hid hrow
 have HS2:=Lib.hid (qo.out.then_ HM.out (fun e=>HJ.out e.symm) hb2)
 have HT2:=Lib.hid (HT1.out.grow hb2)
 clear hb2 hrow htl hll
 have HR2:=Lib.hid ((yw.out.GY DV.out))
 clear yw
 go_wp2_with fail
 go_loopw [4,12] (fun _ iv wr=>∃(k:Nat) (o2:Mark),iv= .int .i64 k∧k≤tl∧Step o (fun i=>i=j) w o2 wr∧eU o2 j wr q (dw T k)∧ak (Free o2 wr) wr a tl ((kD T).map (Value.int .i64))) (fun _ iv _=>tl-(intOf iv).toNat)
 case atStart=>
  exact⟨0,o1,rfl,Nat.zero_le _,HS2.out,by rw[lY];exact HT2.out,HR2.out⟩
 case round=>
  obtain⟨k,o2,rfl,hk,hs,Xr,CV⟩:=hrel
  have HS:=Lib.hid hs
  have QK:=Lib.hid Xr
  have Kl:=Lib.hid CV
  clear hs Xr CV
  by_cases hlt:k<tl
  ·have hd:decide ((k:Int)<(tl:Int))=true:=by simpa using hlt
   obtain⟨id,hid⟩:∃id,(kD T)[k]? =some id:=⟨(kD T)[k]'(by unfold kD;rw[List.length_map,←QJ.out];exact hlt),List.getElem?_eq_getElem _⟩
   obtain⟨b,off,rfl,Zc,hbw,hc⟩:=Kl.out.at_ (by omega)
   have hck:=hc k hlt
   rw[List.getElem?_map,hid]at hck
   have hcell:wr.cell? ⟨b,off+k,none⟩=some (.int .i64 id):=hck
   have hwf:(Lit.int .i64 id).wf=true:=by
    have hm:=List.mem_of_getElem? hid
    unfold kD at hm
    obtain⟨q',hq',rfl⟩:=List.mem_map.1 hm
    have:=HT.out.ids q'.1 q'.2 (bX dR HT.out.sorted hq')
    simp[Lit.wf,IntKind.min,IntKind.max,IntKind.signed,IntKind.bits]
    omega
   have HDR:=Lib.hid (CU QK.out (HM.out.step (fun e=>HJ.out e.symm) HS.out) HJ.out (HT.out.dw k) id hwf)
   have i0:(0:Int)≤(k:Int):=by omega
   have i1:(k:Int)<(tl:Int):=by omega
   have SG:=Lib.hid hid
   clear hid Zc hbw hc hck hwf
   go_wp2_with fail
   (with_reducible refine HDR.out.mono ?_)
   rintro e w3 ⟨rfl,o3,hs3,wD⟩
   have I9:=Lib.hid (HS.out.trans hs3)
   have HT3:=Lib.hid wD
   have HR3:=Lib.hid (Kl.out.free (fun e=>HJ.out e.symm) hs3)
   clear hs3 wD HDR
   go_wp2_with fail
   go_roundw
   case rel=>
    refine⟨k+1,o3,by go_num,by omega,I9.out,?_,HR3.out⟩
    rw[lZ SG.out]
    exact HT3.out
   case measure=>simp[intOf];omega
  ·have hd:decide ((k:Int)<(tl:Int))=false:=by simp;omega
   obtain rfl:tl=k:=by omega
   go_wp2_with fail
   go_ret
   have h9:=QK.out
   rw[QJ.out,nC]at h9
   refine⟨q,o2,rfl,HS.out,h9,?_⟩
   exact HS.out.keep.jr (Nat.le_refl _) fun x _ hx=>HF.out x hx
theorem wG (h:eU o i w p T) (hM:Marks W o w) (hT:dA T):
  Calls Tryz.prog 44 #[ptr p] w fun e w'=>∃q,e= .returned (ptr q)∧eU o 0 w' q (fu T)∧Below w.heap.size w w':=by
 obtain⟨j,hj,hf⟩:=Bu hM
 refine(wF h hM hT j hj hf).mono ?_
 rintro e w' ⟨q,o',rfl,hs,hT',hb⟩
 refine⟨q,rfl,hT'.remark (fun b hb' he=> ?_) (fun b hb' he=> ?_),hb⟩
 ·by_cases hlt:b<w.heap.size
  ·rw[hs.old b hlt]at he;exact absurd he (hf b)
  ·exact Decidable.byContradiction fun h0=>by have:=(hM.new b h0).2;omega
 ·by_cases hlt:b<w.heap.size
  ·rw[hs.old b hlt]at he;exact he
  ·exact Decidable.byContradiction fun h0=>by have:=(hM.new b h0).2;omega
end
end Go.Proofs.YtohpcppeajijnaaGreat
