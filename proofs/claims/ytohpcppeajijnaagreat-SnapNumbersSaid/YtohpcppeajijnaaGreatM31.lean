/- The reference: gone. The reference: links. The reference: its small steps, on trees. The reference: Link. The reference: List. -/
import Derived.Test.YtohpcppeajijnaaGreatM29
import Derived.Deep.CutBlock
import Derived.Deep.DeepCutAuto
import Derived.Test.YtohpcppeajijnaaGreatM30
import Derived.Test.YtohpcppeajijnaaGreatM19
namespace Go.Proofs.YtohpcppeajijnaaGreat
open Go.ChangeShapes Go.WideShapes Go.ChangeAt Go.RowKit
set_option linter.unusedVariables false
set_option linter.unusedSimpArgs false
theorem Bg {F:Nat→Prop} {w w1:World} {b off n c k s:Nat} {vs:List Value} (h:ak F w (some ⟨b,off,none⟩) (n*s) vs) (hk:k<n) (hb:Below w.heap.size w w1):
  ak F w1 (some ⟨b,off,none⟩) (k*s) (vs.take (k*s))∧ak F w1 (if c=k+1 then some ⟨b,off,none⟩else some ⟨b,off+(k+1)*s,none⟩) ((n-(k+1))*s) (vs.drop ((k+1)*s))∨c<n:=by
 by_cases hcn:c<n
 ·exact .inr hcn
 ·left
  have h1:=h.below hb (Nat.le_refl _)
  have h2:=h1.take (k*s)
  have hks:k*s≤n*s:=Nat.mul_le_mul_right s (by omega)
  rw[Nat.min_eq_right hks]at h2
  have h4:=h1.drop ((k+1)*s)
  rw[←Nat.sub_mul]at h4
  refine⟨h2,?_⟩
  by_cases hce:c=k+1
  ·rw[if_pos hce]
   have hl:=h.length
   have hkn:k+1=n:=by omega
   exact ak.zero _ _ _ (by rw[show n-(k+1)=0 by omega,Nat.zero_mul]) (by rw[hkn];exact List.drop_of_length_le (by omega))
  ·rw[if_neg hce];exact h4
theorem dY {w:World} {r:Nat} {x0 x1 x2:Value} (h1:w.heap[r]? =some (.cells #[x0,x1,x2] 102 (0,0))):w.cell? ⟨r,0,none⟩=some x0∧w.cell? ⟨r,1,none⟩=some x1∧w.cell? ⟨r,2,none⟩=some x2∧∀j,w.frozen? ⟨r,j,none⟩=false:=by
 refine⟨?_,?_,?_,fun j=> ?_⟩<;>simp[World.cell?,World.frozen?,h1]
section
variable {F:Nat→Prop} {r:Nat} {T:aI} {D:List (List UInt8)} {E:List iw}
set_option maxRecDepth 100000 in
set_option maxHeartbeats 8000000 in
theorem F4 (id:Int) (k:Nat) (w:World) (h:eX F w r T D E) (hl:T.length≤64) (hD:D.length=T.length) (hi:mI (lQ id) T=k) (hk:k<T.length):
  Calls Tryz.prog 70 #[ptr r, .int .i64 id] w (cu F w r (T.take k++T.drop (k+1)) (D.take k++D.drop (k+1)) E (.tuple #[])):=by
 obtain⟨i6,a6,b6,s6,d6⟩:=info_parts nodeInfo
 have fA:=Lib.hid (And.intro a6 (And.intro b6 (And.intro s6 d6)))
 obtain⟨i1,a1,b1,s1,d1⟩:=info_parts oO
 have HI1:=Lib.hid (And.intro a1 (And.intro b1 (And.intro s1 d1)))
 have HAT:=Lib.hid (pJ id w h hl)
 rw[hi]at HAT
 have HH:=Lib.hid h
 obtain⟨aN,cN,aD,cD,aE,cE,h1,h2,h3,h4,h8,h9,h10,h11⟩:=h.head
 obtain⟨vs,hv,hrow⟩:=h9
 obtain⟨bN,oN,rfl,Tt,hbN,-,-⟩:=h8.wide dG rfl (List.getElem?_eq_getElem hk) (by omega)
 obtain⟨bD,oD,rfl,hFD,hbD,-⟩:=hv.at_ (by omega)
 have hlv:=hv.length
 have hrw:=h.low r h.own
 have HE:=Lib.hid (Each.cut (F:=Off F r) (w:=w) (vs:=vs) (bs:=D) hrow hlv k (by omega))
 have mg:=Lib.hid (And.intro (fun u hu=>Each.one (F:=Off F r) (w:=w) hrow hlv u (List.mem_of_mem_take hu):∀u∈vs.take k,u.oneCell'=true) (fun u hu=>Each.one (F:=Off F r) (w:=w) hrow hlv u (List.mem_of_mem_drop hu):∀u∈vs.drop (k+1),u.oneCell'=true))
 have hLT:(T.take k++T.drop (k+1)).length=k+(T.length-(k+1)):=by simp;omega
 have hLD:(D.take k++D.drop (k+1)).length=k+(T.length-(k+1)):=by simp;omega
 rw[hD]at h1 h3 hv hlv
 generalize hn:T.length=n at*
 have Ed:=Lib.hid hLT
 have Sw:=Lib.hid hLD
 obtain⟨p0,p1,p2,pf⟩:=dY h1
 have pR:=Lib.hid h1
 have HV:=Lib.hid hv
 have mh:Hid (∀w1,Below w.heap.size w w1→w1.cell? ⟨r,0,none⟩=some (.slice (some ⟨bN,oN,none⟩) n cN)∧w1.frozen? ⟨r,0,none⟩=false):=fun w1 hb=>⟨by rw[hb.cell (p:=⟨r,0,none⟩) hrw];exact p0,by rw[hb.frozen (p:=⟨r,0,none⟩) hrw];exact pf 0⟩
 have zZ:Hid (∀w1,Below w.heap.size w w1→ak (Off F r) w1 (some ⟨bN,oN,none⟩) (k*6) ((T.take k).flatMap bA)∧ak (Off F r) w1 (if cN=k+1 then some ⟨bN,oN,none⟩else some ⟨bN,oN+(k+1)*6,none⟩) ((n-(k+1))*6) ((T.drop (k+1)).flatMap bA)):=fun w1 hb=>by
  have:=(Bg (c:=cN) h8 hk hb).resolve_right (by omega)
  rwa [jK bA 6 dG,jL bA 6 dG]at this
 have Tv:Hid (n≤cD):=h3
 have i0:(0:Int)≤k:=by omega
 have Ti:(k:Int)≤cN:=by omega
 have i2:(k:Int)+1≤n:=by omega
 have i3:(0:Int)≤(k:Int)+1:=by omega
 have i4:(n:Int)≤cN:=by omega
 have i5:(k:Int)≤cD:=by omega
 have i6':(n:Int)≤cD:=by omega
 have e1:IntKind.i64.wrap ((k:Int)+1)=(k:Int)+1:=IntWalk.i64_in _ (by omega)
 clear a6 b6 s6 d6 a1 b1 s1 d1 hrow hv hLT hLD h1 h8 h10 h11 hD hi hn h hlv p0 p1 p2 pf
 go_enter Tryz.func70,Tryz.ntmps70
 go_wp2_with fail
 (with_reducible refine HAT.out.mono ?_)
 rintro e w' ⟨rfl,rfl⟩
 go_upto_region 1 with(fail)
 go_cut [] (fun wx=>bq w r (.slice (some ⟨bD,oD,none⟩) n cD) (.slice aE E.length cE) (T.take k++T.drop (k+1)) wx)
 case first=>
  go_wp2
  refine wp_region_noPanic ?_
  refine aH (last:=19) (S:=(fun w'=>w'.cell? ⟨r,0,none⟩=some (.slice (some ⟨bN,oN,none⟩) n cN)∧w'.frozen? ⟨r,0,none⟩=false)) (by kernel_rfl) ?_ (fun hS=> ?_)
  ·exact mh.out _ (Below.refl _ _).drew
  refine aC 0 (hS:=hS) (h:= ?_)
  refine aC 2 (hS:=hS) (h:= ?_)
  refine aC 3 (hS:=hS) (h:= ?_)
  refine aC 4 (hS:=hS) (h:= ?_)
  refine aC 5 (hS:=hS) (h:= ?_)
  refine aC 6 (hS:=hS) (h:= ?_)
  refine aC 7 (hS:=hS) (h:= ?_)
  refine aC 9 (hS:=hS) (h:= ?_)
  refine aC 10 (hS:=hS) (h:= ?_)
  refine aC 11 (hS:=hS) (h:= ?_)
  refine aC 12 (hS:=hS) (h:= ?_)
  refine aC 13 (hS:=hS) (h:= ?_)
  refine aC 14 (hS:=hS) (h:= ?_)
  refine aC 15 (hS:=hS) (h:= ?_)
  refine dh 1 (h:=fun K hK=> ?_)
  go_simp
  refine hK.out _ _ (fun _=>mh.out _ ((Below.refl _ _).drew.alloc (Nat.le_refl _) _)) (fun hS=> ?_)
  replace hS:=hS (by decide)
  clear hK K
  try simp only[Act.put,List.setIfInBounds_toArray,List.set_cons_zero,List.set_cons_succ]
  refine aj (rs:=[8]) (by kernel_rfl) (by simp) ?_
  refine ah.cons (o:= ?o1) ?ho1 (fun K hK=> ?_) ah.nil
  case ho1=>simp only[List.getElem?_toArray,List.getElem?_cons_succ,List.getElem?_cons_zero];rfl
  refine au (by rfl) (.tmp 9) (.tmp 15) 99 (by rfl) w.heap.size 98 _ _ 6 48 Tryz.underlying99 fA.out.1 fA.out.2.1 fA.out.2.2.1 fA.out.2.2.2 rfl (by omega) _ 0 [] (by rfl) (bZ (MapKept.heap_alloc w.drew _).1 (Nat.le_refl _)) _ k _ ((T.take k).flatMap bA) (by rfl) (zZ.out _ ((Below.refl _ _).drew.alloc (Nat.le_refl _) _)).1 (dx _) (by unfold maxLen;omega) (by omega) (by simp) ?_
  intro A1 c1 u1 hown1 hb1
  have hB1:Below w.heap.size w u1:=((Below.refl _ _).drew.alloc (Nat.le_refl _) _).trans hb1
  refine hK.out _ _ (fun _=>mh.out _ hB1) (fun hS=> ?_)
  replace hS:=hS (by decide)
  clear hK K
  try simp only[Act.put,List.setIfInBounds_toArray,List.set_cons_zero,List.set_cons_succ]
  refine aj (rs:=[16]) (by kernel_rfl) (by simp) ?_
  refine ah.cons (o:= ?o2) ?ho2 (fun K hK=> ?_) ah.nil
  case ho2=>simp only[List.getElem?_toArray,List.getElem?_cons_succ,List.getElem?_cons_zero];rfl
  refine au (by rfl) (.tmp 16) (.tmp 23) 99 (by rfl) w.heap.size 98 _ _ 6 48 Tryz.underlying99 fA.out.1 fA.out.2.1 fA.out.2.2.1 fA.out.2.2.2 rfl (by omega) _ _ _ (by rfl) hown1 _ (n-(k+1)) _ ((T.drop (k+1)).flatMap bA) (by rfl) (zZ.out _ hB1).2 (dx _) (by unfold maxLen;omega) (by omega) hB1.size ?_
  intro A2 c2 u2 hown2 hb2
  have hB2:Below w.heap.size w u2:=hB1.trans hb2
  refine hK.out _ _ (fun _=>mh.out _ hB2) (fun hS=> ?_)
  replace hS:=hS (by decide)
  clear hK K
  try simp only[Act.put,List.setIfInBounds_toArray,List.set_cons_zero,List.set_cons_succ]
  refine aC 17 (hS:=hS) (h:= ?_)
  refine aC 18 (hS:=hS) (h:= ?_)
  refine dh 19 (h:=fun K hK=> ?_)
  go_simp
  refine hK.out _ _ (fun h=>absurd rfl h) (fun hS=> ?_)
  clear hS hK K
  try simp only[Act.put,List.setIfInBounds_toArray,List.set_cons_zero,List.set_cons_succ]
  refine aG (by kernel_rfl) ?_ _
  refine NoPanic.normal ?_
  go_wp2_with fail
  all_goals (
   go_meet
   have hl:=Ed.out
   have e5:0+k+(n-(k+1))=(T.take k++T.drop (k+1)).length:=by omega
   obtain⟨-,hcc,-,hrow2⟩:=mF (w:=w) hown2 (by unfold maxLen;omega) (Nat.le_refl _)
   rw[List.nil_append,←List.flatMap_append,e5]at hrow2
   rw[e5]at hcc
   have:=bq.RG hrw pR.out hB2 hcc hrow2 (jM hown2)
   rw[hl]at this
   exact this)
 case rest=>
  obtain⟨w1,rfl⟩:∃w1:World,w1=wc:=⟨_,rfl⟩
  have HM:=Lib.hid hcut
  obtain⟨hK,-,aM,cM,h5,-,-,-⟩:=hcut
  obtain⟨p0,p1,p2,pf⟩:=dY h5
  have hs1:=hK.size
  have hr1:r<w1.heap.size:=by omega
  have hv1:ak (Off (Grow F w w1) r) w1 (some ⟨bD,oD,none⟩) (n*1) vs:=by rw[Nat.mul_one];exact mE hK HV.out
  have RH:=Lib.hid hK
  have lM:Hid (∀w2,Below w1.heap.size w1 w2→w2.cell? ⟨r,1,none⟩=some (.slice (some ⟨bD,oD,none⟩) n cD)∧w2.frozen? ⟨r,1,none⟩=false):=fun w2 hb=>⟨by rw[hb.cell (p:=⟨r,1,none⟩) hr1];exact p1,by rw[hb.frozen (p:=⟨r,1,none⟩) hr1];exact pf 1⟩
  have kR:Hid (∀w2,Below w1.heap.size w1 w2→ak (Off (Grow F w w1) r) w2 (some ⟨bD,oD,none⟩) (k*1) (vs.take k)∧ak (Off (Grow F w w1) r) w2 (if cD=k+1 then some ⟨bD,oD,none⟩else some ⟨bD,oD+(k+1),none⟩) ((n-(k+1))*1) (vs.drop (k+1))):=fun w2 hb=>by
   have:=(Bg (c:=cD) hv1 hk hb).resolve_right (by have:=Tv.out;omega)
   rw[Nat.mul_one,Nat.mul_one]at this
   simpa only[Nat.mul_one]using this
  clear hK h5 p0 p1 p2 pf hv1
  go_wp2
  refine wp_region_noPanic ?_
  refine aH (last:=19) (S:=(fun w'=>w'.cell? ⟨r,1,none⟩=some (.slice (some ⟨bD,oD,none⟩) n cD)∧w'.frozen? ⟨r,1,none⟩=false)) (by kernel_rfl) ?_ (fun hS=> ?_)
  ·exact lM.out _ (Below.refl _ _).drew
  refine aC 0 (hS:=hS) (h:= ?_)
  refine aC 2 (hS:=hS) (h:= ?_)
  refine aC 3 (hS:=hS) (h:= ?_)
  refine aC 4 (hS:=hS) (h:= ?_)
  refine aC 5 (hS:=hS) (h:= ?_)
  refine aC 6 (hS:=hS) (h:= ?_)
  refine aC 7 (hS:=hS) (h:= ?_)
  refine aC 9 (hS:=hS) (h:= ?_)
  refine aC 10 (hS:=hS) (h:= ?_)
  refine aC 11 (hS:=hS) (h:= ?_)
  refine aC 12 (hS:=hS) (h:= ?_)
  refine aC 13 (hS:=hS) (h:= ?_)
  refine aC 14 (hS:=hS) (h:= ?_)
  refine aC 15 (hS:=hS) (h:= ?_)
  refine dh 1 (h:=fun K hK=> ?_)
  go_simp
  refine hK.out _ _ (fun _=>lM.out _ ((Below.refl _ _).drew.alloc (Nat.le_refl _) _)) (fun hS=> ?_)
  replace hS:=hS (by decide)
  clear hK K
  try simp only[Act.put,List.setIfInBounds_toArray,List.set_cons_zero,List.set_cons_succ]
  refine aj (rs:=[8]) (by kernel_rfl) (by simp) ?_
  refine ah.cons (o:= ?o3) ?ho3 (fun K hK=> ?_) ah.nil
  case ho3=>simp only[List.getElem?_toArray,List.getElem?_cons_succ,List.getElem?_cons_zero];rfl
  refine au (by rfl) (.tmp 28) (.tmp 34) 86 (by rfl) w1.heap.size 39 _ _ 1 24 Tryz.underlying86 HI1.out.1 HI1.out.2.1 HI1.out.2.2.1 HI1.out.2.2.2 rfl (by omega) _ 0 [] (by rfl) (bZ (MapKept.heap_alloc w1.drew _).1 (Nat.le_refl _)) _ k _ (vs.take k) (by rfl) (kR.out _ ((Below.refl _ _).drew.alloc (Nat.le_refl _) _)).1 mg.out.1 (by unfold maxLen;omega) (by omega) (by simp) ?_
  intro A1 c1 u1 hown1 hb1
  have hB1:Below w1.heap.size w1 u1:=((Below.refl _ _).drew.alloc (Nat.le_refl _) _).trans hb1
  refine hK.out _ _ (fun _=>lM.out _ hB1) (fun hS=> ?_)
  replace hS:=hS (by decide)
  clear hK K
  try simp only[Act.put,List.setIfInBounds_toArray,List.set_cons_zero,List.set_cons_succ]
  refine aj (rs:=[16]) (by kernel_rfl) (by simp) ?_
  refine ah.cons (o:= ?o4) ?M5 (fun K hK=> ?_) ah.nil
  case M5=>simp only[List.getElem?_toArray,List.getElem?_cons_succ,List.getElem?_cons_zero];rfl
  refine au (by rfl) (.tmp 35) (.tmp 42) 86 (by rfl) w1.heap.size 39 _ _ 1 24 Tryz.underlying86 HI1.out.1 HI1.out.2.1 HI1.out.2.2.1 HI1.out.2.2.2 rfl (by omega) _ _ _ (by rfl) hown1 _ (n-(k+1)) _ (vs.drop (k+1)) (by rfl) (kR.out _ hB1).2 mg.out.2 (by unfold maxLen;omega) (by omega) hB1.size ?_
  intro A2 c2 u2 hown2 hb2
  have hB2:Below w1.heap.size w1 u2:=hB1.trans hb2
  refine hK.out _ _ (fun _=>lM.out _ hB2) (fun hS=> ?_)
  replace hS:=hS (by decide)
  clear hK K
  try simp only[Act.put,List.setIfInBounds_toArray,List.set_cons_zero,List.set_cons_succ]
  refine aC 17 (hS:=hS) (h:= ?_)
  refine aC 18 (hS:=hS) (h:= ?_)
  refine dh 19 (h:=fun K hK=> ?_)
  go_simp
  refine hK.out _ _ (fun h=>absurd rfl h) (fun hS=> ?_)
  clear hS hK K
  try simp only[Act.put,List.setIfInBounds_toArray,List.set_cons_zero,List.set_cons_succ]
  refine aG (by kernel_rfl) ?_ _
  refine NoPanic.normal ?_
  go_wp2
  all_goals (
   go_end0
   have hl:=Sw.out
   have e5:0+k+(n-(k+1))=(D.take k++D.drop (k+1)).length:=by omega
   obtain⟨-,hcc,-,hrow2⟩:=mF (w:=w) hown2 (by unfold maxLen;omega) hs1
   rw[List.nil_append,Nat.mul_one,e5]at hrow2
   rw[e5]at hcc
   have:=eX.yG HH.out pR.out HM.out hB2 hcc hrow2 (HE.out.move (by have:=hB2.size;omega) fun b hb hbw=>⟨⟨.inl hb.1,hb.2⟩,(hB2.block b (by omega)).trans (RH.out.block b hbw hb.2)⟩) (.tuple #[])
   rw[hl]at this
   exact this)
end
theorem bq.facts {w wx:World} {r:Nat} {x1 x2:Value} {T:aI} (h:bq w r x1 x2 T wx) {k:Nat} {q:Int×bf} (hq:T[k]? =some q):∃g off c,wx.cell? ⟨r,0,none⟩=some (.slice (some ⟨g,off,none⟩) T.length c)∧wx.cell? ⟨r,1,none⟩=some x1∧wx.cell? ⟨r,2,none⟩=some x2∧T.length≤c∧(∀j,wx.frozen? ⟨r,j,none⟩=false)∧g≠r∧w.heap.size≤g∧g<wx.heap.size∧r<wx.heap.size∧(∀j,wx.frozen? ⟨g,j,none⟩=false)∧
  (wx.cell? ⟨g,off+k*6,none⟩=some (.int .i64 q.1)∧wx.cell? ⟨g,off+k*6+1,none⟩=some (.int .i64 q.2.kind)∧wx.cell? ⟨g,off+k*6+2,none⟩=some (.int .i64 q.2.links)∧wx.cell? ⟨g,off+k*6+3,none⟩=some (.int .i64 q.2.b.length)∧wx.cell? ⟨g,off+k*6+4,none⟩=some (.int .u64 q.2.aS)∧wx.cell? ⟨g,off+k*6+5,none⟩=some (.bool q.2.closed)):=by
 obtain⟨hK,hr,a,c,h2,h3,h4,hp⟩:=h
 obtain⟨g,off,rfl,hF,hb,hi,hc⟩:=h4.wide dG rfl hq (by omega)
 obtain⟨p0,p1,p2,pf⟩:=dY h2
 have:=hF.1
 have hs:=hK.size
 exact⟨g,off,c,p0,p1,p2,h3,pf,by omega,hF.1,hb,by omega,hp.frozen,hc 0 (by omega),hc 1 (by omega),hc 2 (by omega),hc 3 (by omega),hc 4 (by omega),hc 5 (by omega)⟩
section
variable {F:Nat→Prop} {r:Nat} {T:aI} {D:List (List UInt8)} {E:List iw}
set_option maxRecDepth 100000 in
set_option maxHeartbeats 8000000 in
theorem Dg (id Dh:Int) (k:Nat) (q:Int×bf) (w:World) (h:eX F w r T D E) (hl:T.length≤64) (hi:mI (lQ id) T=k) (hq:T[k]? =some q) (hb0: -1≤Dh∧Dh≤1) (hl0:0≤q.2.links∧q.2.links≤64):
  Calls Tryz.prog 74 #[ptr r, .int .i64 id, .int .i64 Dh] w (cu F w r (T.set k (q.1,{q.2 with links:=q.2.links+Dh})) D E (.tuple #[])):=by
 obtain⟨i6,a6,b6,s6,d6⟩:=info_parts nodeInfo
 have fA:=Lib.hid (And.intro a6 (And.intro b6 (And.intro s6 d6)))
 have hk:k<T.length:=(List.getElem?_eq_some_iff.1 hq).1
 have HAT:=Lib.hid (pJ id w h hl)
 rw[hi]at HAT
 have HH:=Lib.hid h
 have HQ:=Lib.hid hq
 obtain⟨aN,cN,aD,cD,aE,cE,h1,h2,h3,h4,h8,h9,h10,h11⟩:=h.head
 obtain⟨bN,oN,rfl,Tt,hbN,-,-⟩:=h8.wide dG rfl hq (by omega)
 have hrw:=h.low r h.own
 obtain⟨p0,p1,p2,pf⟩:=dY h1
 have pR:=Lib.hid h1
 have Kg:=Lib.hid h8
 obtain⟨n,hn⟩:∃n,n=T.length:=⟨_,rfl⟩
 rw[←hn]at p0 hl hk h2 Kg
 have fV:=Lib.hid hn
 have hf0:=pf 0
 have hfp:=Tt.2
 have i0:(0:Int)≤k:=by omega
 have i2:(k:Int)<n:=by omega
 have e1:IntKind.i64.wrap (q.2.links+Dh)=q.2.links+Dh:=IntWalk.i64_in _ (by omega)
 clear a6 b6 s6 d6 h1 h8 h9 h10 h11 hi h hq hn p1 p2 pf Tt
 go_enter Tryz.func74,Tryz.ntmps74
 go_wp2_with fail
 (with_reducible refine HAT.out.mono ?_)
 rintro e w' ⟨rfl,rfl⟩
 go_upto_region 1 with(fail)
 go_cut [] (fun wx=>bq w r (.slice aD D.length cD) (.slice aE E.length cE) T wx)
 case first=>
  go_wp2_with ((at_builtin;refine fK rfl _ _ 99 rfl w.heap.size 98 _ _ 6 48 Tryz.underlying99 fA.out.1 fA.out.2.1 fA.out.2.2.1 fA.out.2.2.2 rfl (by omega) _ 0 [] rfl (bZ (MapKept.heap_alloc w _).1 (Nat.le_refl _)) _ n _ (T.flatMap bA) rfl (Kg.out.below ((Below.refl _ _).alloc (Nat.le_refl _) _) (Nat.le_refl _)) (dx _) (by unfold maxLen;omega) (by omega) (by simp) ?_;intro A1 c1 w1 hown1 hb1;have hB1:=((Below.refl w.heap.size w).alloc (Nat.le_refl _) _).trans hb1;have hf1:w1.frozen? ⟨r,0,none⟩=false:=(hB1.frozen (p:=⟨r,0,none⟩) hrw).trans hf0;have hc1:=(hB1.cell (p:=⟨r,0,none⟩) hrw).trans p0))
  go_meet
  obtain⟨-,hcc,-,hrow2⟩:=mF (w:=w) hown1 (by unfold maxLen;omega) (Nat.le_refl _)
  have hn:=fV.out
  rw[List.nil_append,Nat.zero_add,hn]at hrow2
  rw[Nat.zero_add,hn]at hcc
  have:=bq.RG hrw pR.out hB1 hcc hrow2 (jM hown1)
  rw[←hn]at this
  exact this
 case rest=>
  obtain⟨w1,rfl⟩:∃w1:World,w1=wc:=⟨_,rfl⟩
  obtain⟨g,off,c,q0,-,-,hlc,qf,hgr,hg1,hg2,hr1,gf,c0,-,c2,-,-,-⟩:=hcut.facts HQ.out
  rw[←fV.out]at q0
  have LP:=gf (off+k*6+2)
  have HM:=Lib.hid hcut
  have wX:=Lib.hid q0
  clear hcut c0 qf gf hlc
  go_wp2
  refine wp_region_noPanic ?_
  refine aH (last:=17) (S:=(fun w'=>w'.cell? ⟨r,0,none⟩=some (.slice (some ⟨g,off,none⟩) n c)∧w'.cell? ⟨g,off+k*6+2,none⟩=some (.int .i64 q.2.links)∧w'.frozen? ⟨g,off+k*6+2,none⟩=false)) (by kernel_rfl) ?_ (fun hS=> ?_)
  ·exact⟨q0,c2,LP⟩
  refine aC 0 (hS:=hS) (h:= ?_)
  refine aC 1 (hS:=hS) (h:= ?_)
  refine aC 2 (hS:=hS) (h:= ?_)
  refine aC 3 (hS:=hS) (h:= ?_)
  refine aC 4 (hS:=hS) (h:= ?_)
  refine aC 5 (hS:=hS) (h:= ?_)
  refine aC 6 (hS:=hS) (h:= ?_)
  refine aC 7 (hS:=hS) (h:= ?_)
  refine aC 8 (hS:=hS) (h:= ?_)
  refine aC 9 (hS:=hS) (h:= ?_)
  refine aC 10 (hS:=hS) (h:= ?_)
  refine aC 11 (hS:=hS) (h:= ?_)
  refine aC 12 (hS:=hS) (h:= ?_)
  refine aC 13 (hS:=hS) (h:= ?_)
  refine aC 14 (hS:=hS) (h:= ?_)
  refine aC 15 (hS:=hS) (h:= ?_)
  refine aC 16 (hS:=hS) (h:= ?_)
  refine dh 17 (h:=fun K hK=> ?_)
  go_simp
  refine hK.out _ _ (fun h=>absurd rfl h) (fun hS=> ?_)
  clear hS hK K
  try simp only[Act.put,List.setIfInBounds_toArray,List.set_cons_zero,List.set_cons_succ]
  refine aG (by kernel_rfl) ?_ _
  refine NoPanic.normal ?_
  go_wp2
  go_end0
  have h0:=wX.out
  rw[fV.out]at h0
  have:=eX.qD HH.out pR.out (bq.fE HM.out h0 (k:=k) (j:=2) (q':=(q.1,{q.2 with links:=q.2.links+Dh})) (v:= .int .i64 (q.2.links+Dh)) HQ.out (by omega) rfl) (.tuple #[])
  rw[←Nat.add_assoc]at this
  exact this.then_ HH.out.low (Below.refl _ _).drew
end
structure uU (T:aI):Prop where
 sorted:aJ gL T
 names:∀q∈T,aJ bytesBefore q.2.names
 len:T.length≤64
 few:(aQ T).length≤5000
theorem uU.of {T:aI} (h:dR T):uU T:=⟨h.sorted,fun q hq=>(h.each _ _ (bL dD h.sorted hq)).sorted,h.len,by have:=lG h;omega⟩
theorem rM {T:aI} {d:Int} {f:bf→bf} {q:Int×bf} (h:q∈aT d f T):q∈T∨∃p∈T,p.1=d∧q=(p.1,f p.2):=by
 unfold aT at h
 obtain⟨p,hp,e⟩:=List.mem_map.1 h
 by_cases hd:p.1=d
 ·rw[if_pos hd]at e
  exact .inr ⟨p,hp,hd,e.symm⟩
 ·rw[if_neg hd]at e
  exact .inl (e▸hp)
theorem uU.cut {T:aI} (h:uU T) (d:Int) (n:Nm):uU (aU T d n):=by
 refine⟨jd _ _ h.sorted,fun q hq=> ?_,by unfold aU;rw[fD];exact h.len,?_⟩
 ·rcases rM hq with h1|⟨p,hp,_,rfl⟩
  ·exact h.names q h1
  ·exact(h.names p hp).bK _
 ·rw[←wB]
  exact Nat.le_trans (List.length_filter_le _ _) h.few
theorem uU.aT {T:aI} (h:uU T) (d:Int) {f:bf→bf} (hf:∀x,(f x).names=x.names):uU (Go.Proofs.YtohpcppeajijnaaGreat.aT d f T):=by
 refine⟨jd _ _ h.sorted,fun q hq=> ?_,by rw[fD];exact h.len,by rw[kV hf];exact h.few⟩
 rcases rM hq with h1|⟨p,hp,_,rfl⟩
 ·exact h.names q h1
 ·show aJ bytesBefore (f p.2).names
  rw[hf];exact h.names p hp
theorem Bh (E:List iw) (d:Int) (nm:Nm) (id:Int):(mQ E d nm id).length=E.length+1:=by
 unfold mQ
 have:=congrArg List.length (List.takeWhile_append_dropWhile (p:=jg d nm) (l:=E))
 rw[List.length_append]at this
 rw[List.length_append,List.length_cons]
 omega
theorem uU.get {T:aI} (h:uU T) {d:Int} {x:bf} (hx:aF d T=some x):aJ bytesBefore x.names:=h.names (d,x) (eD hx)
theorem Ey {T:aI} (h:uU T) {id j:Int} {x:bf} {nm:Nm} (hx:aF id T=some x) (hn:aF nm x.names=some j):∃k:Nat,mI (fJ id nm) (aQ T)=k∧(aQ T)[k]? =some (id,nm,j):=by
 have hmem:((id,nm,j):iw)∈aQ T:=(jY h.sorted).2 ⟨x,hx,eD hn⟩
 cases hf:(aQ T).findIdx? (fJ id nm)with
 |none=>
  rw[List.findIdx?_eq_none_iff]at hf
  have:=hf _ hmem
  simp[fJ]at this
 |some k=>
  refine⟨k,by simp[mI,hf],?_⟩
  rw[List.findIdx?_eq_some_iff_getElem]at hf
  obtain⟨hk,hp,_⟩:=hf
  have h1:(aQ T)[k]? =some (aQ T)[k]:=List.getElem?_eq_getElem hk
  obtain⟨e,he⟩:∃e,e=(aQ T)[k]:=⟨_,rfl⟩
  have hm:=List.getElem_mem hk
  rw[←he]at h1 hp hm
  simp only[fJ,decide_eq_true_eq]at hp
  obtain⟨y,hy,hm2⟩:=(jY h.sorted).1 hm
  rw[hp.1,hx]at hy
  cases hy
  have h3:=bL Ac (h.get hx) hm2
  rw[hp.2,hn]at h3
  rw[h1]
  congr 1
  exact Prod.ext hp.1 (Prod.ext hp.2 (Option.some.inj h3).symm)
theorem uU.put {T:aI} (h:uU T) {d:Int} {x:bf} {n:Nm} (hx:aF d T=some x) (hn:aF n x.names=none) (hf:(aQ T).length≤4096) (id:Int):uU (setName T d n id):=by
 refine⟨jd _ _ h.sorted,fun q hq=> ?_,by unfold setName;rw[fD];exact h.len,?_⟩
 ·rcases rM hq with h1|⟨p,hp,_,rfl⟩
  ·exact h.names q h1
  ·exact(h.names p hp).bP Ac _ _
 ·rw[←wm h.sorted hx (h.get hx) hn,Bh]
  omega
theorem cu.val {F:Nat→Prop} {w w':World} {r:Nat} {T:aI} {D:List (List UInt8)} {E:List iw} {v:Value} {e:Ending} (h:cu F w r T D E v e w') (v2:Value):cu F w r T D E v2 (.returned v2) w':=⟨rfl,h.2.1,h.2.2⟩
section
variable {F:Nat→Prop} {r:Nat} {T:aI}
theorem M7 (d:Int) (nm:Nm) (j:Int) (x:bf) (w:World) (h:jr F w r T) (hL:uU T) (hx:aF d T=some x) (hn:aF nm x.names=some j):
  ∃k:Nat,mI (fJ d nm) (aQ T)=k∧Calls Tryz.prog 69 #[ptr r, .int .i64 k] w (dJ F w r (aU T d nm) (.tuple #[])):=by
 obtain⟨k,hk,he⟩:=Ey hL hx hn
 refine⟨k,hk,(Ew k w h (List.getElem?_eq_some_iff.1 he).1 (by have:=hL.few;omega)).mono fun e w' ht=> ?_⟩
 have h1:(aQ T).take k++(aQ T).drop (k+1)=aQ (aU T d nm):=by
  rw[qB (p:=fJ d nm) he (by simp[fJ]) (Db hL.sorted hL.names d nm),wB]
 rw[h1]at ht
 refine⟨ht.1,ht.2.1,?_⟩
 have:=ht.2.2.names (T':=aU T d nm) (fD _ _ _) (qC (id:=d) (f:=fun x=>{x with names:=bK nm x.names}) (fun _=>rfl) T)
 unfold aU at this⊢
 rw[ni (fun _=>by exact rfl)]
 exact this
theorem Ez (d:Int) (nm:Nm) (id:Int) (x:bf) (w:World) (h:jr F w r T) (hL:uU T) (hx:aF d T=some x) (hn:aF nm x.names=none):
  Calls Tryz.prog 65 #[ptr r, .int .i64 d, .string (strOf nm), .int .i64 id] w (dJ F w r (setName T d nm id) (.tuple #[])):=by
 refine(M6 d nm id w h (by have:=hL.few;omega)).mono fun e w' ht=> ?_
 rw[wm hL.sorted hx (hL.get hx) hn]at ht
 refine⟨ht.1,ht.2.1,?_⟩
 have:=ht.2.2.names (T':=setName T d nm id) (fD _ _ _) (qC (id:=d) (f:=fun x=>{x with names:=bP bytesBefore nm id x.names}) (fun _=>rfl) T)
 unfold setName at this⊢
 rw[ni (fun _=>by exact rfl)]
 exact this
theorem sV (id Dh:Int) (x:bf) (w:World) (h:jr F w r T) (hL:uU T) (hx:aF id T=some x) (hb0: -1≤Dh∧Dh≤1) (hl0:0≤x.links∧x.links≤64):
  Calls Tryz.prog 74 #[ptr r, .int .i64 id, .int .i64 Dh] w (dJ F w r (aT id (fun x=>{x with links:=x.links+Dh}) T) (.tuple #[])):=by
 obtain⟨k,hk,hq⟩:=jw hL.sorted hx
 refine(Dg id Dh k (id,x) w h hL.len hk hq hb0 hl0).mono fun e w' ht=> ?_
 have h1:=mD (f:=fun x:bf=>{x with links:=x.links+Dh}) hL.sorted hq
 simp only at h1 ht
 rw[h1]at ht
 refine⟨ht.1,ht.2.1,?_⟩
 rw[ni (fun _=>by exact rfl),kV (fun _=>by exact rfl)]
 exact ht.2.2
theorem rO (id:Int) (x:bf) (w:World) (h:jr F w r T) (hs:aJ gL T) (hl:T.length≤64) (hx:aF id T=some x) (hn:x.names=[]):
  Calls Tryz.prog 70 #[ptr r, .int .i64 id] w (dJ F w r (bK id T) (.tuple #[])):=by
 obtain⟨k,hk,hq⟩:=jw hs hx
 refine(F4 id k w h hl (by rw[List.length_map]) hk (List.getElem?_eq_some_iff.1 hq).1).mono fun e w' ht=> ?_
 have h1:=PK hs hq
 simp only at h1
 rw[←List.map_take,←List.map_drop,←List.map_append,h1]at ht
 refine⟨ht.1,ht.2.1,?_⟩
 rw[Bb (fun q hq2 hid=>by
  have:=bL dD hs hq2
  rw[hid,hx]at this
  cases this
  exact hn)]
 exact ht.2.2
end
theorem nu (w:World) (cs:Array Value) (t:TypeId) (j:Nat):(w.alloc (.cells cs t)).cell? ⟨w.heap.size,j,none⟩=cs[j]? :=by
 have:=(MapKept.heap_alloc w (.cells cs t)).1
 unfold World.cell?
 simp only[this]
 rfl
section
variable {F:Nat→Prop} {r:Nat} {T:aI}
theorem dJ.no {w w':World} {v:Int} (h:jr F w r T) (hb:Below w.heap.size w w') {q:Int×aI} (hq:q=(v,T)):dJ F w r q.2 (.int .i64 q.1) (.returned (.int .i64 v)) w':=by
 rw[hq]
 exact cu.same h hb
end
theorem EA {id:Int}:∀{T:aI} {x:bf},aJ gL T→aF id T=some x→(aQ T).filter (fun e=>decide (e.1=id))=x.names.map fun e=>(id,e.1,e.2)
 |[],x,_,hx=>by cases hx
 |y::r,x,hs,hx=>by
  obtain⟨h1,h2⟩:=List.pairwise_cons.1 hs
  rw[eP]at hx
  rw[dA,List.filter_append]
  by_cases hy:y.1=id
  ·rw[if_pos hy]at hx
   cases hx
   have e1:(iY y).filter (fun e=>decide (e.1=id))=iY y:=by
    rw[List.filter_eq_self]
    intro e he
    obtain⟨z,_,rfl⟩:=List.mem_map.1 he
    simp[hy]
   have e2:(aQ r).filter (fun e=>decide (e.1=id))=[]:=by
    rw[List.filter_eq_nil_iff]
    intro e he
    obtain⟨q,hq,hk,_⟩:=zF he
    have:=h1 q hq
    simp only[decide_eq_true_eq]at this
    simp only[decide_eq_true_eq]
    omega
   rw[e1,e2,List.append_nil]
   unfold iY
   rw[hy]
  ·rw[if_neg hy]at hx
   have e1:(iY y).filter (fun e=>decide (e.1=id))=[]:=by
    rw[List.filter_eq_nil_iff]
    intro e he
    obtain⟨z,_,rfl⟩:=List.mem_map.1 he
    simp[hy]
   rw[e1,List.nil_append,EA h2 hx]
section
variable {F:Nat→Prop} {r:Nat} {T:aI}
end
end Go.Proofs.YtohpcppeajijnaaGreat
