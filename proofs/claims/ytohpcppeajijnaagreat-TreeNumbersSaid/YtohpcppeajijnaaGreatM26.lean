/- The reference: gone. The reference: links. -/
import Derived.Test.YtohpcppeajijnaaGreatM24
import Derived.Deep.CutBlock
import Derived.Deep.DeepCutAuto
namespace Go.Proofs.YtohpcppeajijnaaGreat
open Go.ChangeShapes Go.WideShapes Go.ChangeAt Go.RowKit
set_option linter.unusedVariables false
set_option linter.unusedSimpArgs false
theorem zC {F:Nat→Prop} {w w1:World} {b off n c k s:Nat} {vs:List Value} (h:ak F w (some ⟨b,off,none⟩) (n*s) vs) (hk:k<n) (hb:Below w.heap.size w w1):
  ak F w1 (some ⟨b,off,none⟩) (k*s) (vs.take (k*s))∧ak F w1 (if c=k+1 then some ⟨b,off,none⟩else some ⟨b,off+(k+1)*s,none⟩) ((n-(k+1))*s) (vs.drop ((k+1)*s))∨c<n:=by
 by_cases hcn:c<n
 ·exact .inr hcn
 ·left
  have h1:=h.below hb (Nat.le_refl _)
  have h2:=h1.take (k*s)
  have hks:k*s≤n*s:=Nat.mul_le_mul_right s (by omega)
  rw[Nat.min_eq_right hks]at h2
  have h4:=h1.drop ((k+1)*s)
  rw[←Nat.sub_mul]at h4
  refine⟨h2,?_⟩
  by_cases hce:c=k+1
  ·rw[if_pos hce]
   have hl:=h.length
   have hkn:k+1=n:=by omega
   exact ak.zero _ _ _ (by rw[show n-(k+1)=0 by omega,Nat.zero_mul]) (by rw[hkn];exact List.drop_of_length_le (by omega))
  ·rw[if_neg hce];exact h4
theorem eB {w:World} {r:Nat} {x0 x1 x2:Value} (h1:w.heap[r]? =some (.cells #[x0,x1,x2] 102 (0,0))):w.cell? ⟨r,0,none⟩=some x0∧w.cell? ⟨r,1,none⟩=some x1∧w.cell? ⟨r,2,none⟩=some x2∧∀j,w.frozen? ⟨r,j,none⟩=false:=by
 refine⟨?_,?_,?_,fun j=> ?_⟩<;>simp[World.cell?,World.frozen?,h1]
section
variable {F:Nat→Prop} {r:Nat} {T:aH} {D:List (List UInt8)} {E:List iF}
set_option maxRecDepth 100000 in
set_option maxHeartbeats 8000000 in
theorem D7 (id:Int) (k:Nat) (w:World) (h:fT F w r T D E) (hl:T.length≤64) (hD:D.length=T.length) (hi:lU (lH id) T=k) (hk:k<T.length):
  Calls Tryz.prog 70 #[ptr r, .int .i64 id] w (dh F w r (T.take k++T.drop (k+1)) (D.take k++D.drop (k+1)) E (.tuple #[])):=by
 obtain⟨i6,a6,b6,s6,d6⟩:=info_parts nodeInfo
 have fD:=Lib.hid (And.intro a6 (And.intro b6 (And.intro s6 d6)))
 obtain⟨i1,a1,b1,s1,d1⟩:=info_parts qN
 have HI1:=Lib.hid (And.intro a1 (And.intro b1 (And.intro s1 d1)))
 have HAT:=Lib.hid (o_ id w h hl)
 rw[hi]at HAT
 have HH:=Lib.hid h
 obtain⟨aN,cN,aD,cD,aE,cE,h1,h2,h3,h4,h8,h9,h10,h11⟩:=h.head
 obtain⟨vs,hv,hrow⟩:=h9
 obtain⟨bN,oN,rfl,OT,hbN,-,-⟩:=h8.wide dM rfl (List.getElem?_eq_getElem hk) (by omega)
 obtain⟨bD,oD,rfl,W_,hbD,-⟩:=hv.at_ (by omega)
 have hlv:=hv.length
 have hrw:=h.low r h.own
 have HE:=Lib.hid (Each.cut (F:=Off F r) (w:=w) (vs:=vs) (bs:=D) hrow hlv k (by omega))
 have nN:=Lib.hid (And.intro (fun u hu=>Each.one (F:=Off F r) (w:=w) hrow hlv u (List.mem_of_mem_take hu):∀u∈vs.take k,u.oneCell'=true) (fun u hu=>Each.one (F:=Off F r) (w:=w) hrow hlv u (List.mem_of_mem_drop hu):∀u∈vs.drop (k+1),u.oneCell'=true))
 have Xa:(T.take k++T.drop (k+1)).length=k+(T.length-(k+1)):=by simp;omega
 have Xb:(D.take k++D.drop (k+1)).length=k+(T.length-(k+1)):=by simp;omega
 rw[hD]at h1 h3 hv hlv
 generalize hn:T.length=n at*
 have Cx:=Lib.hid Xa
 have OU:=Lib.hid Xb
 obtain⟨p0,p1,p2,pf⟩:=eB h1
 have nM:=Lib.hid h1
 have HV:=Lib.hid hv
 have mV:Hid (∀w1,Below w.heap.size w w1→w1.cell? ⟨r,0,none⟩=some (.slice (some ⟨bN,oN,none⟩) n cN)∧w1.frozen? ⟨r,0,none⟩=false):=fun w1 hb=>⟨by rw[hb.cell (p:=⟨r,0,none⟩) hrw];exact p0,by rw[hb.frozen (p:=⟨r,0,none⟩) hrw];exact pf 0⟩
 have yE:Hid (∀w1,Below w.heap.size w w1→ak (Off F r) w1 (some ⟨bN,oN,none⟩) (k*6) ((T.take k).flatMap bV)∧ak (Off F r) w1 (if cN=k+1 then some ⟨bN,oN,none⟩else some ⟨bN,oN+(k+1)*6,none⟩) ((n-(k+1))*6) ((T.drop (k+1)).flatMap bV)):=fun w1 hb=>by
  have:=(zC (c:=cN) h8 hk hb).resolve_right (by omega)
  rwa [jR bV 6 dM,jS bV 6 dM]at this
 have YR:Hid (n≤cD):=h3
 have i0:(0:Int)≤k:=by omega
 have R8:(k:Int)≤cN:=by omega
 have i2:(k:Int)+1≤n:=by omega
 have i3:(0:Int)≤(k:Int)+1:=by omega
 have i4:(n:Int)≤cN:=by omega
 have i5:(k:Int)≤cD:=by omega
 have Xc:(n:Int)≤cD:=by omega
 have e1:IntKind.i64.wrap ((k:Int)+1)=(k:Int)+1:=IntWalk.i64_in _ (by omega)
 clear a6 b6 s6 d6 a1 b1 s1 d1 hrow hv Xa Xb h1 h8 h10 h11 hD hi hn h hlv p0 p1 p2 pf
 go_enter Tryz.func70,Tryz.ntmps70
 go_wp2_with fail
 (with_reducible refine HAT.out.mono ?_)
 rintro e w' ⟨rfl,rfl⟩
 go_upto_region 1 with(fail)
 go_cut [] (fun wx=>bL w r (.slice (some ⟨bD,oD,none⟩) n cD) (.slice aE E.length cE) (T.take k++T.drop (k+1)) wx)
 case first=>
  go_wp2
  refine wp_region_noPanic ?_
  refine bW (last:=19) (S:=(fun w'=>w'.cell? ⟨r,0,none⟩=some (.slice (some ⟨bN,oN,none⟩) n cN)∧w'.frozen? ⟨r,0,none⟩=false)) (by kernel_rfl) ?_ (fun hS=> ?_)
  ·exact mV.out _ (Below.refl _ _).drew
  refine aT 0 (hS:=hS) (h:= ?_)
  refine aT 2 (hS:=hS) (h:= ?_)
  refine aT 3 (hS:=hS) (h:= ?_)
  refine aT 4 (hS:=hS) (h:= ?_)
  refine aT 5 (hS:=hS) (h:= ?_)
  refine aT 6 (hS:=hS) (h:= ?_)
  refine aT 7 (hS:=hS) (h:= ?_)
  refine aT 9 (hS:=hS) (h:= ?_)
  refine aT 10 (hS:=hS) (h:= ?_)
  refine aT 11 (hS:=hS) (h:= ?_)
  refine aT 12 (hS:=hS) (h:= ?_)
  refine aT 13 (hS:=hS) (h:= ?_)
  refine aT 14 (hS:=hS) (h:= ?_)
  refine aT 15 (hS:=hS) (h:= ?_)
  refine jF 1 (h:=fun K hK=> ?_)
  go_simp
  refine hK.out _ _ (fun _=>mV.out _ ((Below.refl _ _).drew.alloc (Nat.le_refl _) _)) (fun hS=> ?_)
  replace hS:=hS (by decide)
  clear hK K
  try simp only[Act.put,List.setIfInBounds_toArray,List.set_cons_zero,List.set_cons_succ]
  refine au (rs:=[8]) (by kernel_rfl) (by simp) ?_
  refine ah.cons (o:= ?o1) ?ho1 (fun K hK=> ?_) ah.nil
  case ho1=>simp only[List.getElem?_toArray,List.getElem?_cons_succ,List.getElem?_cons_zero];rfl
  refine av (by rfl) (.tmp 9) (.tmp 15) 99 (by rfl) w.heap.size 98 _ _ 6 48 Tryz.underlying99 fD.out.1 fD.out.2.1 fD.out.2.2.1 fD.out.2.2.2 rfl (by omega) _ 0 [] (by rfl) (dB (MapKept.heap_alloc w.drew _).1 (Nat.le_refl _)) _ k _ ((T.take k).flatMap bV) (by rfl) (yE.out _ ((Below.refl _ _).drew.alloc (Nat.le_refl _) _)).1 (dI _) (by unfold maxLen;omega) (by omega) (by simp) ?_
  intro A1 c1 u1 hown1 hb1
  have hB1:Below w.heap.size w u1:=((Below.refl _ _).drew.alloc (Nat.le_refl _) _).trans hb1
  refine hK.out _ _ (fun _=>mV.out _ hB1) (fun hS=> ?_)
  replace hS:=hS (by decide)
  clear hK K
  try simp only[Act.put,List.setIfInBounds_toArray,List.set_cons_zero,List.set_cons_succ]
  refine au (rs:=[16]) (by kernel_rfl) (by simp) ?_
  refine ah.cons (o:= ?o2) ?ho2 (fun K hK=> ?_) ah.nil
  case ho2=>simp only[List.getElem?_toArray,List.getElem?_cons_succ,List.getElem?_cons_zero];rfl
  refine av (by rfl) (.tmp 16) (.tmp 23) 99 (by rfl) w.heap.size 98 _ _ 6 48 Tryz.underlying99 fD.out.1 fD.out.2.1 fD.out.2.2.1 fD.out.2.2.2 rfl (by omega) _ _ _ (by rfl) hown1 _ (n-(k+1)) _ ((T.drop (k+1)).flatMap bV) (by rfl) (yE.out _ hB1).2 (dI _) (by unfold maxLen;omega) (by omega) hB1.size ?_
  intro A2 c2 u2 hown2 hb2
  have hB2:Below w.heap.size w u2:=hB1.trans hb2
  refine hK.out _ _ (fun _=>mV.out _ hB2) (fun hS=> ?_)
  replace hS:=hS (by decide)
  clear hK K
  try simp only[Act.put,List.setIfInBounds_toArray,List.set_cons_zero,List.set_cons_succ]
  refine aT 17 (hS:=hS) (h:= ?_)
  refine aT 18 (hS:=hS) (h:= ?_)
  refine jF 19 (h:=fun K hK=> ?_)
  go_simp
  refine hK.out _ _ (fun h=>absurd rfl h) (fun hS=> ?_)
  clear hS hK K
  try simp only[Act.put,List.setIfInBounds_toArray,List.set_cons_zero,List.set_cons_succ]
  refine aV (by kernel_rfl) ?_ _
  refine NoPanic.normal ?_
  go_wp2_with fail
  all_goals (
   go_meet
   have hl:=Cx.out
   have e5:0+k+(n-(k+1))=(T.take k++T.drop (k+1)).length:=by omega
   obtain⟨-,hcc,-,hrow2⟩:=kP (w:=w) hown2 (by unfold maxLen;omega) (Nat.le_refl _)
   rw[List.nil_append,←List.flatMap_append,e5]at hrow2
   rw[e5]at hcc
   have:=bL.Mt hrw nM.out hB2 hcc hrow2 (jq hown2)
   rw[hl]at this
   exact this)
 case rest=>
  obtain⟨w1,rfl⟩:∃w1:World,w1=wc:=⟨_,rfl⟩
  have HM:=Lib.hid hcut
  obtain⟨hK,-,aM,cM,h5,-,-,-⟩:=hcut
  obtain⟨p0,p1,p2,pf⟩:=eB h5
  have hs1:=hK.size
  have hr1:r<w1.heap.size:=by omega
  have hv1:ak (Off (Grow F w w1) r) w1 (some ⟨bD,oD,none⟩) (n*1) vs:=by rw[Nat.mul_one];exact lN hK HV.out
  have NZ:=Lib.hid hK
  have lV:Hid (∀w2,Below w1.heap.size w1 w2→w2.cell? ⟨r,1,none⟩=some (.slice (some ⟨bD,oD,none⟩) n cD)∧w2.frozen? ⟨r,1,none⟩=false):=fun w2 hb=>⟨by rw[hb.cell (p:=⟨r,1,none⟩) hr1];exact p1,by rw[hb.frozen (p:=⟨r,1,none⟩) hr1];exact pf 1⟩
  have qo:Hid (∀w2,Below w1.heap.size w1 w2→ak (Off (Grow F w w1) r) w2 (some ⟨bD,oD,none⟩) (k*1) (vs.take k)∧ak (Off (Grow F w w1) r) w2 (if cD=k+1 then some ⟨bD,oD,none⟩else some ⟨bD,oD+(k+1),none⟩) ((n-(k+1))*1) (vs.drop (k+1))):=fun w2 hb=>by
   have:=(zC (c:=cD) hv1 hk hb).resolve_right (by have:=YR.out;omega)
   rw[Nat.mul_one,Nat.mul_one]at this
   simpa only[Nat.mul_one]using this
  clear hK h5 p0 p1 p2 pf hv1
  go_wp2
  refine wp_region_noPanic ?_
  refine bW (last:=19) (S:=(fun w'=>w'.cell? ⟨r,1,none⟩=some (.slice (some ⟨bD,oD,none⟩) n cD)∧w'.frozen? ⟨r,1,none⟩=false)) (by kernel_rfl) ?_ (fun hS=> ?_)
  ·exact lV.out _ (Below.refl _ _).drew
  refine aT 0 (hS:=hS) (h:= ?_)
  refine aT 2 (hS:=hS) (h:= ?_)
  refine aT 3 (hS:=hS) (h:= ?_)
  refine aT 4 (hS:=hS) (h:= ?_)
  refine aT 5 (hS:=hS) (h:= ?_)
  refine aT 6 (hS:=hS) (h:= ?_)
  refine aT 7 (hS:=hS) (h:= ?_)
  refine aT 9 (hS:=hS) (h:= ?_)
  refine aT 10 (hS:=hS) (h:= ?_)
  refine aT 11 (hS:=hS) (h:= ?_)
  refine aT 12 (hS:=hS) (h:= ?_)
  refine aT 13 (hS:=hS) (h:= ?_)
  refine aT 14 (hS:=hS) (h:= ?_)
  refine aT 15 (hS:=hS) (h:= ?_)
  refine jF 1 (h:=fun K hK=> ?_)
  go_simp
  refine hK.out _ _ (fun _=>lV.out _ ((Below.refl _ _).drew.alloc (Nat.le_refl _) _)) (fun hS=> ?_)
  replace hS:=hS (by decide)
  clear hK K
  try simp only[Act.put,List.setIfInBounds_toArray,List.set_cons_zero,List.set_cons_succ]
  refine au (rs:=[8]) (by kernel_rfl) (by simp) ?_
  refine ah.cons (o:= ?o3) ?ho3 (fun K hK=> ?_) ah.nil
  case ho3=>simp only[List.getElem?_toArray,List.getElem?_cons_succ,List.getElem?_cons_zero];rfl
  refine av (by rfl) (.tmp 28) (.tmp 34) 86 (by rfl) w1.heap.size 39 _ _ 1 24 Tryz.underlying86 HI1.out.1 HI1.out.2.1 HI1.out.2.2.1 HI1.out.2.2.2 rfl (by omega) _ 0 [] (by rfl) (dB (MapKept.heap_alloc w1.drew _).1 (Nat.le_refl _)) _ k _ (vs.take k) (by rfl) (qo.out _ ((Below.refl _ _).drew.alloc (Nat.le_refl _) _)).1 nN.out.1 (by unfold maxLen;omega) (by omega) (by simp) ?_
  intro A1 c1 u1 hown1 hb1
  have hB1:Below w1.heap.size w1 u1:=((Below.refl _ _).drew.alloc (Nat.le_refl _) _).trans hb1
  refine hK.out _ _ (fun _=>lV.out _ hB1) (fun hS=> ?_)
  replace hS:=hS (by decide)
  clear hK K
  try simp only[Act.put,List.setIfInBounds_toArray,List.set_cons_zero,List.set_cons_succ]
  refine au (rs:=[16]) (by kernel_rfl) (by simp) ?_
  refine ah.cons (o:= ?o4) ?OQ (fun K hK=> ?_) ah.nil
  case OQ=>simp only[List.getElem?_toArray,List.getElem?_cons_succ,List.getElem?_cons_zero];rfl
  refine av (by rfl) (.tmp 35) (.tmp 42) 86 (by rfl) w1.heap.size 39 _ _ 1 24 Tryz.underlying86 HI1.out.1 HI1.out.2.1 HI1.out.2.2.1 HI1.out.2.2.2 rfl (by omega) _ _ _ (by rfl) hown1 _ (n-(k+1)) _ (vs.drop (k+1)) (by rfl) (qo.out _ hB1).2 nN.out.2 (by unfold maxLen;omega) (by omega) hB1.size ?_
  intro A2 c2 u2 hown2 hb2
  have hB2:Below w1.heap.size w1 u2:=hB1.trans hb2
  refine hK.out _ _ (fun _=>lV.out _ hB2) (fun hS=> ?_)
  replace hS:=hS (by decide)
  clear hK K
  try simp only[Act.put,List.setIfInBounds_toArray,List.set_cons_zero,List.set_cons_succ]
  refine aT 17 (hS:=hS) (h:= ?_)
  refine aT 18 (hS:=hS) (h:= ?_)
  refine jF 19 (h:=fun K hK=> ?_)
  go_simp
  refine hK.out _ _ (fun h=>absurd rfl h) (fun hS=> ?_)
  clear hS hK K
  try simp only[Act.put,List.setIfInBounds_toArray,List.set_cons_zero,List.set_cons_succ]
  refine aV (by kernel_rfl) ?_ _
  refine NoPanic.normal ?_
  go_wp2
  all_goals (
   go_end0
   have hl:=OU.out
   have e5:0+k+(n-(k+1))=(D.take k++D.drop (k+1)).length:=by omega
   obtain⟨-,hcc,-,hrow2⟩:=kP (w:=w) hown2 (by unfold maxLen;omega) hs1
   rw[List.nil_append,Nat.mul_one,e5]at hrow2
   rw[e5]at hcc
   have:=fT.xC HH.out nM.out HM.out hB2 hcc hrow2 (HE.out.move (by have:=hB2.size;omega) fun b hb hbw=>⟨⟨.inl hb.1,hb.2⟩,(hB2.block b (by omega)).trans (NZ.out.block b hbw hb.2)⟩) (.tuple #[])
   rw[hl]at this
   exact this)
end
theorem bL.facts {w wx:World} {r:Nat} {x1 x2:Value} {T:aH} (h:bL w r x1 x2 T wx) {k:Nat} {q:Int×bF} (hq:T[k]? =some q):∃g off c,wx.cell? ⟨r,0,none⟩=some (.slice (some ⟨g,off,none⟩) T.length c)∧wx.cell? ⟨r,1,none⟩=some x1∧wx.cell? ⟨r,2,none⟩=some x2∧T.length≤c∧(∀j,wx.frozen? ⟨r,j,none⟩=false)∧g≠r∧w.heap.size≤g∧g<wx.heap.size∧r<wx.heap.size∧(∀j,wx.frozen? ⟨g,j,none⟩=false)∧
  (wx.cell? ⟨g,off+k*6,none⟩=some (.int .i64 q.1)∧wx.cell? ⟨g,off+k*6+1,none⟩=some (.int .i64 q.2.kind)∧wx.cell? ⟨g,off+k*6+2,none⟩=some (.int .i64 q.2.links)∧wx.cell? ⟨g,off+k*6+3,none⟩=some (.int .i64 q.2.b.length)∧wx.cell? ⟨g,off+k*6+4,none⟩=some (.int .u64 q.2.aQ)∧wx.cell? ⟨g,off+k*6+5,none⟩=some (.bool q.2.closed)):=by
 obtain⟨hK,hr,a,c,h2,h3,h4,hp⟩:=h
 obtain⟨g,off,rfl,hF,hb,hi,hc⟩:=h4.wide dM rfl hq (by omega)
 obtain⟨p0,p1,p2,pf⟩:=eB h2
 have:=hF.1
 have hs:=hK.size
 exact⟨g,off,c,p0,p1,p2,h3,pf,by omega,hF.1,hb,by omega,hp.frozen,hc 0 (by omega),hc 1 (by omega),hc 2 (by omega),hc 3 (by omega),hc 4 (by omega),hc 5 (by omega)⟩
section
variable {F:Nat→Prop} {r:Nat} {T:aH} {D:List (List UInt8)} {E:List iF}
set_option maxRecDepth 100000 in
set_option maxHeartbeats 8000000 in
theorem Bg (id Bh:Int) (k:Nat) (q:Int×bF) (w:World) (h:fT F w r T D E) (hl:T.length≤64) (hi:lU (lH id) T=k) (hq:T[k]? =some q) (hb0: -1≤Bh∧Bh≤1) (hl0:0≤q.2.links∧q.2.links≤64):
  Calls Tryz.prog 74 #[ptr r, .int .i64 id, .int .i64 Bh] w (dh F w r (T.set k (q.1,{q.2 with links:=q.2.links+Bh})) D E (.tuple #[])):=by
 obtain⟨i6,a6,b6,s6,d6⟩:=info_parts nodeInfo
 have fD:=Lib.hid (And.intro a6 (And.intro b6 (And.intro s6 d6)))
 have hk:k<T.length:=(List.getElem?_eq_some_iff.1 hq).1
 have HAT:=Lib.hid (o_ id w h hl)
 rw[hi]at HAT
 have HH:=Lib.hid h
 have HQ:=Lib.hid hq
 obtain⟨aN,cN,aD,cD,aE,cE,h1,h2,h3,h4,h8,h9,h10,h11⟩:=h.head
 obtain⟨bN,oN,rfl,OT,hbN,-,-⟩:=h8.wide dM rfl hq (by omega)
 have hrw:=h.low r h.own
 obtain⟨p0,p1,p2,pf⟩:=eB h1
 have nM:=Lib.hid h1
 have Fa:=Lib.hid h8
 obtain⟨n,hn⟩:∃n,n=T.length:=⟨_,rfl⟩
 rw[←hn]at p0 hl hk h2 Fa
 have gW:=Lib.hid hn
 have hf0:=pf 0
 have hfp:=OT.2
 have i0:(0:Int)≤k:=by omega
 have i2:(k:Int)<n:=by omega
 have e1:IntKind.i64.wrap (q.2.links+Bh)=q.2.links+Bh:=IntWalk.i64_in _ (by omega)
 clear a6 b6 s6 d6 h1 h8 h9 h10 h11 hi h hq hn p1 p2 pf OT
 go_enter Tryz.func74,Tryz.ntmps74
 go_wp2_with fail
 (with_reducible refine HAT.out.mono ?_)
 rintro e w' ⟨rfl,rfl⟩
 go_upto_region 1 with(fail)
 go_cut [] (fun wx=>bL w r (.slice aD D.length cD) (.slice aE E.length cE) T wx)
 case first=>
  go_wp2_with ((at_builtin;refine eY rfl _ _ 99 rfl w.heap.size 98 _ _ 6 48 Tryz.underlying99 fD.out.1 fD.out.2.1 fD.out.2.2.1 fD.out.2.2.2 rfl (by omega) _ 0 [] rfl (dB (MapKept.heap_alloc w _).1 (Nat.le_refl _)) _ n _ (T.flatMap bV) rfl (Fa.out.below ((Below.refl _ _).alloc (Nat.le_refl _) _) (Nat.le_refl _)) (dI _) (by unfold maxLen;omega) (by omega) (by simp) ?_;intro A1 c1 w1 hown1 hb1;have hB1:=((Below.refl w.heap.size w).alloc (Nat.le_refl _) _).trans hb1;have hf1:w1.frozen? ⟨r,0,none⟩=false:=(hB1.frozen (p:=⟨r,0,none⟩) hrw).trans hf0;have hc1:=(hB1.cell (p:=⟨r,0,none⟩) hrw).trans p0))
  go_meet
  obtain⟨-,hcc,-,hrow2⟩:=kP (w:=w) hown1 (by unfold maxLen;omega) (Nat.le_refl _)
  have hn:=gW.out
  rw[List.nil_append,Nat.zero_add,hn]at hrow2
  rw[Nat.zero_add,hn]at hcc
  have:=bL.Mt hrw nM.out hB1 hcc hrow2 (jq hown1)
  rw[←hn]at this
  exact this
 case rest=>
  obtain⟨w1,rfl⟩:∃w1:World,w1=wc:=⟨_,rfl⟩
  obtain⟨g,off,c,q0,-,-,hlc,qf,hgr,hg1,hg2,hr1,gf,c0,-,c2,-,-,-⟩:=hcut.facts HQ.out
  rw[←gW.out]at q0
  have E_:=gf (off+k*6+2)
  have HM:=Lib.hid hcut
  have MQ:=Lib.hid q0
  clear hcut c0 qf gf hlc
  go_wp2
  refine wp_region_noPanic ?_
  refine bW (last:=17) (S:=(fun w'=>w'.cell? ⟨r,0,none⟩=some (.slice (some ⟨g,off,none⟩) n c)∧w'.cell? ⟨g,off+k*6+2,none⟩=some (.int .i64 q.2.links)∧w'.frozen? ⟨g,off+k*6+2,none⟩=false)) (by kernel_rfl) ?_ (fun hS=> ?_)
  ·exact⟨q0,c2,E_⟩
  refine aT 0 (hS:=hS) (h:= ?_)
  refine aT 1 (hS:=hS) (h:= ?_)
  refine aT 2 (hS:=hS) (h:= ?_)
  refine aT 3 (hS:=hS) (h:= ?_)
  refine aT 4 (hS:=hS) (h:= ?_)
  refine aT 5 (hS:=hS) (h:= ?_)
  refine aT 6 (hS:=hS) (h:= ?_)
  refine aT 7 (hS:=hS) (h:= ?_)
  refine aT 8 (hS:=hS) (h:= ?_)
  refine aT 9 (hS:=hS) (h:= ?_)
  refine aT 10 (hS:=hS) (h:= ?_)
  refine aT 11 (hS:=hS) (h:= ?_)
  refine aT 12 (hS:=hS) (h:= ?_)
  refine aT 13 (hS:=hS) (h:= ?_)
  refine aT 14 (hS:=hS) (h:= ?_)
  refine aT 15 (hS:=hS) (h:= ?_)
  refine aT 16 (hS:=hS) (h:= ?_)
  refine jF 17 (h:=fun K hK=> ?_)
  go_simp
  refine hK.out _ _ (fun h=>absurd rfl h) (fun hS=> ?_)
  clear hS hK K
  try simp only[Act.put,List.setIfInBounds_toArray,List.set_cons_zero,List.set_cons_succ]
  refine aV (by kernel_rfl) ?_ _
  refine NoPanic.normal ?_
  go_wp2
  go_end0
  have h0:=MQ.out
  rw[gW.out]at h0
  have:=fT.nu HH.out nM.out (bL.gX HM.out h0 (k:=k) (j:=2) (q':=(q.1,{q.2 with links:=q.2.links+Bh})) (v:= .int .i64 (q.2.links+Bh)) HQ.out (by omega) rfl) (.tuple #[])
  rw[←Nat.add_assoc]at this
  exact this.then_ HH.out.low (Below.refl _ _).drew
end
end Go.Proofs.YtohpcppeajijnaaGreat
