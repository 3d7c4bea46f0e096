/- package snap: Take. package state: free. package snap: Get. A block that is laid anew as a whole; a struct result that lies in a variable. package state: operations and replies in memory; read. -/
import Derived.Test.YtmabllemjkcobaaGreatDoorM23
import Derived.Test.YtmabllemjkcobaaGreatDoorM27
import Derived.Test.YtmabllemjkcobaaGreatDoorM19
import Derived.Test.YtmabllemjkcobaaGreatDoorM24
import Derived.Test.YtmabllemjkcobaaGreatDoorM03
import Derived.Laws.Tables
import Derived.Laws.Rows
import Derived.Test.YtmabllemjkcobaaGreatDoorM26
namespace Go.Proofs.YtmabllemjkcobaaGreatDoor
open Go.ChangeShapes Go.WideShapes Go.ChangeAt Go.RowKit
set_option linter.unusedVariables false
set_option linter.unusedSimpArgs false
def iw (S:nQ) (T:aK):(Int×Int)×nQ:=
 if 8≤S.l.length then((0,4),S)else
 ((S.next,0),⟨S.l++[⟨S.next,qO (S.last++gD (bS T)),bS T⟩],S.next+1,qO (S.last++gD (bS T))⟩)
theorem yc {T:aK} (hT:dI T):(gD T).length≤6000000:=by
 have h1:=oL hT T (fun q hq=>hq)
 have h2:=hT.len
 unfold gD
 rw[List.length_append,bP]
 omega
section
variable {W w:World} {o:Mark} {i j s p:Nat} {S:nQ} {T:aK}
open Classical in
theorem M4 {w9:World} {v v8:Value} {vals:List Value} {x:jJ} {a9:Option Addr} {c9 q:Nat} (hM:Marks W o w) (hi:i≠0) (hos:o s=i) (hsw:s<w.heap.size) (T_:∀b,v.ownBlock=some b→o b=i∧b≠s∧b<w.heap.size)
  (hO:dh o w vals S.l) (hh:w9.heap[s]? =some (.cells #[v8, .int .i64 (S.next+1), .slice a9 x.hash.length c9] 101 (0,0))) (hown:w9.ownsRow 0 105 3 v8 (S.l.length+1) (vals++[.int .i64 x.id, .slice a9 x.hash.length c9,ptr q]))
  (hat:v8.ownBlock=v.ownBlock∨∃b,v8.ownBlock=some b∧w.heap.size≤b) (hK:Keeps (fun b=>b=s∨v.ownBlock=some b) w w9)
  (KY:x.hash.length≤c9) (PW:aj (fun b=>w.heap.size≤b∧b<w9.heap.size∧v8.ownBlock≠some b) w9 a9 x.hash.length (x.hash.map bv)) (hq:∃g D mb ib nb,aC g D w9 q mb ib nb x.t∧∀b,g b≠ .none∨D b→o b=0∧v8.ownBlock≠some b) (hT:dI x.t):
  ∃o',Step o (fun k=>k=i) w o' w9∧dR o' i w9 s ⟨S.l++[x],S.next+1,x.hash⟩:=by
 obtain⟨o',ho⟩:∃o':Mark,∀b,o' b=if v8.ownBlock=some b∧w.heap.size≤b then i else o b:=⟨_,fun _=>rfl⟩
 have M5:∀b,v8.ownBlock=some b→b<w9.heap.size:=dY hown
 have hst:Step o (fun k=>k=i) w o' w9:=by
  refine⟨fun b hb=>by rw[ho,if_neg (fun h=>by omega)],fun b hb hn=> ?_,hK.mono fun b hb h=> ?_⟩
  ·by_cases h:v8.ownBlock=some b∧w.heap.size≤b
   ·rw[ho,if_pos h];exact⟨rfl,M5 b h.1⟩
   ·rw[ho,if_neg h]at hn;have:=(hM.new b hn).2;omega
  ·rcases h with h|h
   ·rw[h];exact hos
   ·exact(T_ b h).1
 have hi0:¬(fun k=>k=i) 0:=fun e=>hi e.symm
 have hfree:∀b,o b=0→v8.ownBlock≠some b→o' b=0:=fun b h0 hn=>by rw[ho,if_neg (fun h=>hn h.1)];exact h0
 have H7:∀b,w.heap.size≤b→o b=0:=fun b hb=>Decidable.byContradiction fun h0=>by have:=(hM.new b h0).2;omega
 have hrf:aj (fun b=>o' b=0∧b<w9.heap.size) w9 a9 x.hash.length (x.hash.map bv):=PW.mono fun b hb=>⟨hfree b (H7 b hb.1) hb.2.2,hb.2.1⟩
 refine⟨o',hst,⟨v8,a9,c9,vals++[.int .i64 x.id, .slice a9 x.hash.length c9,ptr q],hh,(hst.old s hsw).trans hos,Nat.lt_of_lt_of_le hsw hK.size,?_,fun b hb=> ?_,?_,KY,hrf⟩⟩
 ·rw[List.length_append];exact hown
 ·rcases hat with h1|⟨b',h1,h2⟩
  ·rw[h1]at hb
   obtain⟨k1,k2,k3⟩:=T_ b hb
   exact⟨(hst.old b k3).trans k1,k2,Nat.lt_of_lt_of_le k3 hK.size⟩
  ·rw[h1]at hb
   cases hb
   exact⟨by rw[ho,if_pos ⟨h1,h2⟩],by omega,M5 _ h1⟩
 ·refine dh.append (hO.step hi0 hst) ⟨_,[],by simp,⟨a9,c9,q,rfl,KY,hrf,?_,hT⟩,rfl⟩
  obtain⟨g,D,mb,ib,nb,hA,hg⟩:=hq
  exact⟨g,D,mb,ib,nb,hA,fun b hb=>hfree b (hg b (.inl hb)).1 (hg b (.inl hb)).2,fun b hb=>hfree b (hg b (.inr hb)).1 (hg b (.inr hb)).2⟩
set_option maxRecDepth 100000 in
set_option maxHeartbeats 8000000 in
theorem M6 (hS:dR o i w s S) (hTr:dN o j w p T) (hM:Marks W o w) (hi:i≠0) (hT:dI T) (wJ:S.l.length≤8) (hla:S.last.length≤64) (hnx:0≤S.next) (Z7:S.next≤1000000000):
  Calls Tryz.prog 17 #[ptr s,ptr p] w fun e w'=>e= .returned (.tuple #[.int .i64 (iw S T).1.1, .int .i64 (iw S T).1.2])∧∃o',Step o (fun k=>k=i) w o' w'∧dR o' i w' s (iw S T).2:=by
 have HS:=Lib.hid hS
 have HM:=Lib.hid hM
 obtain⟨v,la,lc,vals,h1,h2,h3,h4,h5,h6,h7,h8⟩:=hS.at_
 obtain⟨a,c,rfl,hcap⟩:=bF h4
 have q0:w.cell? ⟨s,0,none⟩=some (.slice a S.l.length c):=by simp[World.cell?,h1]
 by_cases hfull:8≤S.l.length
 ·have e1:iw S T=((0,4),S):=by unfold iw;rw[if_pos hfull]
  rw[e1]
  have hd:decide ((8:Int)≤(S.l.length:Int))=true:=by simp;omega
  obtain⟨n,hn⟩:∃n,n=S.l.length:=⟨_,rfl⟩
  rw[←hn]at q0 hd
  clear hS hM h1 h2 h4 h5 h6 h7 h8 hcap hfull e1 wJ hn hTr hT
  go_enter Tryz.func17,Tryz.ntmps17
  go_wp2_with fail
  go_ret2
  exact⟨rfl,o,Step.grow HM.out (Below.refl _ _),HS.out⟩
 ·have e1:iw S T=((S.next,0),⟨S.l++[⟨S.next,qO (S.last++gD (bS T)),bS T⟩],S.next+1,qO (S.last++gD (bS T))⟩):=by unfold iw;rw[if_neg hfull]
  rw[e1]
  have hd:decide ((8:Int)≤(S.l.length:Int))=false:=by simp;omega
  have q1:w.cell? ⟨s,1,none⟩=some (.int .i64 S.next):=by simp[World.cell?,h1]
  have q2:w.cell? ⟨s,2,none⟩=some (.slice la S.last.length lc):=by simp[World.cell?,h1]
  have HC:=Lib.hid (lI hTr hM hT)
  have HH:=Lib.hid h1
  have HOW:=Lib.hid h4
  have Pf:=Lib.hid h6
  have Z8:=Lib.hid h8
  have uw:=Lib.hid h7
  have YL:=Lib.hid h2
  have Vn:=Lib.hid h5
  have QA:=hT.bS
  have HTC:=Lib.hid QA
  have hsl:=yc QA
  obtain⟨n,hn⟩:∃n,n=S.l.length:=⟨_,rfl⟩
  obtain⟨m,hm⟩:∃m,m=S.last.length:=⟨_,rfl⟩
  obtain⟨nx,u_⟩:∃nx,nx=S.next:=⟨_,rfl⟩
  rw[←u_]at hnx Z7 q1
  rw[←hm]at q2 hla
  rw[←hn]at q0 hd hcap wJ
  have HN:=Lib.hid hn
  have Ju:=Lib.hid hm
  have Qx:=Lib.hid u_
  clear hS hM h1 h2 h4 h5 h6 h7 h8 hfull e1 hn hm hTr hT QA u_
  go_enter Tryz.func17,Tryz.ntmps17
  go_wp2_with fail
  (with_reducible refine HC.out.mono ?_)
  rintro e w1 ⟨q,rfl,hT1,hb1⟩
  have HT1:=Lib.hid hT1
  have HB1:=Lib.hid hb1
  have Dz:=Lib.hid (tQ (hT1.grow (Below.refl _ _).drew) HTC.out)
  have Wy:s<w1.heap.size:=by have:=hb1.size;omega
  have jl:Hid (∀w',Below w1.heap.size w1 w'→w'.cell? ⟨s,2,none⟩=some (.slice la m lc)∧w'.frozen? ⟨s,2,none⟩=false):=fun w' hb=>by
   have hbb:=(hb.block s Wy).trans ((hb1.block s h3).trans HH.out)
   refine⟨?_,by simp[World.frozen?,hbb]⟩
   rw[Ju.out]
   simp[World.cell?,hbb]
  have c0:=(hb1.cell (p:=⟨s,0,none⟩) h3).trans q0
  have c1:=(hb1.cell (p:=⟨s,1,none⟩) h3).trans q1
  obtain⟨sv,hsv⟩:∃sv,sv=gD (bS T):=⟨_,rfl⟩
  rw[←hsv]at Dz hsl
  have Z9:=Lib.hid hsv
  clear hT1 hb1 hsv q0 q1 q2
  go_wp2_with fail
  refine wp_region_noPanic ?_
  refine bH (last:=12) (S:=(fun w'=>w'.cell? ⟨s,2,none⟩=some (.slice la m lc)∧w'.frozen? ⟨s,2,none⟩=false)) (by kernel_rfl) ?_ (fun hS=> ?_)
  ·exact jl.out _ (Below.refl _ _).drew
  refine bf 0 (hS:=hS) (h:= ?_)
  refine bf 1 (hS:=hS) (h:= ?_)
  refine bf 2 (hS:=hS) (h:= ?_)
  refine bf 3 (hS:=hS) (h:= ?_)
  refine bf 4 (hS:=hS) (h:= ?_)
  refine bf 5 (hS:=hS) (h:= ?_)
  refine jF 6 (h:=fun K hK=> ?_)
  go_simp
  (with_reducible refine Dz.out.mono ?_)
  rintro e w2 ⟨a2,n2,c2,rfl,hn2,hr2,hb2⟩
  have FK:Below w1.heap.size w1 w2:=(Below.refl _ _).drew.trans hb2
  have hl2:sv.length=n2:=by simpa using hr2.length
  have M7:=Lib.hid (xG la m lc S.last a2 n2 c2 sv w2 (by rw[Ju.out];exact Z8.out.below (HB1.out.trans (FK.mono HB1.out.size)) (Nat.le_refl _)) hr2 (by omega))
  have HL2:=Lib.hid hl2
  clear hr2 hb2 hl2
  go_wp2_with fail
  refine hK.out _ _ (fun _=>jl.out _ FK) (fun hS=> ?_)
  replace hS:=hS (by decide)
  clear hK K
  try simp only[Act.put,List.setIfInBounds_toArray,List.set_cons_zero,List.set_cons_succ]
  refine jF 7 (h:=fun K hK=> ?_)
  go_simp
  refine hK.out _ _ (fun _=>jl.out _ (FK.trans ((wall w2 _).mono FK.size))) (fun hS=> ?_)
  replace hS:=hS (by decide)
  clear hK K
  try simp only[Act.put,List.setIfInBounds_toArray,List.set_cons_zero,List.set_cons_succ]
  refine jF 8 (h:=fun K hK=> ?_)
  go_simp
  (with_reducible refine M7.out.mono ?_)
  rintro e w3 ⟨a3,c3,rfl,hc3,hr3,hb3⟩
  have JH:Below w1.heap.size w1 w3:=FK.trans (hb3.mono FK.size)
  have Tz:=Lib.hid (Qz a3 (m+n2) c3 (S.last++sv) w3 hr3 (by have:=HL2.out;omega) hc3.1)
  clear hc3 hr3 hb3
  go_wp2_with fail
  refine hK.out _ _ (fun _=>jl.out _ JH) (fun hS=> ?_)
  replace hS:=hS (by decide)
  clear hK K
  try simp only[Act.put,List.setIfInBounds_toArray,List.set_cons_zero,List.set_cons_succ]
  refine jF 9 (h:=fun K hK=> ?_)
  go_simp
  (with_reducible refine Tz.out.mono ?_)
  rintro e w4 ⟨a4,n4,c4,rfl,Vg,hr4,hb4⟩
  have FL:Below w1.heap.size w1 w4:=JH.trans (hb4.mono JH.size)
  go_wp2_with fail
  refine hK.out _ _ (fun _=>jl.out _ FL) (fun hS=> ?_)
  replace hS:=hS (by decide)
  clear hK K
  try simp only[Act.put,List.setIfInBounds_toArray,List.set_cons_zero,List.set_cons_succ]
  refine bf 10 (hS:=hS) (h:= ?_)
  refine bf 11 (hS:=hS) (h:= ?_)
  refine jF 12 (h:=fun K hK=> ?_)
  go_simp
  refine hK.out _ _ (fun h=>absurd rfl h) (fun hS=> ?_)
  clear hS hK K
  try simp only[Act.put,List.setIfInBounds_toArray,List.set_cons_zero,List.set_cons_succ]
  refine aT (by kernel_rfl) ?_ _
  refine NoPanic.normal ?_
  have hs4:w4.heap[s]? =some (.cells #[.slice a n c, .int .i64 nx, .slice la m lc] 101 (0,0)):=by
   have:=(FL.block s Wy).trans ((HB1.out.block s h3).trans HH.out)
   rw[HN.out,Ju.out,Qx.out]
   exact this
  have hs5:(w4.setCell ⟨s,2,none⟩ (.slice a4 n4 c4)).heap[s]? =some (.cells #[.slice a n c, .int .i64 nx, .slice a4 n4 c4] 101 (0,0)):=aX hs4
  have PZ:Keeps (fun b=>b=s) w (w4.setCell ⟨s,2,none⟩ (.slice a4 n4 c4)):=(gX (HB1.out.trans (FL.mono HB1.out.size))).trans (Keeps.lN w4 ⟨s,2,none⟩ _) fun x _ hx=>hx
  have hr5:aj (fun b=>w.heap.size≤b∧b<w4.heap.size) (w4.setCell ⟨s,2,none⟩ (.slice a4 n4 c4)) a4 n4 ((qO (S.last++sv)).map bv):=hr4.move (by rw[size_set];exact Nat.le_refl _) fun b hb hbw=>⟨⟨by have:=JH.size;have:=HB1.out.size;omega,hb.2⟩,bE _ _ _ _ (by have:=JH.size;simp only;omega)⟩
  have CP:=(HT1.out.grow FL)
  have Ua:(w4.setCell ⟨s,2,none⟩ (.slice a4 n4 c4)).heap.size=w4.heap.size:=size_set _ _ _
  have Vo:w.heap.size≤w4.heap.size:=Nat.le_trans HB1.out.size FL.size
  have Wz:∀b,b<w4.heap.size→b≠s→(w4.setCell ⟨s,2,none⟩ (.slice a4 n4 c4)).heap[b]? =w4.heap[b]? :=fun b _ hn=>bE _ _ _ _ hn
  have WA:Keeps (fun b=>b=s) w4 (w4.setCell ⟨s,2,none⟩ (.slice a4 n4 c4)):=Keeps.lN w4 ⟨s,2,none⟩ _
  generalize w4.setCell ⟨s,2,none⟩ (.slice a4 n4 c4)=w5 at*
  have Z_:=Lib.hid WA
  clear WA
  obtain⟨i3,hi3⟩:∃i,Tryz.prog.info? 105=some i∧i.zero=some (.agg #[.int .i64 0, .slice none 0 0, .pointer none])∧i.size=3∧i.bytes=40:=info_parts (by kernel_rfl)
  have HI3:=Lib.hid hi3
  have fQ:=Lib.hid hs5
  have Db:=Lib.hid PZ
  have oO:=Lib.hid hr5
  have EX:=Lib.hid CP
  have aac:=Lib.hid Wz
  have aad:=Lib.hid FL
  have Ub:s<w5.heap.size:=by omega
  have HZ5:=Lib.hid Ua
  clear Ua
  have WB:Hid (∀w':World,w'.heap[s]? =w5.heap[s]? →w'.cell? ⟨s,0,none⟩=some (.slice a n c)∧w'.cell? ⟨s,1,none⟩=some (.int .i64 nx)∧w'.cell? ⟨s,2,none⟩=some (.slice a4 n4 c4)∧w'.frozen? ⟨s,0,none⟩=false):=fun w' hw'=>by
   rw[hs5]at hw'
   refine⟨?_,?_,?_,?_⟩<;>simp[World.cell?,World.frozen?,hw']
  have aae:Hid (w5.ownsRow 0 105 3 (.slice a n c) n vals):=by
   have h9:=cK HOW.out (w':=w5) fun b hb hbw=>Db.out.block b hbw (Vn.out b hb).2.1
   rw[HN.out]
   exact h9
  have WC:∀b,(Value.slice a n c).ownBlock=some b→o b=i∧b≠s∧b<w.heap.size:=fun b hb=>Vn.out b (by rw[HN.out]at hb;exact hb)
  have M8:=Lib.hid WC
  clear hi3 hs4 hs5 PZ hr5 CP Wz FK JH FL hr4 hb4 c0 c1 WC
  go_wp2_with fail
  refine wp_region_noPanic ?_
  refine bH (last:=19) (S:=(fun w'=>w'.cell? ⟨s,0,none⟩=some (.slice a n c)∧w'.cell? ⟨s,1,none⟩=some (.int .i64 nx)∧w'.cell? ⟨s,2,none⟩=some (.slice a4 n4 c4)∧w'.frozen? ⟨s,0,none⟩=false)) (by kernel_rfl) ?_ (fun hS=> ?_)
  ·exact WB.out _ rfl
  refine bf 0 (hS:=hS) (h:= ?_)
  refine bf 1 (hS:=hS) (h:= ?_)
  refine bf 2 (hS:=hS) (h:= ?_)
  refine bf 3 (hS:=hS) (h:= ?_)
  refine bf 4 (hS:=hS) (h:= ?_)
  refine bf 5 (hS:=hS) (h:= ?_)
  refine bf 6 (hS:=hS) (h:= ?_)
  refine bf 7 (hS:=hS) (h:= ?_)
  refine bf 8 (hS:=hS) (h:= ?_)
  refine bf 9 (hS:=hS) (h:= ?_)
  refine bf 10 (hS:=hS) (h:= ?_)
  refine bf 11 (hS:=hS) (h:= ?_)
  refine bf 12 (hS:=hS) (h:= ?_)
  refine bf 13 (hS:=hS) (h:= ?_)
  refine bf 14 (hS:=hS) (h:= ?_)
  refine jF 15 (h:=fun K hK=> ?_)
  go_simp
  have Ca:Below w5.heap.size w5 (w5.drew.alloc (.cells #[.int .i64 nx, .slice a4 n4 c4,ptr q] 105)):=(Below.refl _ _).drew.alloc (Nat.le_refl _) _
  refine hK.out _ _ (fun _=>WB.out _ (Ca.block s Ub)) (fun hS=> ?_)
  replace hS:=hS (by decide)
  clear hK K
  try simp only[Act.put,List.setIfInBounds_toArray,List.set_cons_zero,List.set_cons_succ]
  refine aS (rs:=[16]) (by kernel_rfl) (by simp) ?_
  refine ay.cons (o:= ?o1) ?ho1 (fun K hK=> ?_) ay.nil
  case ho1=>simp only[List.getElem?_toArray,List.getElem?_cons_succ,List.getElem?_cons_zero];rfl
  refine uU (by rfl) (.tmp 35) (.tmp 46) 99 (by rfl) 0 105 i3 _ 3 40 Tryz.underlying99 HI3.out.1 HI3.out.2.1 HI3.out.2.2.1 HI3.out.2.2.2 rfl (by omega) (.slice a n c) n vals (by rfl) (cK aae.out fun b hb hbw=>Ca.block b hbw) (some ⟨w5.heap.size,0,none⟩) 1 1 [.int .i64 nx, .slice a4 n4 c4,ptr q] (by rfl) (rE (w:=w5.drew) [.int .i64 nx, .slice a4 n4 c4,ptr q] 105 (by simp[maxLen])) (by simp[Value.oneCell']) (by unfold maxLen;omega) (by omega) (Nat.zero_le _) ?_
  intro A8 c8 w8 DC Sb M9
  have uQ:w8.heap[s]? =w5.heap[s]? :=(Sb.block s (Nat.lt_of_lt_of_le Ub Ca.size) (fun e=>(M8.out s e.symm).2.1 rfl)).trans (Ca.block s Ub)
  have M_:=Lib.hid DC
  have QB:=Lib.hid M9
  have YM:Hid (Keeps (fun b=>(Value.slice a n c).ownBlock=some b) w5 w8):=(gX Ca).trans (Keeps.grown Sb) fun x _ hx=>hx
  have hz8:w5.heap.size+1≤w8.heap.size:=by have:=Sb.size;simp at this;omega
  clear DC M9 Sb
  refine hK.out _ _ (fun _=>WB.out _ uQ) (fun hS=> ?_)
  replace hS:=hS (by decide)
  clear hK K
  try simp only[Act.put,List.setIfInBounds_toArray,List.set_cons_zero,List.set_cons_succ]
  refine bf 17 (hS:=hS) (h:= ?_)
  refine bf 18 (hS:=hS) (h:= ?_)
  refine jF 19 (h:=fun K hK=> ?_)
  go_simp
  refine hK.out _ _ (fun h=>absurd rfl h) (fun hS=> ?_)
  clear hS hK K
  try simp only[Act.put,List.setIfInBounds_toArray,List.set_cons_zero,List.set_cons_succ]
  refine aT (by kernel_rfl) ?_ _
  refine NoPanic.normal ?_
  have Na:(w8.setCell ⟨s,0,none⟩ (.slice A8 (n+1) c8)).heap[s]? =some (.cells #[.slice A8 (n+1) c8, .int .i64 nx, .slice a4 n4 c4] 101 (0,0)):=aX (uQ.trans fQ.out)
  have HK9:Hid (Keeps (fun b=>b=s) w8 (w8.setCell ⟨s,0,none⟩ (.slice A8 (n+1) c8))):=Lib.hid (Keeps.lN w8 ⟨s,0,none⟩ (.slice A8 (n+1) c8))
  have hz9:(w8.setCell ⟨s,0,none⟩ (.slice A8 (n+1) c8)).heap.size=w8.heap.size:=size_set _ _ _
  have HZ9:=Lib.hid hz9
  clear hz9
  generalize w8.setCell ⟨s,0,none⟩ (.slice A8 (n+1) c8)=w9 at*
  have q1:w9.cell? ⟨s,1,none⟩=some (.int .i64 nx):=by simp[World.cell?,Na]
  have qf:w9.frozen? ⟨s,1,none⟩=false:=by simp[World.frozen?,Na]
  have e1:IntKind.i64.wrap (nx+1)=nx+1:=IntWalk.i64_in _ (by omega)
  have e2:IntKind.i64.wrap (nx+1-1)=nx:=by rw[show nx+1-1=nx by omega];exact IntWalk.i64_in _ (by omega)
  have j6:(w9.setCell ⟨s,1,none⟩ (.int .i64 (nx+1))).heap[s]? =some (.cells #[.slice A8 (n+1) c8, .int .i64 (nx+1), .slice a4 n4 c4] 101 (0,0)):=aX Na
  have q10:(w9.setCell ⟨s,1,none⟩ (.int .i64 (nx+1))).cell? ⟨s,1,none⟩=some (.int .i64 (nx+1)):=by simp[World.cell?,j6]
  have kZ:=Lib.hid j6
  clear uQ Na j6 Ca
  go_wp2_with fail
  go_ret2
  have hlen:(qO (S.last++sv)).length=n4:=by simpa using oO.out.length
  have hK4:Keeps (fun b=>b=s∨(Value.slice a n c).ownBlock=some b) w4 (w9.setCell ⟨s,1,none⟩ (.int .i64 (nx+1))):=by
   have k1:Keeps (fun b=>b=s∨(Value.slice a n c).ownBlock=some b) w4 w5:=Z_.out.mono fun x _ hx=>Or.inl hx
   have k2:Keeps (fun b=>b=s∨(Value.slice a n c).ownBlock=some b) w5 w8:=YM.out.mono fun x _ hx=>Or.inr hx
   have k3:Keeps (fun b=>b=s∨(Value.slice a n c).ownBlock=some b) w8 w9:=HK9.out.mono fun x _ hx=>Or.inl hx
   have k4:Keeps (fun b=>b=s∨(Value.slice a n c).ownBlock=some b) w9 (w9.setCell ⟨s,1,none⟩ (.int .i64 (nx+1))):=(Keeps.lN w9 ⟨s,1,none⟩ _).mono fun x _ hx=>Or.inl hx
   exact((k1.trans k2 fun x _ hx=>hx).trans k3 fun x _ hx=>hx).trans k4 fun x _ hx=>hx
  have hK0:Keeps (fun b=>b=s∨(Value.slice a n c).ownBlock=some b) w (w9.setCell ⟨s,1,none⟩ (.int .i64 (nx+1))):=(gX (HB1.out.trans (aad.out.mono HB1.out.size))).trans hK4 fun x _ hx=>hx
  have hat:(Value.slice A8 (n+1) c8).ownBlock=(Value.slice a n c).ownBlock∨(Value.slice A8 (n+1) c8).ownBlock=some (w5.heap.size+1):=by
   rcases QB.out with h9|h9
   ·exact .inl h9
   ·right;rw[h9];simp
  have hz:=HZ5.out
  have WE:(w9.setCell ⟨s,1,none⟩ (.int .i64 (nx+1))).heap.size=w8.heap.size:=(size_set _ _ _).trans HZ9.out
  have O8:∀b,b<w4.heap.size→o b=0→(Value.slice A8 (n+1) c8).ownBlock≠some b:=fun b hb h0 he=>by
   rcases hat with h9|h9
   ·rw[h9]at he
    have:=(M8.out b he).1
    exact hi (by rw[←this,h0])
   ·rw[h9]at he
    cases he
    omega
  have H7:∀b,w.heap.size≤b→o b=0:=fun b hb=>Decidable.byContradiction fun h0=>by have:=(HM.out.new b h0).2;omega
  have hfp:∀b,o b=0→¬(b=s∨(Value.slice a n c).ownBlock=some b):=fun b h0 h=>by
   rcases h with h|h
   ·have:=YL.out;rw[←h,h0]at this;exact hi this.symm
   ·have:=(M8.out b h).1;rw[h0]at this;exact hi this.symm
  refine⟨by rw[Qx.out];rfl,?_⟩
  rw[←Z9.out]
  obtain⟨g,D,mb,ib,nb,hA,hg,hD⟩:=EX.out
  refine M4 (x:=⟨S.next,qO (S.last++sv),bS T⟩) (v:= .slice a n c) (v8:= .slice A8 (n+1) c8) (a9:=a4) (c9:=c4) (q:=q) HM.out hi YL.out h3 M8.out Pf.out ?_ ?_ ?_ hK0 (by show(qO (S.last++sv)).length≤c4;omega) ?_ ⟨g,D,mb,ib,nb,hA.keeps hK4 fun b hb=>hfp b ?_,fun b hb=> ?_⟩ HTC.out
  ·have h9:=kZ.out
   rw[Qx.out,←hlen]at h9
   rw[Qx.out]
   exact h9
  ·show World.ownsRow _ 0 _ 3 (.slice A8 (n+1) c8) (S.l.length+1) (vals++[.int .i64 S.next, .slice a4 (qO (S.last++sv)).length c4,ptr q])
   rw[hlen,←Qx.out,←HN.out]
   refine cK M_.out fun b hb hbw=> ?_
   have hbs:b≠s:=fun e=>by
    rcases hat with h9|h9
    ·rw[h9]at hb;exact(M8.out b hb).2.1 e
    ·rw[h9]at hb;cases hb;omega
   exact(bE _ _ _ _ hbs).trans (HK9.out.block b hbw hbs)
  ·rcases hat with h9|h9
   ·exact .inl h9
   ·exact .inr ⟨_,h9,by omega⟩
  ·show aj _ _ a4 (qO (S.last++sv)).length ((qO (S.last++sv)).map bv)
   rw[hlen]
   have h45:w4.heap.size≤w5.heap.size:=by omega
   refine oO.out.move (by rw[WE];omega) fun b hb hbw=>⟨⟨hb.1,by rw[WE];omega,O8 b hb.2 (H7 b hb.1)⟩,?_⟩
   have hn:=hfp b (H7 b hb.1)
   have hbs:b≠s:=fun e=>hn (.inl e)
   exact(hK4.block b hb.2 hn).trans (aac.out b hb.2 hbs).symm
  ·rcases hb with hb|hb
   ·exact hg b hb
   ·exact hD b hb
  ·have h0:o b=0:=by
    rcases hb with hb|hb
    ·exact hg b hb
    ·exact hD b hb
   refine⟨h0,O8 b ?_ h0⟩
   rcases hb with hb|hb
   ·exact hA.low b hb
   ·exact hA.l5 b hb
end
theorem JI (x0 x1 x2 x3 x4 x5 x6 x7:Value) (w:World):(Instr.index 64 (.agg #[x0,x1,x2,x3,x4,x5,x6,x7]) (.int .i64 0)).run Tryz.prog w= .ok x0 w:=by
 kernel_rfl
theorem JJ (x0 x1 x2 x3 x4 x5 x6 x7:Value) (w:World):(Instr.index 64 (.agg #[x0,x1,x2,x3,x4,x5,x6,x7]) (.int .i64 1)).run Tryz.prog w= .ok x1 w:=by
 kernel_rfl
theorem JK (x0 x1 x2 x3 x4 x5 x6 x7:Value) (w:World):(Instr.index 64 (.agg #[x0,x1,x2,x3,x4,x5,x6,x7]) (.int .i64 2)).run Tryz.prog w= .ok x2 w:=by
 kernel_rfl
theorem JL (x0 x1 x2 x3 x4 x5 x6 x7:Value) (w:World):(Instr.index 64 (.agg #[x0,x1,x2,x3,x4,x5,x6,x7]) (.int .i64 3)).run Tryz.prog w= .ok x3 w:=by
 kernel_rfl
theorem JM (x0 x1 x2 x3 x4 x5 x6 x7:Value) (w:World):(Instr.index 64 (.agg #[x0,x1,x2,x3,x4,x5,x6,x7]) (.int .i64 4)).run Tryz.prog w= .ok x4 w:=by
 kernel_rfl
theorem JN (x0 x1 x2 x3 x4 x5 x6 x7:Value) (w:World):(Instr.index 64 (.agg #[x0,x1,x2,x3,x4,x5,x6,x7]) (.int .i64 5)).run Tryz.prog w= .ok x5 w:=by
 kernel_rfl
theorem JO (x0 x1 x2 x3 x4 x5 x6 x7:Value) (w:World):(Instr.index 64 (.agg #[x0,x1,x2,x3,x4,x5,x6,x7]) (.int .i64 6)).run Tryz.prog w= .ok x6 w:=by
 kernel_rfl
theorem JQ (x0 x1 x2 x3 x4 x5 x6 x7:Value) (w:World):(Instr.index 64 (.agg #[x0,x1,x2,x3,x4,x5,x6,x7]) (.int .i64 7)).run Tryz.prog w= .ok x7 w:=by
 kernel_rfl
theorem DF (v:Nat→Value) (n:Nat) (hn:n<8) (w:World):(Instr.index 64 (.agg #[v 0,v 1,v 2,v 3,v 4,v 5,v 6,v 7]) (.int .i64 n)).run Tryz.prog w= .ok (v n) w:=by
 match n,hn with
 |0,_=>exact JI _ _ _ _ _ _ _ _ w
 |1,_=>exact JJ _ _ _ _ _ _ _ _ w
 |2,_=>exact JK _ _ _ _ _ _ _ _ w
 |3,_=>exact JL _ _ _ _ _ _ _ _ w
 |4,_=>exact JM _ _ _ _ _ _ _ _ w
 |5,_=>exact JN _ _ _ _ _ _ _ _ w
 |6,_=>exact JO _ _ _ _ _ _ _ _ w
 |7,_=>exact JQ _ _ _ _ _ _ _ _ w
section
variable {W w:World} {o:Mark} {i j k p:Nat} {M:eF}
set_option maxRecDepth 100000 in
set_option maxHeartbeats 4000000 in
theorem DI (h:aU o i j k w p M):Calls Tryz.prog 95 #[ptr p] w fun e w'=>∃n,e= .returned (.int .i64 n)∧Hu M n∧w'=w:=by
 obtain⟨t,s,v,h1,h2,h3,h4⟩:=h.at_
 obtain⟨c0,c1,c2,c3,c4⟩:=fH h1
 have e3:=c3 0 (by omega)
 have e4:=c3 1 (by omega)
 have e5:=c3 2 (by omega)
 have e6:=c3 3 (by omega)
 have e7:=c3 4 (by omega)
 have e8:=c3 5 (by omega)
 have e9:=c3 6 (by omega)
 have e10:=c3 7 (by omega)
 have H4:=Lib.hid h4
 clear h h1 h2 h3 h4 c3 c4
 go_enter Tryz.func95,Tryz.ntmps95
 go_wp2_with fail
 go_loopw [9] (fun iv wr=>∃n:Nat,n≤8∧iv= .int .i64 n∧(∀m,m<n→M.fds m≠none)∧wr=w) (fun iv _=>8-(intOf iv).toNat)
 case atStart=>exact⟨0,by omega,rfl,fun m hm=>by omega,rfl⟩
 case round=>
  obtain⟨n,hn,rfl,hno,rfl⟩:=hrel
  have Ht:=Lib.hid hno
  clear hno
  by_cases nD:n<8
  ·have hd:decide ((n:Int)<8)=true:=by simp;omega
   have hix:=DF v n nD wr
   have hf:=H4.out n nD
   have i0:(0:Int)≤n:=by omega
   cases sM:M.fds n with
   |none=>
    rw[sM]at hf
    have hv:v n= .pointer none:=hf
    rw[hv]at hix
    have Vd:=Lib.hid sM
    clear hf hv sM
    go_wp2_with fail
    go_ret
    exact⟨n,rfl, .inr ⟨n,nD,rfl,Vd.out,Ht.out⟩,rfl⟩
   |some f=>
    rw[sM]at hf
    obtain⟨q,fa,fc,hv,_⟩:=hf
    rw[hv]at hix
    have Vd:=Lib.hid sM
    clear hv sM
    go_wp2_with fail
    go_roundw
    case rel=>
     refine⟨n+1,by omega,by go_num,fun m hm=> ?_,trivial⟩
     by_cases hmn:m=n
     ·rw[hmn,Vd.out];simp
     ·exact Ht.out m (by omega)
    case measure=>simp[intOf];omega
  ·obtain rfl:n=8:=by omega
   go_wp2_with fail
   go_ret
   exact⟨-1,rfl, .inl ⟨rfl,Ht.out⟩,rfl⟩
end
def Aj (S:nQ) (id:Int):Option jJ:=S.l.find? fun x=>decide (x.id=id)
theorem xV.none_ {S:nQ} {id:Int} (h:∀x∈S.l,x.id≠id):Aj S id=none:=by
 unfold Aj
 rw[List.find?_eq_none]
 intro x hx
 simpa using h x hx
theorem xV.some_:∀{l:List jJ} {id:Int} {k:Nat} {x:jJ},l[k]? =some x→x.id=id→(∀x'∈l.take k,x'.id≠id)→l.find? (fun x=>decide (x.id=id))=some x
 |[],_,k,x,h,_,_=>by simp at h
 |y::r,id,0,x,h,h1,_=>by
  have e:y=x:=by simpa using h
  subst e
  simp[h1]
 |y::r,id,k+1,x,h,h1,h2=>by
  have hy:y.id≠id:=h2 y (by simp)
  rw[List.find?_cons_of_neg (by simpa using hy)]
  exact xV.some_ (k:=k) (by simpa using h) h1 fun x' hx'=>h2 x' (by simp[hx'])
def Uc (o:Mark) (w:World) (S:nQ) (id:Int) (e:Ending) (w':World):Prop:=
 Below w.heap.size w w'∧((Aj S id=none∧e= .returned (.tuple #[.pointer none, .bool false]))∨∃x q,Aj S id=some x∧e= .returned (.tuple #[ptr q, .bool true])∧dN o 0 w' q x.t∧dI x.t)
section
variable {W w:World} {o:Mark} {i s:Nat} {S:nQ}
set_option maxRecDepth 100000 in
set_option maxHeartbeats 4000000 in
theorem QC (hS:dR o i w s S) (hM:Marks W o w) (wJ:S.l.length≤1000) (id:Int):Calls Tryz.prog 173 #[ptr s, .int .i64 id] w (Uc o w S id):=by
 have HM:=Lib.hid hM
 obtain⟨v,la,lc,vals,h1,h2,h3,h4,h5,h6,h7,h8⟩:=hS.at_
 obtain⟨a,c,rfl,hcap⟩:=bF h4
 obtain⟨-,-,hrow⟩:=aj.nP h4 (by unfold maxLen;omega)
 have HF:=Lib.hid (Du hS id wJ)
 have HH:=Lib.hid h1
 have Pf:=Lib.hid h6
 have dS:=Lib.hid hrow
 obtain⟨n,hn⟩:∃n,n=S.l.length:=⟨_,rfl⟩
 have HN:=Lib.hid hn
 rw[←hn]at hcap wJ
 clear hS hM h1 h2 h4 h5 h6 h7 h8 hrow hn
 go_enter Tryz.func173,Tryz.ntmps173
 go_wp2_with fail
 (with_reducible refine HF.out.mono ?_)
 rintro e w1 ⟨v,rfl,hf,hb1⟩
 have HB1:=Lib.hid hb1
 clear hb1
 rcases hf with⟨rfl,hno⟩|⟨k,x,rfl,hx,hid,hno⟩
 ·have Ht:=Lib.hid hno
  clear hno
  go_wp2_with fail
  go_ret2
  exact⟨HB1.out, .inl ⟨xV.none_ Ht.out,rfl⟩⟩
 ·have hkn:k<n:=by rw[HN.out];exact(List.getElem?_eq_some_iff.1 hx).1
  have HRW:=dS.out
  rw[←HN.out]at HRW
  obtain⟨g,off,rfl,hgw,_,hcell⟩:=HRW.at_ (by omega)
  obtain⟨ha,hcp,q,e0,e1,e2,e3,e4,e5,e6⟩:=Pf.out.at_ hx
  have d2:w1.cell? ⟨g,off+k*3+2,none⟩=some (ptr q):=(HB1.out.cell (p:=⟨g,off+k*3+2,none⟩) hgw.2).trans ((hcell (k*3+2) (by omega)).trans e2)
  have hbS:=HB1.out.block s h3
  have c0:w1.cell? ⟨s,0,none⟩=some (.slice (some ⟨g,off,none⟩) n c):=by
   have:=hbS.trans HH.out
   rw[HN.out]
   simp[World.cell?,this]
  have jB:=Lib.hid (HM.out.step (I:=fun _=>False) (fun e=>e) (Step.grow HM.out HB1.out))
  have RJ:=Lib.hid (Mx (e5.grow HB1.out) jB.out e6)
  have Sc:=Lib.hid (xV.some_ hx hid hno)
  have HE6:=Lib.hid e6
  have hneg:¬((k:Int)<0):=by omega
  have i0:(0:Int)≤k:=by omega
  have i1:(k:Int)<n:=by omega
  clear hx hid hno hcell e0 e1 e2 e3 e4 e5 e6 HRW hbS
  go_wp2_with fail
  (with_reducible refine RJ.out.mono ?_)
  rintro e w2 ⟨q2,rfl,LC,hb2⟩
  have HT2:=Lib.hid LC
  have HB2:=Lib.hid (HB1.out.trans (hb2.mono HB1.out.size))
  clear LC hb2
  go_wp2_with fail
  go_ret2
  exact⟨HB2.out, .inr ⟨x,q2,Sc.out,rfl,HT2.out,HE6.out⟩⟩
end
def jC (w:World) (g:Nat) (cs:Array Value) (t:TypeId) (w':World):Prop:=w'.heap[g]? =some (.cells cs t (0,0))∧Keeps (fun b=>b=g) w w'∧w'.heap.size=w.heap.size
theorem yg (w:World) (g:Nat) (old cs:Array Value) (t:TypeId) (hg:w.heap[g]? =some (.cells old t (0,0))):jC w g cs t (w.setRow g cs):=by
 have hz:(w.setRow g cs).heap.size=w.heap.size:=by simp[World.setRow]
 exact⟨setRow_heap w g old cs t _ hg,⟨rfl,rfl,rfl,by omega,fun b _ hb=>setRow_other w g b cs hb⟩,hz⟩
theorem ak {P:Program} {ops:Array Oper} {rest:List Oper} {o:Oper} {a:Act} {w:World} {Q:Exit→Act→World→Prop} (hgd:o.guard=none) (ty:TypeId) (x y:Operand) (ho:o.op= .store ty x y)
  (g:Nat) (cells:Array Value) (hx:a.eval x= .pointer (some ⟨g,0,none⟩)) (hy:a.eval y= .agg cells)
  (old:Array Value) (hg:w.heap[g]? =some (.cells old ty (0,0))) (hi:(P.info? ty).map (·.size)=some cells.size)
  (hold:old.size=cells.size) (h1:cells.all (·.oneCell')=true)
  (h:∀w',jC w g cells ty w'→wpList P ops Q rest (a.put o.dst undef) w'):wpList P ops Q (o::rest) a w:=
 wpList_store_row hgd ty x y ho g cells hx hy ty old hg hi hold h1 (h _ (yg w g old cells ty hg))
theorem jC.below {w0 w w':World} {g:Nat} {cs:Array Value} {t:TypeId} (h:jC w g cs t w') (hb:Below w0.heap.size w0 w) (hg:w0.heap.size≤g):Below w0.heap.size w0 w':=by
 obtain⟨_,h2,h3⟩:=h
 exact⟨h2.os.trans hb.os,h2.tape.trans hb.tape,h2.output.trans hb.output,Nat.le_trans hb.size h2.size,fun b hb'=>(h2.block b (Nat.lt_of_lt_of_le hb' hb.size) (fun e:b=g=>by omega)).trans (hb.block b hb')⟩
theorem zx {P:Program} {fn:Func} {a b:Nat} {t:TypeId} {tmps:Array Value} {ad:Addr} {v:Value} {w:World} (h:fn.results= #[.cell a t, .tmp b]) (ha:tmps.getD a undef= .pointer (some ad)) (hl:(loadVar t ad).run P w= .ok v w):(results fn tmps).run P w= .ok (.tuple #[v,tmps.getD b undef]) w:=by
 have ha2:tmps[a]?.getD undef= .pointer (some ad):=by simpa using ha
 simp[results,h,asAddr,ha2,hl]
theorem mY:(Tryz.prog.info? 34).map (·.size)=some 6:=by kernel_rfl
def jc:Array Value:= #[.int .i64 0, .int .i64 0, .int .i64 0, .int .i64 0, .int .u64 0, .bool false]
theorem oP {fn:Func} {sl b':Nat} {Q:Ending→World→Prop} {a:Act} {w:World} {b:Nat} {cs:Array Value} {z:Value} (hf:fn.results= #[.cell sl 34, .tmp b']) (hs:a.tmps.getD sl undef= .pointer (some ⟨b,0,none⟩)) (hz:a.tmps.getD b' undef=z) (hd:a.defers=[]) (hg:w.heap[b]? =some (.cells cs 34 (0,0))) (h6:cs.size=6) (hQ:Q (.returned (.tuple #[.agg cs,z])) w):
  bodyPost Tryz.prog fn Q .ret a w:=by
 subst hz
 exact bodyPost_ret (v:= .tuple #[.agg cs,a.tmps.getD b' undef]) (zx hf hs (run_loadVar_row w b 34 34 _ (0,0) _ hg Tryz.underlying34 rfl (by rw[h6];exact mY))) hd hQ
structure kQ where
 kind:Int
 path:List UInt8
 aA:List UInt8
 fd:Int
 at_:Int
 n:Int
 au:Int
 snap:Int
 data:List UInt8
def opC (x:kQ) (da:Option Addr) (dc:Nat):Array Value:= #[.int .i64 x.kind, .string (strOf x.path), .string (strOf x.aA), .int .i64 x.fd, .int .i64 x.at_, .int .i64 x.n, .int .u64 x.au, .int .i64 x.snap, .slice da x.data.length dc]
structure jL (x:kQ):Prop where
 wk:(Lit.int .i64 x.kind).wf=true
 wf:(Lit.int .i64 x.fd).wf=true
 wa:(Lit.int .i64 x.at_).wf=true
 wn:(Lit.int .i64 x.n).wf=true
 ws:(Lit.int .i64 x.snap).wf=true
 wt:0≤x.au∧x.au≤18446744073709551615
 wp:x.path.length<4294967281
 wq:x.aA.length<4294967281
 wd:x.data.length≤1000000000
structure rO where
 er:Int
 n:Int
 data:List UInt8
 names:List Nm
 node:Option (Int×eB)
def bW (z:Int):rO:=⟨z,0,[],[],none⟩
def b_ (r:rO) (da la:Option Addr) (dc lc:Nat):Array Value:= #[.int .i64 r.er, .int .i64 r.n, .slice da r.data.length dc, .slice la r.names.length lc,
 .int .i64 (match r.node with|some q=>q.1|none=>0), .int .i64 (match r.node with|some q=>q.2.kind|none=>0), .int .i64 (match r.node with|some q=>q.2.links|none=>0), .int .i64 (match r.node with|some q=>(q.2.b.length:Int)|none=>0), .int .u64 (match r.node with|some q=>q.2.au|none=>0), .bool (match r.node with|some q=>q.2.closed|none=>false)]
def nR (o:Mark) (w:World) (v:Value) (r:rO):Prop:=
 ∃da la dc lc,v= .agg (b_ r da la dc lc)∧r.data.length≤dc∧r.names.length≤lc∧aj (Free o w) w da r.data.length (r.data.map bv)∧aO (Free o w) w la r.names.length (r.names.map strOf)
theorem jM (S:Nat→Prop) (w:World):aO S w none 0 []:=⟨aj.nil _ _ _,fun v hv=>by cases hv⟩
theorem bD (r:rO) (da la:Option Addr) (dc lc:Nat):(b_ r da la dc lc).all (·.oneCell')=true:=by simp[b_,Value.oneCell']
theorem nR.WG (o:Mark) (w:World) (z:Int):nR o w (.agg (b_ (bW z) none none 0 0)) (bW z):=
 ⟨none,none,0,0,rfl,Nat.le_refl _,Nat.le_refl _,aj.nil _ _ _,jM _ _⟩
theorem bA:(Tryz.prog.info? 36).map (·.size)=some 10:=by kernel_rfl
theorem bJ {fn:Func} {sl:Nat} {Q:Ending→World→Prop} {a:Act} {w:World} {b:Nat} {r:rO} {da la:Option Addr} {dc lc:Nat} (hf:fn.results= #[.cell sl 36]) (hs:a.tmps.getD sl undef= .pointer (some ⟨b,0,none⟩)) (hd:a.defers=[]) (hg:w.heap[b]? =some (.cells (b_ r da la dc lc) 36 (0,0))) (hQ:Q (.returned (.agg (b_ r da la dc lc))) w):
  bodyPost Tryz.prog fn Q .ret a w:=
 bodyPost_ret (v:= .agg (b_ r da la dc lc)) (mo hf hs (run_loadVar_row w b 36 36 _ (0,0) _ hg Tryz.underlying36 rfl bA)) hd hQ
end Go.Proofs.YtmabllemjkcobaaGreatDoor
