/- package snap: Take. DERIVED: THE SHELF's CONTRACTS AT THIS DUMP, IN PLAIN WORDS (tools/lay-plain.mjs out of 'YtohpcppeajijnaaGreatLaypOneLay.lean', which tools/lay-shelf.mjs wrote): THE SAME DECLARATIONS UNDER THE SAME NAMES: 'import', 'namespace', 'open', 'def', 'theorem' AND NOTHING ELSE: no command of the shelf's: FOR A HAND-IN. Each laying: the table of numbers ('.._ren') and one theorem, a field a fact of the dump's own or the kernel's comparison; each contract: ONE APPLICATION. slices.Concat of rows of snapshots. The contracts of package clock, and known of permafrostlaw8: what each call returns; the world stays as it was. The contracts of package worm's rules for one node: what each call returns; what was there stays as it was. worm.Live, worm.Bound of a tree. package snap: All. package snap: Forget. permafrost/permafrostbook.Same[int]: are two slices the same? permafrostlaw13: begin, known. Literal slices of texts. -/
import Derived.Test.YtohpcppeajijnaaGreatM37
import Derived.Test.YtohpcppeajijnaaGreatM40
import Derived.Test.YtohpcppeajijnaaGreatM13
import Derived.Test.YtohpcppeajijnaaGreatProg
import Derived.Shelf.Spec.SlicesGrow
import Derived.Test.YtohpcppeajijnaaGreatM01
import Derived.Test.YtohpcppeajijnaaGreatM21
import Derived.Test.YtohpcppeajijnaaGreatM03
import Derived.BigQuiet
import Derived.Deep.QuietTactic
import Derived.Test.YtohpcppeajijnaaGreatM16
namespace Go.Proofs.YtohpcppeajijnaaGreat
open Go.ChangeShapes Go.WideShapes Go.ChangeAt Go.RowKit
set_option linter.unusedVariables false
set_option linter.unusedSimpArgs false
def lS (S:uh) (T:aH):(Int×Int)×uh:=
 if 8≤S.l.length then((0,4),S)else
 ((S.next,0),⟨S.l++[⟨S.next,nU (S.last++gT (fu T)),fu T⟩],S.next+1,nU (S.last++gT (fu T))⟩)
theorem Ip {T:aH} (hT:dA T):(gT T).length≤6000000:=by
 have h1:=mJ hT T (fun q hq=>hq)
 have h2:=hT.len
 unfold gT
 rw[List.length_append,eO]
 omega
section
variable {W w:World} {o:Mark} {i j s p:Nat} {S:uh} {T:aH}
open Classical in
theorem Iq {w9:World} {v v8:Value} {vals:List Value} {x:iB} {a9:Option Addr} {c9 q:Nat} (hM:Marks W o w) (hi:i≠0) (hos:o s=i) (hsw:s<w.heap.size) (XO:∀b,v.ownBlock=some b→o b=i∧b≠s∧b<w.heap.size)
  (hO:dU o w vals S.l) (hh:w9.heap[s]? =some (.cells #[v8, .int .i64 (S.next+1), .slice a9 x.hash.length c9] 150 (0,0))) (hown:w9.ownsRow 0 152 3 v8 (S.l.length+1) (vals++[.int .i64 x.id, .slice a9 x.hash.length c9,ptr q]))
  (hat:v8.ownBlock=v.ownBlock∨∃b,v8.ownBlock=some b∧w.heap.size≤b) (hK:Keeps (fun b=>b=s∨v.ownBlock=some b) w w9)
  (KV:x.hash.length≤c9) (Jw:ak (fun b=>w.heap.size≤b∧b<w9.heap.size∧v8.ownBlock≠some b) w9 a9 x.hash.length (x.hash.map bv)) (hq:∃g D mb ib nb,aK g D w9 q mb ib nb x.t∧∀b,g b≠ .none∨D b→o b=0∧v8.ownBlock≠some b) (hT:dA x.t):
  ∃o',Step o (fun k=>k=i) w o' w9∧jC o' i w9 s ⟨S.l++[x],S.next+1,x.hash⟩:=by
 obtain⟨o',ho⟩:∃o':Mark,∀b,o' b=if v8.ownBlock=some b∧w.heap.size≤b then i else o b:=⟨_,fun _=>rfl⟩
 have P_:∀b,v8.ownBlock=some b→b<w9.heap.size:=nX hown
 have hst:Step o (fun k=>k=i) w o' w9:=by
  refine⟨fun b hb=>by rw[ho,if_neg (fun h=>by omega)],fun b hb hn=> ?_,hK.mono fun b hb h=> ?_⟩
  ·by_cases h:v8.ownBlock=some b∧w.heap.size≤b
   ·rw[ho,if_pos h];exact⟨rfl,P_ b h.1⟩
   ·rw[ho,if_neg h]at hn;have:=(hM.new b hn).2;omega
  ·rcases h with h|h
   ·rw[h];exact hos
   ·exact(XO b h).1
 have hi0:¬(fun k=>k=i) 0:=fun e=>hi e.symm
 have hfree:∀b,o b=0→v8.ownBlock≠some b→o' b=0:=fun b h0 hn=>by rw[ho,if_neg (fun h=>hn h.1)];exact h0
 have Da:∀b,w.heap.size≤b→o b=0:=fun b hb=>Decidable.byContradiction fun h0=>by have:=(hM.new b h0).2;omega
 have hrf:ak (fun b=>o' b=0∧b<w9.heap.size) w9 a9 x.hash.length (x.hash.map bv):=Jw.mono fun b hb=>⟨hfree b (Da b hb.1) hb.2.2,hb.2.1⟩
 refine⟨o',hst,⟨v8,a9,c9,vals++[.int .i64 x.id, .slice a9 x.hash.length c9,ptr q],hh,(hst.old s hsw).trans hos,Nat.lt_of_lt_of_le hsw hK.size,?_,fun b hb=> ?_,?_,KV,hrf⟩⟩
 ·rw[List.length_append];exact hown
 ·rcases hat with h1|⟨b',h1,h2⟩
  ·rw[h1]at hb
   obtain⟨k1,k2,k3⟩:=XO b hb
   exact⟨(hst.old b k3).trans k1,k2,Nat.lt_of_lt_of_le k3 hK.size⟩
  ·rw[h1]at hb
   cases hb
   exact⟨by rw[ho,if_pos ⟨h1,h2⟩],by omega,P_ _ h1⟩
 ·refine dU.append (hO.step hi0 hst) ⟨_,[],by simp,⟨a9,c9,q,rfl,KV,hrf,?_,hT⟩,rfl⟩
  obtain⟨g,D,mb,ib,nb,hA,hg⟩:=hq
  exact⟨g,D,mb,ib,nb,hA,fun b hb=>hfree b (hg b (.inl hb)).1 (hg b (.inl hb)).2,fun b hb=>hfree b (hg b (.inr hb)).1 (hg b (.inr hb)).2⟩
set_option maxRecDepth 100000 in
set_option maxHeartbeats 8000000 in
theorem Ir (hS:jC o i w s S) (hTr:eU o j w p T) (hM:Marks W o w) (hi:i≠0) (hT:dA T) (XP:S.l.length≤8) (hla:S.last.length≤64) (hnx:0≤S.next) (Ug:S.next≤1000000000):
  Calls Tryz.prog 38 #[ptr s,ptr p] w fun e w'=>e= .returned (.tuple #[.int .i64 (lS S T).1.1, .int .i64 (lS S T).1.2])∧∃o',Step o (fun k=>k=i) w o' w'∧jC o' i w' s (lS S T).2:=by
 have HS:=Lib.hid hS
 have HM:=Lib.hid hM
 obtain⟨v,la,lc,vals,h1,h2,h3,h4,h5,h6,h7,h8⟩:=hS.at_
 obtain⟨a,c,rfl,hcap⟩:=eP h4
 have q0:w.cell? ⟨s,0,none⟩=some (.slice a S.l.length c):=by simp[World.cell?,h1]
 by_cases hfull:8≤S.l.length
 ·have e1:lS S T=((0,4),S):=by unfold lS;rw[if_pos hfull]
  rw[e1]
  have hd:decide ((8:Int)≤(S.l.length:Int))=true:=by simp;omega
  obtain⟨n,hn⟩:∃n,n=S.l.length:=⟨_,rfl⟩
  rw[←hn]at q0 hd
  clear hS hM h1 h2 h4 h5 h6 h7 h8 hcap hfull e1 XP hn hTr hT
  go_enter Tryz.func38,Tryz.ntmps38
  go_wp2_with fail
  go_ret2
  exact⟨rfl,o,Step.grow HM.out (Below.refl _ _),HS.out⟩
 ·have e1:lS S T=((S.next,0),⟨S.l++[⟨S.next,nU (S.last++gT (fu T)),fu T⟩],S.next+1,nU (S.last++gT (fu T))⟩):=by unfold lS;rw[if_neg hfull]
  rw[e1]
  have hd:decide ((8:Int)≤(S.l.length:Int))=false:=by simp;omega
  have q1:w.cell? ⟨s,1,none⟩=some (.int .i64 S.next):=by simp[World.cell?,h1]
  have q2:w.cell? ⟨s,2,none⟩=some (.slice la S.last.length lc):=by simp[World.cell?,h1]
  have HC:=Lib.hid (wG hTr hM hT)
  have HH:=Lib.hid h1
  have HOW:=Lib.hid h4
  have Ey:=Lib.hid h6
  have ZO:=Lib.hid h8
  have HLC:=Lib.hid h7
  have XQ:=Lib.hid h2
  have QL:=Lib.hid h5
  have Uh:=hT.fu
  have XR:=Lib.hid Uh
  have hsl:=Ip Uh
  obtain⟨n,hn⟩:∃n,n=S.l.length:=⟨_,rfl⟩
  obtain⟨m,hm⟩:∃m,m=S.last.length:=⟨_,rfl⟩
  obtain⟨nx,Nv⟩:∃nx,nx=S.next:=⟨_,rfl⟩
  rw[←Nv]at hnx Ug q1
  rw[←hm]at q2 hla
  rw[←hn]at q0 hd hcap XP
  have HN:=Lib.hid hn
  have D9:=Lib.hid hm
  have H6:=Lib.hid Nv
  clear hS hM h1 h2 h4 h5 h6 h7 h8 hfull e1 hn hm hTr hT Uh Nv
  go_enter Tryz.func38,Tryz.ntmps38
  go_wp2_with fail
  (with_reducible refine HC.out.mono ?_)
  rintro e w1 ⟨q,rfl,hT1,hb1⟩
  have HT1:=Lib.hid hT1
  have HB1:=Lib.hid hb1
  have XT:=Lib.hid (yx (hT1.grow (Below.refl _ _).drew) XR.out)
  have Qa:s<w1.heap.size:=by have:=hb1.size;omega
  have jH:Hid (∀w',Below w1.heap.size w1 w'→w'.cell? ⟨s,2,none⟩=some (.slice la m lc)∧w'.frozen? ⟨s,2,none⟩=false):=fun w' hb=>by
   have hbb:=(hb.block s Qa).trans ((hb1.block s h3).trans HH.out)
   refine⟨?_,by simp[World.frozen?,hbb]⟩
   rw[D9.out]
   simp[World.cell?,hbb]
  have c0:=(hb1.cell (p:=⟨s,0,none⟩) h3).trans q0
  have c1:=(hb1.cell (p:=⟨s,1,none⟩) h3).trans q1
  obtain⟨sv,hsv⟩:∃sv,sv=gT (fu T):=⟨_,rfl⟩
  rw[←hsv]at XT hsl
  have Ui:=Lib.hid hsv
  clear hT1 hb1 hsv q0 q1 q2
  go_wp2_with fail
  refine wp_region_noPanic ?_
  refine bW (last:=12) (S:=(fun w'=>w'.cell? ⟨s,2,none⟩=some (.slice la m lc)∧w'.frozen? ⟨s,2,none⟩=false)) (by kernel_rfl) ?_ (fun hS=> ?_)
  ·exact jH.out _ (Below.refl _ _).drew
  refine aT 0 (hS:=hS) (h:= ?_)
  refine aT 1 (hS:=hS) (h:= ?_)
  refine aT 2 (hS:=hS) (h:= ?_)
  refine aT 3 (hS:=hS) (h:= ?_)
  refine aT 4 (hS:=hS) (h:= ?_)
  refine aT 5 (hS:=hS) (h:= ?_)
  refine jF 6 (h:=fun K hK=> ?_)
  go_simp
  (with_reducible refine XT.out.mono ?_)
  rintro e w2 ⟨a2,n2,c2,rfl,hn2,hr2,hb2⟩
  have BO:Below w1.heap.size w1 w2:=(Below.refl _ _).drew.trans hb2
  have hl2:sv.length=n2:=by simpa using hr2.length
  have ZP:=Lib.hid (uS la m lc S.last a2 n2 c2 sv w2 (by rw[D9.out];exact ZO.out.below (HB1.out.trans (BO.mono HB1.out.size)) (Nat.le_refl _)) hr2 (by omega))
  have HL2:=Lib.hid hl2
  clear hr2 hb2 hl2
  go_wp2_with fail
  refine hK.out _ _ (fun _=>jH.out _ BO) (fun hS=> ?_)
  replace hS:=hS (by decide)
  clear hK K
  try simp only[Act.put,List.setIfInBounds_toArray,List.set_cons_zero,List.set_cons_succ]
  refine jF 7 (h:=fun K hK=> ?_)
  go_simp
  refine hK.out _ _ (fun _=>jH.out _ (BO.trans ((wall w2 _).mono BO.size))) (fun hS=> ?_)
  replace hS:=hS (by decide)
  clear hK K
  try simp only[Act.put,List.setIfInBounds_toArray,List.set_cons_zero,List.set_cons_succ]
  refine jF 8 (h:=fun K hK=> ?_)
  go_simp
  (with_reducible refine ZP.out.mono ?_)
  rintro e w3 ⟨a3,c3,rfl,hc3,hr3,hb3⟩
  have EO:Below w1.heap.size w1 w3:=BO.trans (hb3.mono BO.size)
  have OW:=Lib.hid (KG a3 (m+n2) c3 (S.last++sv) w3 hr3 (by have:=HL2.out;omega) hc3.1)
  clear hc3 hr3 hb3
  go_wp2_with fail
  refine hK.out _ _ (fun _=>jH.out _ EO) (fun hS=> ?_)
  replace hS:=hS (by decide)
  clear hK K
  try simp only[Act.put,List.setIfInBounds_toArray,List.set_cons_zero,List.set_cons_succ]
  refine jF 9 (h:=fun K hK=> ?_)
  go_simp
  (with_reducible refine OW.out.mono ?_)
  rintro e w4 ⟨a4,n4,c4,rfl,SE,hr4,hb4⟩
  have BP:Below w1.heap.size w1 w4:=EO.trans (hb4.mono EO.size)
  go_wp2_with fail
  refine hK.out _ _ (fun _=>jH.out _ BP) (fun hS=> ?_)
  replace hS:=hS (by decide)
  clear hK K
  try simp only[Act.put,List.setIfInBounds_toArray,List.set_cons_zero,List.set_cons_succ]
  refine aT 10 (hS:=hS) (h:= ?_)
  refine aT 11 (hS:=hS) (h:= ?_)
  refine jF 12 (h:=fun K hK=> ?_)
  go_simp
  refine hK.out _ _ (fun h=>absurd rfl h) (fun hS=> ?_)
  clear hS hK K
  try simp only[Act.put,List.setIfInBounds_toArray,List.set_cons_zero,List.set_cons_succ]
  refine aV (by kernel_rfl) ?_ _
  refine NoPanic.normal ?_
  have hs4:w4.heap[s]? =some (.cells #[.slice a n c, .int .i64 nx, .slice la m lc] 150 (0,0)):=by
   have:=(BP.block s Qa).trans ((HB1.out.block s h3).trans HH.out)
   rw[HN.out,D9.out,H6.out]
   exact this
  have hs5:(w4.setCell ⟨s,2,none⟩ (.slice a4 n4 c4)).heap[s]? =some (.cells #[.slice a n c, .int .i64 nx, .slice a4 n4 c4] 150 (0,0)):=bJ hs4
  have qI:Keeps (fun b=>b=s) w (w4.setCell ⟨s,2,none⟩ (.slice a4 n4 c4)):=(gJ (HB1.out.trans (BP.mono HB1.out.size))).trans (Keeps.gX w4 ⟨s,2,none⟩ _) fun x _ hx=>hx
  have Qb:ak (fun b=>w.heap.size≤b∧b<w4.heap.size) (w4.setCell ⟨s,2,none⟩ (.slice a4 n4 c4)) a4 n4 ((nU (S.last++sv)).map bv):=hr4.move (by rw[size_set];exact Nat.le_refl _) fun b hb hbw=>⟨⟨by have:=EO.size;have:=HB1.out.size;omega,hb.2⟩,bg _ _ _ _ (by have:=EO.size;simp only;omega)⟩
  have Al:=(HT1.out.grow BP)
  have wH:(w4.setCell ⟨s,2,none⟩ (.slice a4 n4 c4)).heap.size=w4.heap.size:=size_set _ _ _
  have h14:w.heap.size≤w4.heap.size:=Nat.le_trans HB1.out.size BP.size
  have Qc:∀b,b<w4.heap.size→b≠s→(w4.setCell ⟨s,2,none⟩ (.slice a4 n4 c4)).heap[b]? =w4.heap[b]? :=fun b _ hn=>bg _ _ _ _ hn
  have Qd:Keeps (fun b=>b=s) w4 (w4.setCell ⟨s,2,none⟩ (.slice a4 n4 c4)):=Keeps.gX w4 ⟨s,2,none⟩ _
  generalize w4.setCell ⟨s,2,none⟩ (.slice a4 n4 c4)=w5 at*
  have Uj:=Lib.hid Qd
  clear Qd
  obtain⟨i3,hi3⟩:∃i,Tryz.prog.info? 152=some i∧i.zero=some (.agg #[.int .i64 0, .slice none 0 0, .pointer none])∧i.size=3∧i.bytes=40:=info_parts (by kernel_rfl)
  have HI3:=Lib.hid hi3
  have LP:=Lib.hid hs5
  have Oo:=Lib.hid qI
  have Qe:=Lib.hid Qb
  have zY:=Lib.hid Al
  have Uk:=Lib.hid Qc
  have Ul:=Lib.hid BP
  have Nw:s<w5.heap.size:=by omega
  have QV:=Lib.hid wH
  clear wH
  have Um:Hid (∀w':World,w'.heap[s]? =w5.heap[s]? →w'.cell? ⟨s,0,none⟩=some (.slice a n c)∧w'.cell? ⟨s,1,none⟩=some (.int .i64 nx)∧w'.cell? ⟨s,2,none⟩=some (.slice a4 n4 c4)∧w'.frozen? ⟨s,0,none⟩=false):=fun w' hw'=>by
   rw[hs5]at hw'
   refine⟨?_,?_,?_,?_⟩<;>simp[World.cell?,World.frozen?,hw']
  have Un:Hid (w5.ownsRow 0 152 3 (.slice a n c) n vals):=by
   have h9:=fK HOW.out (w':=w5) fun b hb hbw=>Oo.out.block b hbw (QL.out b hb).2.1
   rw[HN.out]
   exact h9
  have Qf:∀b,(Value.slice a n c).ownBlock=some b→o b=i∧b≠s∧b<w.heap.size:=fun b hb=>QL.out b (by rw[HN.out]at hb;exact hb)
  have Iu:=Lib.hid Qf
  clear hi3 hs4 hs5 qI Qb Al Qc BO EO BP hr4 hb4 c0 c1 Qf
  go_wp2_with fail
  refine wp_region_noPanic ?_
  refine bW (last:=19) (S:=(fun w'=>w'.cell? ⟨s,0,none⟩=some (.slice a n c)∧w'.cell? ⟨s,1,none⟩=some (.int .i64 nx)∧w'.cell? ⟨s,2,none⟩=some (.slice a4 n4 c4)∧w'.frozen? ⟨s,0,none⟩=false)) (by kernel_rfl) ?_ (fun hS=> ?_)
  ·exact Um.out _ rfl
  refine aT 0 (hS:=hS) (h:= ?_)
  refine aT 1 (hS:=hS) (h:= ?_)
  refine aT 2 (hS:=hS) (h:= ?_)
  refine aT 3 (hS:=hS) (h:= ?_)
  refine aT 4 (hS:=hS) (h:= ?_)
  refine aT 5 (hS:=hS) (h:= ?_)
  refine aT 6 (hS:=hS) (h:= ?_)
  refine aT 7 (hS:=hS) (h:= ?_)
  refine aT 8 (hS:=hS) (h:= ?_)
  refine aT 9 (hS:=hS) (h:= ?_)
  refine aT 10 (hS:=hS) (h:= ?_)
  refine aT 11 (hS:=hS) (h:= ?_)
  refine aT 12 (hS:=hS) (h:= ?_)
  refine aT 13 (hS:=hS) (h:= ?_)
  refine aT 14 (hS:=hS) (h:= ?_)
  refine jF 15 (h:=fun K hK=> ?_)
  go_simp
  have uI:Below w5.heap.size w5 (w5.drew.alloc (.cells #[.int .i64 nx, .slice a4 n4 c4,ptr q] 152)):=(Below.refl _ _).drew.alloc (Nat.le_refl _) _
  refine hK.out _ _ (fun _=>Um.out _ (uI.block s Nw)) (fun hS=> ?_)
  replace hS:=hS (by decide)
  clear hK K
  try simp only[Act.put,List.setIfInBounds_toArray,List.set_cons_zero,List.set_cons_succ]
  refine au (rs:=[16]) (by kernel_rfl) (by simp) ?_
  refine ah.cons (o:= ?o1) ?ho1 (fun K hK=> ?_) ah.nil
  case ho1=>simp only[List.getElem?_toArray,List.getElem?_cons_succ,List.getElem?_cons_zero];rfl
  refine rW (by rfl) (.tmp 35) (.tmp 46) 148 (by rfl) 0 152 i3 _ 3 40 Tryz.underlying148 HI3.out.1 HI3.out.2.1 HI3.out.2.2.1 HI3.out.2.2.2 rfl (by omega) (.slice a n c) n vals (by rfl) (fK Un.out fun b hb hbw=>uI.block b hbw) (some ⟨w5.heap.size,0,none⟩) 1 1 [.int .i64 nx, .slice a4 n4 c4,ptr q] (by rfl) (iy (w:=w5.drew) [.int .i64 nx, .slice a4 n4 c4,ptr q] 152 (by simp[maxLen])) (by simp[Value.oneCell']) (by unfold maxLen;omega) (by omega) (Nat.zero_le _) ?_
  intro A8 c8 w8 qV QW Qg
  have E9:w8.heap[s]? =w5.heap[s]? :=(QW.block s (Nat.lt_of_lt_of_le Nw uI.size) (fun e=>(Iu.out s e.symm).2.1 rfl)).trans (uI.block s Nw)
  have Qh:=Lib.hid qV
  have Uo:=Lib.hid Qg
  have ZQ:Hid (Keeps (fun b=>(Value.slice a n c).ownBlock=some b) w5 w8):=(gJ uI).trans (Keeps.grown QW) fun x _ hx=>hx
  have hz8:w5.heap.size+1≤w8.heap.size:=by have:=QW.size;simp at this;omega
  clear qV Qg QW
  refine hK.out _ _ (fun _=>Um.out _ E9) (fun hS=> ?_)
  replace hS:=hS (by decide)
  clear hK K
  try simp only[Act.put,List.setIfInBounds_toArray,List.set_cons_zero,List.set_cons_succ]
  refine aT 17 (hS:=hS) (h:= ?_)
  refine aT 18 (hS:=hS) (h:= ?_)
  refine jF 19 (h:=fun K hK=> ?_)
  go_simp
  refine hK.out _ _ (fun h=>absurd rfl h) (fun hS=> ?_)
  clear hS hK K
  try simp only[Act.put,List.setIfInBounds_toArray,List.set_cons_zero,List.set_cons_succ]
  refine aV (by kernel_rfl) ?_ _
  refine NoPanic.normal ?_
  have QX:(w8.setCell ⟨s,0,none⟩ (.slice A8 (n+1) c8)).heap[s]? =some (.cells #[.slice A8 (n+1) c8, .int .i64 nx, .slice a4 n4 c4] 150 (0,0)):=bJ (E9.trans LP.out)
  have XU:Hid (Keeps (fun b=>b=s) w8 (w8.setCell ⟨s,0,none⟩ (.slice A8 (n+1) c8))):=Lib.hid (Keeps.gX w8 ⟨s,0,none⟩ (.slice A8 (n+1) c8))
  have XV:(w8.setCell ⟨s,0,none⟩ (.slice A8 (n+1) c8)).heap.size=w8.heap.size:=size_set _ _ _
  have ZR:=Lib.hid XV
  clear XV
  generalize w8.setCell ⟨s,0,none⟩ (.slice A8 (n+1) c8)=w9 at*
  have q1:w9.cell? ⟨s,1,none⟩=some (.int .i64 nx):=by simp[World.cell?,QX]
  have qf:w9.frozen? ⟨s,1,none⟩=false:=by simp[World.frozen?,QX]
  have e1:IntKind.i64.wrap (nx+1)=nx+1:=IntWalk.i64_in _ (by omega)
  have e2:IntKind.i64.wrap (nx+1-1)=nx:=by rw[show nx+1-1=nx by omega];exact IntWalk.i64_in _ (by omega)
  have Ny:(w9.setCell ⟨s,1,none⟩ (.int .i64 (nx+1))).heap[s]? =some (.cells #[.slice A8 (n+1) c8, .int .i64 (nx+1), .slice a4 n4 c4] 150 (0,0)):=bJ QX
  have q10:(w9.setCell ⟨s,1,none⟩ (.int .i64 (nx+1))).cell? ⟨s,1,none⟩=some (.int .i64 (nx+1)):=by simp[World.cell?,Ny]
  have Mk:=Lib.hid Ny
  clear E9 QX Ny uI
  go_wp2_with fail
  go_ret2
  have hlen:(nU (S.last++sv)).length=n4:=by simpa using Qe.out.length
  have hK4:Keeps (fun b=>b=s∨(Value.slice a n c).ownBlock=some b) w4 (w9.setCell ⟨s,1,none⟩ (.int .i64 (nx+1))):=by
   have k1:Keeps (fun b=>b=s∨(Value.slice a n c).ownBlock=some b) w4 w5:=Uj.out.mono fun x _ hx=>Or.inl hx
   have k2:Keeps (fun b=>b=s∨(Value.slice a n c).ownBlock=some b) w5 w8:=ZQ.out.mono fun x _ hx=>Or.inr hx
   have k3:Keeps (fun b=>b=s∨(Value.slice a n c).ownBlock=some b) w8 w9:=XU.out.mono fun x _ hx=>Or.inl hx
   have k4:Keeps (fun b=>b=s∨(Value.slice a n c).ownBlock=some b) w9 (w9.setCell ⟨s,1,none⟩ (.int .i64 (nx+1))):=(Keeps.gX w9 ⟨s,1,none⟩ _).mono fun x _ hx=>Or.inl hx
   exact((k1.trans k2 fun x _ hx=>hx).trans k3 fun x _ hx=>hx).trans k4 fun x _ hx=>hx
  have ZT:Keeps (fun b=>b=s∨(Value.slice a n c).ownBlock=some b) w (w9.setCell ⟨s,1,none⟩ (.int .i64 (nx+1))):=(gJ (HB1.out.trans (Ul.out.mono HB1.out.size))).trans hK4 fun x _ hx=>hx
  have hat:(Value.slice A8 (n+1) c8).ownBlock=(Value.slice a n c).ownBlock∨(Value.slice A8 (n+1) c8).ownBlock=some (w5.heap.size+1):=by
   rcases Uo.out with h9|h9
   ·exact .inl h9
   ·right;rw[h9];simp
  have hz:=QV.out
  have Qi:(w9.setCell ⟨s,1,none⟩ (.int .i64 (nx+1))).heap.size=w8.heap.size:=(size_set _ _ _).trans ZR.out
  have Ke:∀b,b<w4.heap.size→o b=0→(Value.slice A8 (n+1) c8).ownBlock≠some b:=fun b hb h0 he=>by
   rcases hat with h9|h9
   ·rw[h9]at he
    have:=(Iu.out b he).1
    exact hi (by rw[←this,h0])
   ·rw[h9]at he
    cases he
    omega
  have Da:∀b,w.heap.size≤b→o b=0:=fun b hb=>Decidable.byContradiction fun h0=>by have:=(HM.out.new b h0).2;omega
  have hfp:∀b,o b=0→¬(b=s∨(Value.slice a n c).ownBlock=some b):=fun b h0 h=>by
   rcases h with h|h
   ·have:=XQ.out;rw[←h,h0]at this;exact hi this.symm
   ·have:=(Iu.out b h).1;rw[h0]at this;exact hi this.symm
  refine⟨by rw[H6.out];rfl,?_⟩
  rw[←Ui.out]
  obtain⟨g,D,mb,ib,nb,hA,hg,hD⟩:=zY.out
  refine Iq (x:=⟨S.next,nU (S.last++sv),fu T⟩) (v:= .slice a n c) (v8:= .slice A8 (n+1) c8) (a9:=a4) (c9:=c4) (q:=q) HM.out hi XQ.out h3 Iu.out Ey.out ?_ ?_ ?_ ZT (by show(nU (S.last++sv)).length≤c4;omega) ?_ ⟨g,D,mb,ib,nb,hA.keeps hK4 fun b hb=>hfp b ?_,fun b hb=> ?_⟩ XR.out
  ·have h9:=Mk.out
   rw[H6.out,←hlen]at h9
   rw[H6.out]
   exact h9
  ·show World.ownsRow _ 0 _ 3 (.slice A8 (n+1) c8) (S.l.length+1) (vals++[.int .i64 S.next, .slice a4 (nU (S.last++sv)).length c4,ptr q])
   rw[hlen,←H6.out,←HN.out]
   refine fK Qh.out fun b hb hbw=> ?_
   have hbs:b≠s:=fun e=>by
    rcases hat with h9|h9
    ·rw[h9]at hb;exact(Iu.out b hb).2.1 e
    ·rw[h9]at hb;cases hb;omega
   exact(bg _ _ _ _ hbs).trans (XU.out.block b hbw hbs)
  ·rcases hat with h9|h9
   ·exact .inl h9
   ·exact .inr ⟨_,h9,by omega⟩
  ·show ak _ _ a4 (nU (S.last++sv)).length ((nU (S.last++sv)).map bv)
   rw[hlen]
   have h45:w4.heap.size≤w5.heap.size:=by omega
   refine Qe.out.move (by rw[Qi];omega) fun b hb hbw=>⟨⟨hb.1,by rw[Qi];omega,Ke b hb.2 (Da b hb.1)⟩,?_⟩
   have hn:=hfp b (Da b hb.1)
   have hbs:b≠s:=fun e=>hn (.inl e)
   exact(hK4.block b hb.2 hn).trans (Uk.out b hb.2 hbs).symm
  ·rcases hb with hb|hb
   ·exact hg b hb
   ·exact hD b hb
  ·have h0:o b=0:=by
    rcases hb with hb|hb
    ·exact hg b hb
    ·exact hD b hb
   refine⟨h0,Ke b ?_ h0⟩
   rcases hb with hb|hb
   ·exact hA.low b hb
   ·exact hA.lG b hb
end
end Go.Proofs.YtohpcppeajijnaaGreat
namespace Go.Proofs
open Go.Shelf
end Go.Proofs
namespace Go.Proofs.YtohpcppeajijnaaGreat
open Go.ChangeShapes Go.WideShapes Go.ChangeAt Go.RowKit
set_option linter.unusedVariables false
set_option linter.unusedSimpArgs false
theorem KH:(Tryz.prog.info? 3).map (fun i=>(i.zero,i.size,i.bytes))=some (some (.int .i64 0),1,8):=by kernel_rfl
def Nz (x:bF) (now:Int):Bool:=decide (x.kind=1)&&x.closed&&decide (now<x.aQ)
def Qj (T:aH) (now:Int):List Int:=(T.filter fun q=>Nz q.2 now).map (·.1)
theorem Iw (zs:List Int):∀u∈zs.map (Value.int .i64),u.oneCell'=true:=by
 intro u hu;obtain⟨x,_,rfl⟩:=List.mem_map.1 hu;rfl
theorem EP {w w':World} {base:Nat} {e:TypeId} {size:Nat} {v:Value} {n:Nat} {xs:List Value} {fp:Nat→Prop} (h:w.ownsRow base e size v n xs) (hK:Keeps fp w w') (hn:∀b,v.ownBlock=some b→¬fp b):w'.ownsRow base e size v n xs:=by
 refine⟨h.1,?_⟩
 rcases h.2 with h0|⟨g,cap,cur,rfl,hb,hg,r⟩
 ·exact .inl h0
 ·exact .inr ⟨g,cap,cur,rfl,hb,(hK.block g (Array.getElem?_eq_some_iff.1 hg).1 (hn g rfl)).trans hg,r⟩
theorem KI {w:World} {base:Nat} {e:TypeId} {size:Nat} {v:Value} {n:Nat} {xs:List Value} (h:w.ownsRow base e size v n xs):∀b,v.ownBlock=some b→b<w.heap.size:=by
 intro b hb
 rcases h.2 with⟨rfl,_⟩|⟨g,cap,cur,rfl,_,hg,_⟩
 ·cases hb
 ·cases hb;exact(Array.getElem?_eq_some_iff.1 hg).1
section
variable {g:Nat→Own} {D:Nat→Prop} {p mb:Nat} {ib nb:Int→Nat} {T:aH}
end
section
variable {W w:World} {P:Nat→Prop} {p:Nat} {T:aH}
end
def allM (S:uh):List Int:=S.l.map (·.id)
theorem ER {l:List iB} {k:Nat} {x:iB} (h:l[k]? =some x):(l.take (k+1)).map iB.id=(l.take k).map iB.id++[x.id]:=by
 obtain⟨hk,e⟩:=List.getElem?_eq_some_iff.1 h
 rw[List.take_succ_eq_append_getElem hk,e,List.map_append];rfl
section
variable {w:World} {o:Mark} {i s:Nat} {S:uh}
set_option maxRecDepth 100000 in
set_option maxHeartbeats 8000000 in
theorem KJ (h:jC o i w s S) (jd:S.l.length≤1000):Calls Tryz.prog 53 #[ptr s] w (tZ w (allM S)):=by
 obtain⟨ti,hi,hz0,hz1,hz2⟩:=info_parts KH
 obtain⟨v,la,lc,vals,h1,h2,h3,h4,h5,h6,h7,h8⟩:=h.at_
 obtain⟨a,c,rfl,hcap⟩:=eP h4
 obtain⟨-,-,hrow⟩:=ak.tV h4 (by unfold maxLen;omega)
 have c0:w.cell? ⟨s,0,none⟩=some (.slice a S.l.length c):=by simp[World.cell?,h1]
 unfold allM
 obtain⟨l,hl⟩:∃l,l=S.l:=⟨_,rfl⟩
 rw[←hl]at c0 hrow hcap jd h6⊢
 obtain⟨n,hnl⟩:∃n,n=l.length:=⟨_,rfl⟩
 rw[←hnl]at c0 hrow hcap jd
 have HR:=Lib.hid hrow
 have Ey:=Lib.hid h6
 have I8:=Lib.hid hnl
 clear h h1 h2 h4 h5 h6 h7 h8 hrow hnl hl
 go_enter Tryz.func53,Tryz.ntmps53
 go_wp2_with fail
 go_loopw [3,11] (fun v i wr=>∃k:Nat,k≤n∧i= .int .i64 k∧wr.ownsRow w.heap.size 3 1 v k (((l.take k).map iB.id).map (Value.int .i64))∧Below w.heap.size w wr) (fun _ i _=>n-(intOf i).toNat)
 case atStart=>exact⟨0,by omega,rfl,⟨rfl, .inl ⟨rfl,rfl⟩⟩,Below.refl _ _⟩
 case round=>
  obtain⟨k,hk,rfl,hO,hb⟩:=hrel
  have hbs:=hb.size
  by_cases hlt:k<n
  ·obtain⟨g,off,rfl,_,hgw,hcell⟩:=HR.out.at_ (by omega)
   obtain⟨x,hx⟩:∃x,l[k]? =some x:=⟨l[k]'(by have:=I8.out;omega),List.getElem?_eq_getElem _⟩
   obtain⟨ha,hcp,q,e0,e1,e2,_⟩:=Ey.out.at_ hx
   have d0:wr.cell? ⟨g,off+k*3,none⟩=some (.int .i64 x.id):=(hb.cell (p:=⟨g,off+k*3,none⟩) hgw).trans ((hcell (k*3) (by omega)).trans e0)
   have d1:wr.cell? ⟨g,off+k*3+1,none⟩=some (.slice ha x.hash.length hcp):=(hb.cell (p:=⟨g,off+k*3+1,none⟩) hgw).trans ((hcell (k*3+1) (by omega)).trans e1)
   have d2:wr.cell? ⟨g,off+k*3+2,none⟩=some (ptr q):=(hb.cell (p:=⟨g,off+k*3+2,none⟩) hgw).trans ((hcell (k*3+2) (by omega)).trans e2)
   have QK:=Lib.hid (ER hx)
   have HO:=Lib.hid hO
   have DI:=Lib.hid hb
   obtain⟨a5,c5,rfl,ZU⟩:=eP hO
   have hb5:Below wr.heap.size wr ((wr.alloc (.cells #[.int .i64 x.id, .slice ha x.hash.length hcp,ptr q] 152)).alloc (.cells #[.int .i64 x.id] 3)):=(wall wr _).trans ((wall _ _).mono (by simp))
   have O9:=Lib.hid (own_below HO.out hb5)
   have iY:=Lib.hid hb5
   have yw:=Lib.hid (tO (w:=wr.alloc (.cells #[.int .i64 x.id, .slice ha x.hash.length hcp,ptr q] 152)) (.int .i64 x.id) 3)
   rw[World.size_alloc]at yw
   have wH:=hb5.size
   clear hx hcell e0 e1 e2 hO hb hb5
   go_wp2_with (at_builtin;(refine bC (by rfl) _ _ 37 (by rfl) w.heap.size 3 ti (.int .i64 0) 8 Tryz.underlying37 hi hz0 hz1 hz2 rfl _ _ _ (by rfl) O9.out (some ⟨wr.heap.size+1,0,none⟩) 1 1 [.int .i64 x.id] (by rfl) yw.out (Iw [x.id]) (by unfold maxLen;omega) (by omega) (Nat.le_trans hbs wH) ?_);intro A' c' w6 hown6 Iy _ _)
   have Sn:=Lib.hid hown6
   have ZV:=Lib.hid Iy
   clear hown6 Iy
   go_roundw
   case rel=>
    refine⟨k+1,by omega,by go_num,?_,?_⟩
    ·rw[QK.out,List.map_append]
     exact Sn.out
    ·exact(DI.out.trans (iY.out.mono hbs)).grown ZV.out (by omega) (fO O9.out)
   case measure=>simp[intOf];omega
  ·obtain rfl:n=k:=by omega
   rw[List.take_of_length_le (by rw[I8.out];exact Nat.le_refl _)]at hO
   obtain⟨a2,c2,rfl,hac⟩:=eP hO
   have HO:=Lib.hid hO
   have DI:=Lib.hid hb
   clear hO hb
   go_wp2
   go_ret
   have:=(ak.mW HO.out).2
   have e1:=I8.out
   subst e1
   rw[show l.length=(l.map iB.id).length from(List.length_map _).symm]at this hac⊢
   exact⟨a2,c2,rfl,hac,this.mono (fun b hb=>⟨by omega,hb.2⟩),DI.out⟩
end
def Iz (T:aH) (now:Int):Bool:=decide (0<(Qj T now).length)
def Uq (S:uh) (k:Nat):uh:=⟨S.l.take k++S.l.drop (k+1),S.next,S.last⟩
def Db (S:uh) (id now er:Int) (S':uh):Prop:=
 (er=29∧S'=S∧∀x∈S.l,x.id≠id)∨∃(k:Nat) (x:iB),S.l[k]? =some x∧x.id=id∧(∀x'∈S.l.take k,x'.id≠id)∧((Iz x.t now=true∧er=28∧S'=S)∨(Iz x.t now=false∧er=0∧S'=Uq S k))
theorem oO.one {o:Mark} {w:World} {vs:List Value} {x:iB} (h:oO o w vs x):∀u∈vs,u.oneCell'=true:=by
 obtain⟨a,c,q,h1,_⟩:=h
 intro u hu
 rw[h1]at hu
 simp only[List.mem_cons,List.not_mem_nil,or_false]at hu
 rcases hu with rfl|rfl|rfl<;>rfl
theorem dU.one {o:Mark} {w:World}:∀{vs:List Value} {l:List iB},dU o w vs l→∀u∈vs,u.oneCell'=true
 |_,[],h=>by have h1:_=[]:=h;rw[h1];intro u hu;cases hu
 |_,x::r,⟨v1,v2,h1,h2,h3⟩=>by
  intro u hu
  rw[h1]at hu
  rcases List.mem_append.1 hu with hu|hu
  ·exact h2.one u hu
  ·exact dU.one h3 u hu
section
variable {W w:World} {o:Mark} {i s:Nat} {S:uh}
end
theorem BQ {S:uh} {T:aH} (h:S.l.length<8):∃x S',lS S T=((S.next,0),S')∧S'.l=S.l++[x]∧x.id=S.next∧x.t=fu T∧S'.next=S.next+1∧x.hash=S'.last∧S'.last=nU (S.last++gT (fu T))∧S'.last.length=32:=by
 refine⟨⟨S.next,nU (S.last++gT (fu T)),fu T⟩,_,by unfold lS;rw[if_neg (by omega)],rfl,rfl,rfl,rfl,rfl,rfl,Ib _⟩
structure vS (W:World) (o:Mark) (w:World) (b s t:Nat) (S:uh) (T:aH):Prop where
 box:∃x y:Nat,w.heap[b]? =some (.cells #[ptr s,ptr t,ptr x,ptr y] 62 (0,0))
 own:o b=3
 low:b<w.heap.size
 marks:Marks W o w
 sn:jC o 1 w s S
 tr:eU o 2 w t T
 ok:dA T
 len:S.l.length≤8
 last:S.last.length≤64
 next:0≤S.next
section
variable {W w:World} {o:Mark} {b s t:Nat} {S:uh} {T:aH}
theorem vS.grow (h:vS W o w b s t S T) {w':World} (hb:Below w.heap.size w w'):vS W o w' b s t S T:=by
 obtain⟨x,y,hx⟩:=h.box
 exact⟨⟨x,y,(hb.block b h.low).trans hx⟩,h.own,Nat.lt_of_lt_of_le h.low hb.size,h.marks.step (I:=fun _=>False) (fun e=>e) (Step.grow h.marks hb),h.sn.grow h.marks hb,h.tr.grow hb,h.ok,h.len,h.last,h.next⟩
theorem vS.snaps (h:vS W o w b s t S T) {w':World} {o':Mark} {S':uh} (hs:Step o (fun k=>k=1) w o' w') (hS:jC o' 1 w' s S') (hl:S'.l.length≤8) (hl2:S'.last.length≤64) (hn:0≤S'.next):vS W o' w' b s t S' T:=by
 obtain⟨x,y,hx⟩:=h.box
 have h0:¬(fun k:Nat=>k=1) 0:=by simp
 exact⟨⟨x,y,(hs.block h.low (by rw[h.own];simp)).trans hx⟩,(hs.old b h.low).trans h.own,Nat.lt_of_lt_of_le h.low hs.keep.size,h.marks.step h0 hs,hS,h.tr.step h0 (by simp) hs,h.ok,hl,hl2,hn⟩
theorem vS.take (h:vS W o w b s t S T) (hn:S.next≤1000000000):Calls Tryz.prog 38 #[ptr s,ptr t] w fun e w'=>e= .returned (.tuple #[.int .i64 (lS S T).1.1, .int .i64 (lS S T).1.2])∧∃o',vS W o' w' b s t (lS S T).2 T:=by
 refine(Ir h.sn h.tr h.marks (by omega) h.ok h.len h.last h.next hn).mono ?_
 rintro e w' ⟨rfl,o',hs,hS⟩
 refine⟨rfl,o',h.snaps hs hS ?_ ?_ ?_⟩
 all_goals
  by_cases hf:S.l.length<8
  ·obtain⟨x,S',e1,e2,e3,e4,e5,e6,e7,e8⟩:=BQ (T:=T) hf
   have:=h.next
   rw[e1]
   first
    |(rw[e2,List.length_append];simp;omega)
    |(rw[e8];omega)
    |(rw[e5];omega)
  ·have e1:lS S T=((0,4),S):=by unfold lS;rw[if_pos (by omega)]
   rw[e1]
   first
    |exact h.len
    |exact h.last
    |exact h.next
theorem Db.next {S S':uh} {id now er:Int} (h:Db S id now er S'):S'.next=S.next∧S'.last=S.last∧S'.l.length≤S.l.length:=by
 rcases h with⟨_,rfl,_⟩|⟨k,x,hx,_,_,h⟩
 ·exact⟨rfl,rfl,Nat.le_refl _⟩
 ·rcases h with⟨_,_,rfl⟩|⟨_,_,rfl⟩
  ·exact⟨rfl,rfl,Nat.le_refl _⟩
  ·refine⟨rfl,rfl,?_⟩
   show(S.l.take k++S.l.drop (k+1)).length≤_
   rw[List.length_append,List.length_take,List.length_drop];omega
theorem vS.all (h:vS W o w b s t S T):Calls Tryz.prog 53 #[ptr s] w (tZ w (allM S)):=KJ h.sn (by have:=h.len;omega)
end
theorem IB (W w:World) (o:Mark) (hM:Marks W o w) (j:Nat) (hj:j≠0):Calls Tryz.prog 10 #[] w fun e w'=>∃p o',e= .returned (ptr p)∧Step o (fun k=>k=j) w o' w'∧eU o' j w' p jE∧Below w.heap.size w w':=by
 refine(Cq w).mono ?_
 rintro e w' ⟨g,mb,ib,nb,p,rfl,hA,hg,hb⟩
 obtain⟨o',hs,h1,h2⟩:=vJ hM j (fun b=>g b≠ .none) (w':=w') (fun b hb'=>⟨hg b hb',hA.low b hb'⟩) hb
 exact⟨p,o',rfl,hs,⟨g,_,mb,ib,nb,hA,fun b hb'=>h1 b hb',fun b hb'=>hb'.elim⟩,hb⟩
theorem jZ {w:World} {vs:List Value} {ls:List Nm} {n:Nat} (t:TypeId) (h:vs=(ls.map strOf).map Value.string) (hn:vs.length=n) (hm:n≤1000) (hs:∀l∈ls,l.length≤1000):aG (fun b=>b=w.heap.size) (w.alloc (.cells vs.toArray t)) (some ⟨w.heap.size,0,none⟩) n (ls.map strOf):=by
 subst hn
 refine⟨?_,fun s hs'=> ?_⟩
 ·rw[←h]
  exact iy vs t (by unfold maxLen;omega)
 ·obtain⟨l,hl,rfl⟩:=List.mem_map.1 hs'
  rw[dF]
  have:=hs l hl
  unfold maxLen;omega
end Go.Proofs.YtohpcppeajijnaaGreat
