/- package snap: Take. DERIVED: THE SHELF's CONTRACTS AT THIS DUMP, IN PLAIN WORDS (tools/lay-plain.mjs out of 'YtjnhnlabpccgjaaGreatLaypOneLay.lean', which tools/lay-shelf.mjs wrote): THE SAME DECLARATIONS UNDER THE SAME NAMES: 'import', 'namespace', 'open', 'def', 'theorem' AND NOTHING ELSE: no command of the shelf's: FOR A HAND-IN. Each laying: the table of numbers ('.._ren') and one theorem, a field a fact of the dump's own or the kernel's comparison; each contract: ONE APPLICATION. slices.Concat of rows of snapshots. The contracts of package clock, and known of permafrostlaw8: what each call returns; the world stays as it was. The contracts of package worm's rules for one node: what each call returns; what was there stays as it was. worm.Live, worm.Bound of a tree. package snap: All. package snap: Forget. -/
import Derived.Test.YtjnhnlabpccgjaaGreatM18
import Derived.Test.YtjnhnlabpccgjaaGreatM21
import Derived.Test.YtjnhnlabpccgjaaGreatM16
import Derived.Test.YtjnhnlabpccgjaaGreatProg
import Derived.Shelf.Spec.SlicesGrow
import Derived.Test.YtjnhnlabpccgjaaGreatM01
import Derived.Test.YtjnhnlabpccgjaaGreatM12
import Derived.Test.YtjnhnlabpccgjaaGreatM10
namespace Go.Proofs.YtjnhnlabpccgjaaGreat
open Go.ChangeShapes Go.WideShapes Go.ChangeAt Go.RowKit
set_option linter.unusedVariables false
set_option linter.unusedSimpArgs false
def dI (S:jc) (T:aA):(Int×Int)×jc:=
 if 8≤S.l.length then((0,4),S)else
 ((S.next,0),⟨S.l++[⟨S.next,jR (S.last++bZ (bf T)),bf T⟩],S.next+1,jR (S.last++bZ (bf T))⟩)
theorem EI {T:aA} (hT:eH T):(bZ T).length≤6000000:=by
 have h1:=rX hT T (fun q hq=>hq)
 have h2:=hT.len
 unfold bZ
 rw[List.length_append,bO]
 omega
section
variable {W w:World} {o:Mark} {i j s p:Nat} {S:jc} {T:aA}
open Classical in
theorem Oy {w9:World} {v v8:Value} {vals:List Value} {x:dX} {a9:Option Addr} {c9 q:Nat} (hM:Marks W o w) (hi:i≠0) (hos:o s=i) (hsw:s<w.heap.size) (YH:∀b,v.ownBlock=some b→o b=i∧b≠s∧b<w.heap.size)
  (hO:vQ o w vals S.l) (hh:w9.heap[s]? =some (.cells #[v8, .int .i64 (S.next+1), .slice a9 x.hash.length c9] 80 (0,0))) (hown:w9.ownsRow 0 84 3 v8 (S.l.length+1) (vals++[.int .i64 x.id, .slice a9 x.hash.length c9,ptr q]))
  (hat:v8.ownBlock=v.ownBlock∨∃b,v8.ownBlock=some b∧w.heap.size≤b) (hK:Keeps (fun b=>b=s∨v.ownBlock=some b) w w9)
  (QA:x.hash.length≤c9) (Q9:ah (fun b=>w.heap.size≤b∧b<w9.heap.size∧v8.ownBlock≠some b) w9 a9 x.hash.length (x.hash.map bv)) (hq:∃g D mb ib nb,aH g D w9 q mb ib nb x.t∧∀b,g b≠ .none∨D b→o b=0∧v8.ownBlock≠some b) (hT:eH x.t):
  ∃o',Step o (fun k=>k=i) w o' w9∧jO o' i w9 s ⟨S.l++[x],S.next+1,x.hash⟩:=by
 obtain⟨o',ho⟩:∃o':Mark,∀b,o' b=if v8.ownBlock=some b∧w.heap.size≤b then i else o b:=⟨_,fun _=>rfl⟩
 have Oz:∀b,v8.ownBlock=some b→b<w9.heap.size:=kJ hown
 have hst:Step o (fun k=>k=i) w o' w9:=by
  refine⟨fun b hb=>by rw[ho,if_neg (fun h=>by omega)],fun b hb hn=> ?_,hK.mono fun b hb h=> ?_⟩
  ·by_cases h:v8.ownBlock=some b∧w.heap.size≤b
   ·rw[ho,if_pos h];exact⟨rfl,Oz b h.1⟩
   ·rw[ho,if_neg h]at hn;have:=(hM.new b hn).2;omega
  ·rcases h with h|h
   ·rw[h];exact hos
   ·exact(YH b h).1
 have hi0:¬(fun k=>k=i) 0:=fun e=>hi e.symm
 have hfree:∀b,o b=0→v8.ownBlock≠some b→o' b=0:=fun b h0 hn=>by rw[ho,if_neg (fun h=>hn h.1)];exact h0
 have Jm:∀b,w.heap.size≤b→o b=0:=fun b hb=>Decidable.byContradiction fun h0=>by have:=(hM.new b h0).2;omega
 have hrf:ah (fun b=>o' b=0∧b<w9.heap.size) w9 a9 x.hash.length (x.hash.map bv):=Q9.mono fun b hb=>⟨hfree b (Jm b hb.1) hb.2.2,hb.2.1⟩
 refine⟨o',hst,⟨v8,a9,c9,vals++[.int .i64 x.id, .slice a9 x.hash.length c9,ptr q],hh,(hst.old s hsw).trans hos,Nat.lt_of_lt_of_le hsw hK.size,?_,fun b hb=> ?_,?_,QA,hrf⟩⟩
 ·rw[List.length_append];exact hown
 ·rcases hat with h1|⟨b',h1,h2⟩
  ·rw[h1]at hb
   obtain⟨k1,k2,k3⟩:=YH b hb
   exact⟨(hst.old b k3).trans k1,k2,Nat.lt_of_lt_of_le k3 hK.size⟩
  ·rw[h1]at hb
   cases hb
   exact⟨by rw[ho,if_pos ⟨h1,h2⟩],by omega,Oz _ h1⟩
 ·refine fI.append (hO.step hi0 hst) ⟨_,[],by simp,⟨a9,c9,q,rfl,QA,hrf,?_,hT⟩,rfl⟩
  obtain⟨g,D,mb,ib,nb,hA,hg⟩:=hq
  exact⟨g,D,mb,ib,nb,hA,fun b hb=>hfree b (hg b (.inl hb)).1 (hg b (.inl hb)).2,fun b hb=>hfree b (hg b (.inr hb)).1 (hg b (.inr hb)).2⟩
set_option maxRecDepth 100000 in
set_option maxHeartbeats 8000000 in
theorem rF (hS:jO o i w s S) (hTr:fH o j w p T) (hM:Marks W o w) (hi:i≠0) (hT:eH T) (KM:S.l.length≤8) (hla:S.last.length≤64) (hnx:0≤S.next) (Vu:S.next≤1000000000):
  Calls Tryz.prog 35 #[ptr s,ptr p] w fun e w'=>e= .returned (.tuple #[.int .i64 (dI S T).1.1, .int .i64 (dI S T).1.2])∧∃o',Step o (fun k=>k=i) w o' w'∧jO o' i w' s (dI S T).2:=by
 have HS:=Lib.hid hS
 have HM:=Lib.hid hM
 obtain⟨v,la,lc,vals,h1,h2,h3,h4,h5,h6,h7,h8⟩:=hS.at_
 obtain⟨a,c,rfl,hcap⟩:=cO h4
 have q0:w.cell? ⟨s,0,none⟩=some (.slice a S.l.length c):=by simp[World.cell?,h1]
 by_cases hfull:8≤S.l.length
 ·have e1:dI S T=((0,4),S):=by unfold dI;rw[if_pos hfull]
  rw[e1]
  have hd:decide ((8:Int)≤(S.l.length:Int))=true:=by simp;omega
  obtain⟨n,hn⟩:∃n,n=S.l.length:=⟨_,rfl⟩
  rw[←hn]at q0 hd
  clear hS hM h1 h2 h4 h5 h6 h7 h8 hcap hfull e1 KM hn hTr hT
  go_enter Tryz.func35,Tryz.ntmps35
  go_wp2_with fail
  go_ret2
  exact⟨rfl,o,Step.grow HM.out (Below.refl _ _),HS.out⟩
 ·have e1:dI S T=((S.next,0),⟨S.l++[⟨S.next,jR (S.last++bZ (bf T)),bf T⟩],S.next+1,jR (S.last++bZ (bf T))⟩):=by unfold dI;rw[if_neg hfull]
  rw[e1]
  have hd:decide ((8:Int)≤(S.l.length:Int))=false:=by simp;omega
  have q1:w.cell? ⟨s,1,none⟩=some (.int .i64 S.next):=by simp[World.cell?,h1]
  have q2:w.cell? ⟨s,2,none⟩=some (.slice la S.last.length lc):=by simp[World.cell?,h1]
  have HC:=Lib.hid (sO hTr hM hT)
  have HH:=Lib.hid h1
  have HOW:=Lib.hid h4
  have DX:=Lib.hid h6
  have HLA:=Lib.hid h8
  have RL:=Lib.hid h7
  have RN:=Lib.hid h2
  have Uk:=Lib.hid h5
  have KN:=hT.bf
  have YI:=Lib.hid KN
  have hsl:=EI KN
  obtain⟨n,hn⟩:∃n,n=S.l.length:=⟨_,rfl⟩
  obtain⟨m,hm⟩:∃m,m=S.last.length:=⟨_,rfl⟩
  obtain⟨nx,uL⟩:∃nx,nx=S.next:=⟨_,rfl⟩
  rw[←uL]at hnx Vu q1
  rw[←hm]at q2 hla
  rw[←hn]at q0 hd hcap KM
  have HN:=Lib.hid hn
  have XG:=Lib.hid hm
  have EH:=Lib.hid uL
  clear hS hM h1 h2 h4 h5 h6 h7 h8 hfull e1 hn hm hTr hT KN uL
  go_enter Tryz.func35,Tryz.ntmps35
  go_wp2_with fail
  (with_reducible refine HC.out.mono ?_)
  rintro e w1 ⟨q,rfl,hT1,hb1⟩
  have HT1:=Lib.hid hT1
  have HB1:=Lib.hid hb1
  have QH:=Lib.hid (Ry (hT1.grow (Below.refl _ _).drew) YI.out)
  have YJ:s<w1.heap.size:=by have:=hb1.size;omega
  have iK:Hid (∀w',Below w1.heap.size w1 w'→w'.cell? ⟨s,2,none⟩=some (.slice la m lc)∧w'.frozen? ⟨s,2,none⟩=false):=fun w' hb=>by
   have hbb:=(hb.block s YJ).trans ((hb1.block s h3).trans HH.out)
   refine⟨?_,by simp[World.frozen?,hbb]⟩
   rw[XG.out]
   simp[World.cell?,hbb]
  have c0:=(hb1.cell (p:=⟨s,0,none⟩) h3).trans q0
  have c1:=(hb1.cell (p:=⟨s,1,none⟩) h3).trans q1
  obtain⟨sv,hsv⟩:∃sv,sv=bZ (bf T):=⟨_,rfl⟩
  rw[←hsv]at QH hsl
  have EJ:=Lib.hid hsv
  clear hT1 hb1 hsv q0 q1 q2
  go_wp2_with fail
  refine qF 12 ((fun w'=>w'.cell? ⟨s,2,none⟩=some (.slice la m lc)∧w'.frozen? ⟨s,2,none⟩=false)) ?_ fun hS=> ?_
  ·exact iK.out _ (Below.refl _ _).drew
  refine ak 0 hS ?_
  refine ak 1 hS ?_
  refine ak 2 hS ?_
  refine ak 3 hS ?_
  refine ak 4 hS ?_
  refine ak 5 hS ?_
  refine bK 6 fun K hK=> ?_
  go_simp
  (with_reducible refine QH.out.mono ?_)
  rintro e w2 ⟨a2,n2,c2,rfl,hn2,hr2,hb2⟩
  have Hl:Below w1.heap.size w1 w2:=(Below.refl _ _).drew.trans hb2
  have hl2:sv.length=n2:=by simpa using hr2.length
  have HCC:=Lib.hid (yS la m lc S.last a2 n2 c2 sv w2 (by rw[XG.out];exact HLA.out.below (HB1.out.trans (Hl.mono HB1.out.size)) (Nat.le_refl _)) hr2 (by omega))
  have HL2:=Lib.hid hl2
  clear hr2 hb2 hl2
  go_wp2_with fail
  refine bR hK (iK.out _ Hl) fun hS=> ?_
  clear hK K
  refine bK 7 fun K hK=> ?_
  go_simp
  refine bR hK (iK.out _ (Hl.trans ((wall w2 _).mono Hl.size))) fun hS=> ?_
  clear hK K
  refine bK 8 fun K hK=> ?_
  go_simp
  (with_reducible refine HCC.out.mono ?_)
  rintro e w3 ⟨a3,c3,rfl,hc3,hr3,hb3⟩
  have KO:Below w1.heap.size w1 w3:=Hl.trans (hb3.mono Hl.size)
  have XH:=Lib.hid (RJ a3 (m+n2) c3 (S.last++sv) w3 hr3 (by have:=HL2.out;omega) hc3.1)
  clear hc3 hr3 hb3
  go_wp2_with fail
  refine bR hK (iK.out _ KO) fun hS=> ?_
  clear hK K
  refine bK 9 fun K hK=> ?_
  go_simp
  (with_reducible refine XH.out.mono ?_)
  rintro e w4 ⟨a4,n4,c4,rfl,hn4,hr4,hb4⟩
  have Ho:Below w1.heap.size w1 w4:=KO.trans (hb4.mono KO.size)
  go_wp2_with fail
  refine bR hK (iK.out _ Ho) fun hS=> ?_
  clear hK K
  refine ak 10 hS ?_
  refine ak 11 hS ?_
  refine bK 12 fun K hK=> ?_
  go_simp
  refine j_ hK ?_
  clear hS hK K
  have hs4:w4.heap[s]? =some (.cells #[.slice a n c, .int .i64 nx, .slice la m lc] 80 (0,0)):=by
   have:=(Ho.block s YJ).trans ((HB1.out.block s h3).trans HH.out)
   rw[HN.out,XG.out,EH.out]
   exact this
  have hs5:(w4.setCell ⟨s,2,none⟩ (.slice a4 n4 c4)).heap[s]? =some (.cells #[.slice a n c, .int .i64 nx, .slice a4 n4 c4] 80 (0,0)):=aG hs4
  have vL:Keeps (fun b=>b=s) w (w4.setCell ⟨s,2,none⟩ (.slice a4 n4 c4)):=(gU (HB1.out.trans (Ho.mono HB1.out.size))).trans (Keeps.fq w4 ⟨s,2,none⟩ _) fun x _ hx=>hx
  have YK:ah (fun b=>w.heap.size≤b∧b<w4.heap.size) (w4.setCell ⟨s,2,none⟩ (.slice a4 n4 c4)) a4 n4 ((jR (S.last++sv)).map bv):=hr4.move (by rw[size_set];exact Nat.le_refl _) fun b hb hbw=>⟨⟨by have:=KO.size;have:=HB1.out.size;omega,hb.2⟩,aK _ _ _ _ (by have:=KO.size;simp only;omega)⟩
  have Qz:=(HT1.out.grow Ho)
  have F7:(w4.setCell ⟨s,2,none⟩ (.slice a4 n4 c4)).heap.size=w4.heap.size:=size_set _ _ _
  have h14:w.heap.size≤w4.heap.size:=Nat.le_trans HB1.out.size Ho.size
  have YL:∀b,b<w4.heap.size→b≠s→(w4.setCell ⟨s,2,none⟩ (.slice a4 n4 c4)).heap[b]? =w4.heap[b]? :=fun b _ hn=>aK _ _ _ _ hn
  have YM:Keeps (fun b=>b=s) w4 (w4.setCell ⟨s,2,none⟩ (.slice a4 n4 c4)):=Keeps.fq w4 ⟨s,2,none⟩ _
  generalize w4.setCell ⟨s,2,none⟩ (.slice a4 n4 c4)=w5 at*
  have HK45:=Lib.hid YM
  clear YM
  obtain⟨i3,hi3⟩:∃i,Tryz.prog.info? 84=some i∧i.zero=some (.agg #[.int .i64 0, .slice none 0 0, .pointer none])∧i.size=3∧i.bytes=40:=info_parts (by kernel_rfl)
  have HI3:=Lib.hid hi3
  have yc:=Lib.hid hs5
  have Et:=Lib.hid vL
  have EK:=Lib.hid YK
  have AO:=Lib.hid Qz
  have HWT5:=Lib.hid YL
  have HB14:=Lib.hid Ho
  have RP:s<w5.heap.size:=by omega
  have HZ5:=Lib.hid F7
  clear F7
  have YN:Hid (∀w':World,w'.heap[s]? =w5.heap[s]? →w'.cell? ⟨s,0,none⟩=some (.slice a n c)∧w'.cell? ⟨s,1,none⟩=some (.int .i64 nx)∧w'.cell? ⟨s,2,none⟩=some (.slice a4 n4 c4)∧w'.frozen? ⟨s,0,none⟩=false):=fun w' hw'=>by
   rw[hs5]at hw'
   refine⟨?_,?_,?_,?_⟩<;>simp[World.cell?,World.frozen?,hw']
  have HOW5:Hid (w5.ownsRow 0 84 3 (.slice a n c) n vals):=by
   have h9:=dh HOW.out (w':=w5) fun b hb hbw=>Et.out.block b hbw (Uk.out b hb).2.1
   rw[HN.out]
   exact h9
  have YO:∀b,(Value.slice a n c).ownBlock=some b→o b=i∧b≠s∧b<w.heap.size:=fun b hb=>Uk.out b (by rw[HN.out]at hb;exact hb)
  have OA:=Lib.hid YO
  clear hi3 hs4 hs5 vL YK Qz YL Hl KO Ho hr4 hb4 c0 c1 YO
  go_wp2_with fail
  refine qF 19 ((fun w'=>w'.cell? ⟨s,0,none⟩=some (.slice a n c)∧w'.cell? ⟨s,1,none⟩=some (.int .i64 nx)∧w'.cell? ⟨s,2,none⟩=some (.slice a4 n4 c4)∧w'.frozen? ⟨s,0,none⟩=false)) ?_ fun hS=> ?_
  ·exact YN.out _ rfl
  refine ak 0 hS ?_
  refine ak 1 hS ?_
  refine ak 2 hS ?_
  refine ak 3 hS ?_
  refine ak 4 hS ?_
  refine ak 5 hS ?_
  refine ak 6 hS ?_
  refine ak 7 hS ?_
  refine ak 8 hS ?_
  refine ak 9 hS ?_
  refine ak 10 hS ?_
  refine ak 11 hS ?_
  refine ak 12 hS ?_
  refine ak 13 hS ?_
  refine ak 14 hS ?_
  refine bK 15 fun K hK=> ?_
  go_simp
  have uE:Below w5.heap.size w5 (w5.drew.alloc (.cells #[.int .i64 nx, .slice a4 n4 c4,ptr q] 84)):=(Below.refl _ _).drew.alloc (Nat.le_refl _) _
  refine bR hK (YN.out _ (uE.block s RP)) fun hS=> ?_
  clear hK K
  refine bK 16 fun K hK=> ?_
  refine dz (by rfl) (.tmp 35) (.tmp 46) 78 (by rfl) 0 84 i3 _ 3 40 Tryz.underlying78 HI3.out.1 HI3.out.2.1 HI3.out.2.2.1 HI3.out.2.2.2 rfl (by omega) (.slice a n c) n vals (by rfl) (dh HOW5.out fun b hb hbw=>uE.block b hbw) (some ⟨w5.heap.size,0,none⟩) 1 1 [.int .i64 nx, .slice a4 n4 c4,ptr q] (by rfl) (gH (w:=w5.drew) [.int .i64 nx, .slice a4 n4 c4,ptr q] 84 (by simp[maxLen])) (by simp[Value.oneCell']) (by unfold maxLen;omega) (by omega) (Nat.zero_le _) ?_
  intro A8 c8 w8 qG RQ OB
  have BM:w8.heap[s]? =w5.heap[s]? :=(RQ.block s (Nat.lt_of_lt_of_le RP uE.size) (fun e=>(OA.out s e.symm).2.1 rfl)).trans (uE.block s RP)
  have OC:=Lib.hid qG
  have RS:=Lib.hid OB
  have HK8:Hid (Keeps (fun b=>(Value.slice a n c).ownBlock=some b) w5 w8):=(gU uE).trans (Keeps.grown RQ) fun x _ hx=>hx
  have YP:w5.heap.size+1≤w8.heap.size:=by have:=RQ.size;simp at this;omega
  clear qG OB RQ
  refine bR hK (YN.out _ BM) fun hS=> ?_
  clear hK K
  refine ak 17 hS ?_
  refine ak 18 hS ?_
  refine bK 19 fun K hK=> ?_
  go_simp
  refine j_ hK ?_
  clear hS hK K
  have zu:(w8.setCell ⟨s,0,none⟩ (.slice A8 (n+1) c8)).heap[s]? =some (.cells #[.slice A8 (n+1) c8, .int .i64 nx, .slice a4 n4 c4] 80 (0,0)):=aG (BM.trans yc.out)
  have Ul:Hid (Keeps (fun b=>b=s) w8 (w8.setCell ⟨s,0,none⟩ (.slice A8 (n+1) c8))):=Lib.hid (Keeps.fq w8 ⟨s,0,none⟩ (.slice A8 (n+1) c8))
  have hz9:(w8.setCell ⟨s,0,none⟩ (.slice A8 (n+1) c8)).heap.size=w8.heap.size:=size_set _ _ _
  have HZ9:=Lib.hid hz9
  clear hz9
  generalize w8.setCell ⟨s,0,none⟩ (.slice A8 (n+1) c8)=w9 at*
  have q1:w9.cell? ⟨s,1,none⟩=some (.int .i64 nx):=by simp[World.cell?,zu]
  have qf:w9.frozen? ⟨s,1,none⟩=false:=by simp[World.frozen?,zu]
  have e1:IntKind.i64.wrap (nx+1)=nx+1:=IntWalk.i64_in _ (by omega)
  have e2:IntKind.i64.wrap (nx+1-1)=nx:=by rw[show nx+1-1=nx by omega];exact IntWalk.i64_in _ (by omega)
  have qP:(w9.setCell ⟨s,1,none⟩ (.int .i64 (nx+1))).heap[s]? =some (.cells #[.slice A8 (n+1) c8, .int .i64 (nx+1), .slice a4 n4 c4] 80 (0,0)):=aG zu
  have q10:(w9.setCell ⟨s,1,none⟩ (.int .i64 (nx+1))).cell? ⟨s,1,none⟩=some (.int .i64 (nx+1)):=by simp[World.cell?,qP]
  have Vf:=Lib.hid qP
  clear BM zu qP uE
  go_wp2_with fail
  go_ret2
  have hlen:(jR (S.last++sv)).length=n4:=by simpa using EK.out.length
  have hK4:Keeps (fun b=>b=s∨(Value.slice a n c).ownBlock=some b) w4 (w9.setCell ⟨s,1,none⟩ (.int .i64 (nx+1))):=by
   have k1:Keeps (fun b=>b=s∨(Value.slice a n c).ownBlock=some b) w4 w5:=HK45.out.mono fun x _ hx=>Or.inl hx
   have k2:Keeps (fun b=>b=s∨(Value.slice a n c).ownBlock=some b) w5 w8:=HK8.out.mono fun x _ hx=>Or.inr hx
   have k3:Keeps (fun b=>b=s∨(Value.slice a n c).ownBlock=some b) w8 w9:=Ul.out.mono fun x _ hx=>Or.inl hx
   have k4:Keeps (fun b=>b=s∨(Value.slice a n c).ownBlock=some b) w9 (w9.setCell ⟨s,1,none⟩ (.int .i64 (nx+1))):=(Keeps.fq w9 ⟨s,1,none⟩ _).mono fun x _ hx=>Or.inl hx
   exact((k1.trans k2 fun x _ hx=>hx).trans k3 fun x _ hx=>hx).trans k4 fun x _ hx=>hx
  have hK0:Keeps (fun b=>b=s∨(Value.slice a n c).ownBlock=some b) w (w9.setCell ⟨s,1,none⟩ (.int .i64 (nx+1))):=(gU (HB1.out.trans (HB14.out.mono HB1.out.size))).trans hK4 fun x _ hx=>hx
  have hat:(Value.slice A8 (n+1) c8).ownBlock=(Value.slice a n c).ownBlock∨(Value.slice A8 (n+1) c8).ownBlock=some (w5.heap.size+1):=by
   rcases RS.out with h9|h9
   ·exact .inl h9
   ·right;rw[h9];simp
  have hz:=HZ5.out
  have YQ:(w9.setCell ⟨s,1,none⟩ (.int .i64 (nx+1))).heap.size=w8.heap.size:=(size_set _ _ _).trans HZ9.out
  have QC:∀b,b<w4.heap.size→o b=0→(Value.slice A8 (n+1) c8).ownBlock≠some b:=fun b hb h0 he=>by
   rcases hat with h9|h9
   ·rw[h9]at he
    have:=(OA.out b he).1
    exact hi (by rw[←this,h0])
   ·rw[h9]at he
    cases he
    omega
  have Jm:∀b,w.heap.size≤b→o b=0:=fun b hb=>Decidable.byContradiction fun h0=>by have:=(HM.out.new b h0).2;omega
  have hfp:∀b,o b=0→¬(b=s∨(Value.slice a n c).ownBlock=some b):=fun b h0 h=>by
   rcases h with h|h
   ·have:=RN.out;rw[←h,h0]at this;exact hi this.symm
   ·have:=(OA.out b h).1;rw[h0]at this;exact hi this.symm
  refine⟨by rw[EH.out];rfl,?_⟩
  rw[←EJ.out]
  obtain⟨g,D,mb,ib,nb,hA,hg,hD⟩:=AO.out
  refine Oy (x:=⟨S.next,jR (S.last++sv),bf T⟩) (v:= .slice a n c) (v8:= .slice A8 (n+1) c8) (a9:=a4) (c9:=c4) (q:=q) HM.out hi RN.out h3 OA.out DX.out ?_ ?_ ?_ hK0 (by show(jR (S.last++sv)).length≤c4;omega) ?_ ⟨g,D,mb,ib,nb,hA.keeps hK4 fun b hb=>hfp b ?_,fun b hb=> ?_⟩ YI.out
  ·have h9:=Vf.out
   rw[EH.out,←hlen]at h9
   rw[EH.out]
   exact h9
  ·show World.ownsRow _ 0 _ 3 (.slice A8 (n+1) c8) (S.l.length+1) (vals++[.int .i64 S.next, .slice a4 (jR (S.last++sv)).length c4,ptr q])
   rw[hlen,←EH.out,←HN.out]
   refine dh OC.out fun b hb hbw=> ?_
   have hbs:b≠s:=fun e=>by
    rcases hat with h9|h9
    ·rw[h9]at hb;exact(OA.out b hb).2.1 e
    ·rw[h9]at hb;cases hb;omega
   exact(aK _ _ _ _ hbs).trans (Ul.out.block b hbw hbs)
  ·rcases hat with h9|h9
   ·exact .inl h9
   ·exact .inr ⟨_,h9,by omega⟩
  ·show ah _ _ a4 (jR (S.last++sv)).length ((jR (S.last++sv)).map bv)
   rw[hlen]
   have h45:w4.heap.size≤w5.heap.size:=by omega
   refine EK.out.move (by rw[YQ];omega) fun b hb hbw=>⟨⟨hb.1,by rw[YQ];omega,QC b hb.2 (Jm b hb.1)⟩,?_⟩
   have hn:=hfp b (Jm b hb.1)
   have hbs:b≠s:=fun e=>hn (.inl e)
   exact(hK4.block b hb.2 hn).trans (HWT5.out b hb.2 hbs).symm
  ·rcases hb with hb|hb
   ·exact hg b hb
   ·exact hD b hb
  ·have h0:o b=0:=by
    rcases hb with hb|hb
    ·exact hg b hb
    ·exact hD b hb
   refine⟨h0,QC b ?_ h0⟩
   rcases hb with hb|hb
   ·exact hA.low b hb
   ·exact hA.mh b hb
end
end Go.Proofs.YtjnhnlabpccgjaaGreat
namespace Go.Proofs
open Go.Shelf
def Tryz.vU:Go.Shelf.Ren:=⟨fun|4=>146|n=>n,fun|22=>78|25=>84|3=>3|4=>4|9=>9|20=>20|0=>0|n=>n,fun|n=>n⟩
theorem Tryz.Um:Go.Proofs.Lays8.n4 Tryz.prog Tryz.vU:={
 mixed:=by kernel_rfl
 f4:=⟨Tryz.f146.name,by decide,Tryz.func146.trans (congrArg some (by kernel_rfl))⟩
 t0:=Tryz.underlying0
 a0:=Tryz.isAgg0
 z0:=Tryz.sizeOf0
 v0:=Tryz.zeroValue0
 t3:=Tryz.underlying3
 a3:=Tryz.isAgg3
 z3:=Tryz.sizeOf3
 v3:=Tryz.zeroValue3
 t4:=Tryz.underlying4
 a4:=Tryz.isAgg4
 z4:=Tryz.sizeOf4
 v4:=Tryz.zeroValue4
 t9:=Tryz.underlying9
 a9:=Tryz.isAgg9
 z9:=Tryz.sizeOf9
 v9:=Tryz.zeroValue9
 t20:=Tryz.underlying20
 a20:=Tryz.isAgg20
 z20:=Tryz.sizeOf20
 v20:=Tryz.zeroValue20
 t22:=Tryz.underlying78
 a22:=Tryz.isAgg78
 z22:=Tryz.sizeOf78
 v22:=Tryz.zeroValue78}
end Go.Proofs
namespace Go.Proofs.YtjnhnlabpccgjaaGreat
open Go.ChangeShapes Go.WideShapes Go.ChangeAt Go.RowKit
set_option linter.unusedVariables false
set_option linter.unusedSimpArgs false
theorem Jo:(Tryz.prog.info? 84).map (fun i=>(i.zero,i.size,i.bytes))=some (some (.agg #[.int .i64 0, .slice none 0 0, .pointer none]),3,40):=by kernel_rfl
theorem KP (n:Nat) (w:World) (hn:n≤1000000):
  Calls Tryz.prog 146 #[.slice none 0 0, .int .i64 n] w fun e w'=>∃v,e= .returned v∧w'.ownsRow w.heap.size 84 3 v 0 []∧Below w.heap.size w w':=by
 obtain⟨i0,hi,hz0,hz1,hz2⟩:=info_parts Jo
 by_cases h0:n=0
 ·subst h0
  refine(Any8.slices_Grow_room Tryz.Um none 0 0 0 w (by omega) (by omega) (by omega) (by omega)).mono ?_
  rintro e w' ⟨rfl,rfl⟩
  exact⟨_,rfl,⟨rfl, .inl ⟨rfl,rfl⟩⟩,Below.refl _ _⟩
 ·refine(Any8.slices_Grow_grow Tryz.Um i0 (.agg #[.int .i64 0, .slice none 0 0, .pointer none]) hi hz0 (by rw[hz1];omega) none 0 0 n [] w (by omega) (by omega) (by rw[hz2];omega) (by omega) (by simp) (fun _=>rfl) (fun a h=>by cases h)).mono ?_
  rintro e w' ⟨rfl,rfl⟩
  have h1:=grownCap_ge w (0+n) 0 (Tryz.vU.t 25)
  have h2:=grownCap_le_maxLen w (0+n) 0 (Tryz.vU.t 25) (by unfold maxLen;omega)
  refine⟨_,rfl,⟨rfl, .inr ⟨w.heap.size,_,_,rfl,Nat.le_refl _,(MapKept.heap_alloc w.drew _).1,Nat.zero_le _,h2,?_,rfl⟩⟩,((Below.refl _ _).drew).alloc (Nat.le_refl _) _⟩
  have e1:(Value.cells (.agg #[.int .i64 0, .slice none 0 0, .pointer none])).size=3:=rfl
  simp only[Array.size_append,size_zeroCells,List.size_toArray,List.length_nil,e1]
  omega
theorem zw (fO:List (List Value)) (k:Nat) (bs:List Value) (h:fO[k]? =some bs):(fO.take (k+1)).flatten=(fO.take k).flatten++bs:=by
 obtain⟨hk,e⟩:=List.getElem?_eq_some_iff.1 h
 rw[List.take_succ_eq_append_getElem hk,List.flatten_append,e]
 simp
theorem OD (fO:List (List Value)) (k:Nat):(fO.take k).flatten.length≤fO.flatten.length:=by
 conv=>rhs;rw[←List.take_append_drop k fO,List.flatten_append]
 simp
def jl (fO:List (List Value)) (k:Nat):List Value:=(fO.take k).flatten
def iL (fO:List (List Value)) (k:Nat):Nat:=(jl fO k).length/3
theorem wZ (fO:List (List Value)):iL fO 0=0:=by simp[iL,jl]
set_option maxRecDepth 100000 in
set_option maxHeartbeats 4000000 in
theorem EL {S:Nat→Prop} (B n N:Nat) (fO:List (List Value)) (w:World) (hn:n=fO.length) (hn2:n≤1000) (hB:B<w.heap.size) (hN:fO.flatten.length=N*3) (htot:N≤100000)
  (hc:∀k,k<n→∃a l c bs,w.cell? ⟨B,k,none⟩=some (.slice a l c)∧ah S w a (l*3) bs∧fO[k]? =some bs∧∀u∈bs,u.oneCell'=true):
  Calls Tryz.prog 93 #[.slice (some ⟨B,0,none⟩) n n] w fun e w'=>∃v,e= .returned v∧w'.ownsRow w.heap.size 84 3 v N fO.flatten∧Below w.heap.size w w':=by
 obtain⟨i0,hi,hz0,hz1,hz2⟩:=info_parts Jo
 have HN:=Lib.hid hn
 have HC:=Lib.hid hc
 have hle:∀k,iL fO k≤N:=fun k=>by have:=OD fO k;unfold iL jl;omega
 obtain⟨fl,Gq⟩:∃fl,fl=fO.flatten:=⟨_,rfl⟩
 have pJ:=Lib.hid hN
 rw[←Gq]
 have HFF:=Lib.hid Gq
 clear hN Gq
 have vH:=Lib.hid hle
 have hG:=KP N w (by omega)
 have HG:=Lib.hid hG
 clear hn hc hle hG
 go_enter Tryz.func93,Tryz.ntmps93
 go_wp2
 go_loop [3,11] (fun s i=>∃k:Nat,k≤n∧i= .int .i64 k∧s= .int .i64 (iL fO k)) (fun _ i=>n-(intOf i).toNat)
 case atStart=>exact⟨0,by omega,rfl,by rw[wZ];rfl⟩
 case round=>
  obtain⟨k,hk,rfl,rfl⟩:=hrel
  have hlk:=vH.out k
  by_cases hlt:k<n
  ·obtain⟨a,l,c,bs,hcell,hS,hp,h1⟩:=HC.out k hlt
   have hll:bs.length=l*3:=hS.length
   have A_:Hid (iL fO (k+1)=iL fO k+l):=by
    have:iL fO (k+1)=iL fO k+l:=by
     unfold iL jl
     rw[zw fO k bs hp,List.length_append,hll]
     omega
    exact Lib.hid this
   have hlk2:iL fO k+l≤100000:=by have:=A_.out;have:=vH.out (k+1);omega
   clear hp hS h1
   go_wp2
   go_round
   case rel=>exact⟨k+1,by omega,by go_num,by rw[A_.out];go_num⟩
   case measure=>simp[intOf];omega
  ·obtain rfl:n=k:=by omega
   have HT:Hid (jl fO n=fl∧iL fO n=N):=by
    have:fO.take n=fO:=List.take_of_length_le (by have:=HN.out;omega)
    unfold iL jl
    rw[this];exact⟨HFF.out.symm,by rw[pJ.out];omega⟩
   rw[HT.out.2]
   go_wp2_with fail
   (with_reducible refine HG.out.mono ?_)
   rintro e w1 ⟨v,rfl,hown,hb1⟩
   have HB1:=Lib.hid hb1
   have hown0:w1.ownsRow w.heap.size 84 3 v (iL fO 0) (jl fO 0):=by rw[wZ];exact hown
   have HO:=Lib.hid hown0
   clear hb1 hown hown0 HG
   go_wp2_with fail
   go_loopw [6,27] (fun v i wr=>∃k:Nat,k≤n∧i= .int .i64 k∧wr.ownsRow w.heap.size 84 3 v (iL fO k) (jl fO k)∧Below w.heap.size w wr) (fun _ i _=>n-(intOf i).toNat)
   case atStart=>exact⟨0,by omega,rfl,HO.out,HB1.out⟩
   case round=>
    obtain⟨k,hk,rfl,hown,hb⟩:=hrel
    have hbs:=hb.size
    by_cases hlt:k<n
    ·obtain⟨a,l,c,bs,hcell0,hS,hp,h1⟩:=HC.out k hlt
     have hcell:=(hb.cell (p:=⟨B,k,none⟩) hB).trans hcell0
     have hll:bs.length=l*3:=hS.length
     have A_:Hid (jl fO (k+1)=jl fO k++bs∧iL fO (k+1)=iL fO k+l):=by
      have e1:jl fO (k+1)=jl fO k++bs:=by unfold jl;exact zw fO k bs hp
      exact Lib.hid ⟨e1,by unfold iL;rw[e1,List.length_append,hll];omega⟩
     have hlk2:iL fO k+l≤100000:=by have:=A_.out.2;have:=vH.out (k+1);omega
     have HS:=Lib.hid (hS.below hb (Nat.le_refl _))
     have HOW:=Lib.hid hown
     have HB:=Lib.hid hb
     have H1:=Lib.hid h1
     clear hp hS hown hb hcell0 hlk hll h1
     go_wp2_with (at_builtin;refine dw (by rfl) _ _ 78 (by rfl) w.heap.size 84 i0 _ 3 40 Tryz.underlying78 hi hz0 hz1 hz2 rfl (by omega) _ _ _ (by rfl) HOW.out a l c bs (by rfl) HS.out H1.out (by unfold maxLen;omega) (by omega) hbs ?_;intro A' c' w2 hown2 hb2)
     have CO:=Lib.hid hown2
     have HB2:=Lib.hid hb2
     clear hown2 hb2
     go_roundw
     case rel=>
      refine⟨k+1,by omega,by go_num,?_,HB.out.trans HB2.out⟩
      rw[A_.out.1,A_.out.2]
      exact CO.out
     case measure=>simp[intOf];omega
    ·obtain rfl:n=k:=by omega
     rw[HT.out.1,HT.out.2]at hown
     obtain⟨a,c,rfl,hac⟩:=vG hown
     have HOW:=Lib.hid hown
     have HB:=Lib.hid hb
     clear hown hb
     go_wp2
     go_ret
     exact⟨_,rfl,HOW.out,HB.out⟩
def OE (a b:Int):Bool:=decide (b≤a)
theorem Jp (a b:Int) (w:World):
  Calls Tryz.prog 173 #[.int .u64 a, .int .u64 b] w fun e w'=>e= .returned (.bool (OE a b))∧w=w':=by
 go_enter Tryz.func173,Tryz.ntmps173
 go_wp2
 go_ret
 exact⟨rfl,rfl⟩
theorem Da:(Tryz.prog.info? 3).map (fun i=>(i.zero,i.size,i.bytes))=some (some (.int .i64 0),1,8):=by kernel_rfl
def pV (x:bq) (now:Int):Bool:=decide (x.kind=1)&&x.closed&&decide (now<x.aP)
def fP (T:aA) (now:Int):List Int:=(T.filter fun q=>pV q.2 now).map (·.1)
theorem zx {T:aA} {now:Int} {k:Nat} {q:Int×bq} (h:T[k]? =some q):fP (T.take (k+1)) now=fP (T.take k) now++if pV q.2 now then[q.1]else[]:=by
 obtain⟨hk,e⟩:=List.getElem?_eq_some_iff.1 h
 unfold fP
 rw[List.take_succ_eq_append_getElem hk,e,List.filter_append,List.map_append]
 congr 1
 by_cases hl:pV q.2 now<;>simp[hl]
theorem KQ (T:aA) (now:Int) (k:Nat):(fP (T.take k) now).length≤k:=by
 unfold fP
 rw[List.length_map]
 refine Nat.le_trans (List.length_filter_le _ _) ?_
 rw[List.length_take];omega
theorem EM (zs:List Int):∀u∈zs.map (Value.int .i64),u.oneCell'=true:=by
 intro u hu;obtain⟨x,_,rfl⟩:=List.mem_map.1 hu;rfl
theorem KR {w w':World} {base:Nat} {e:TypeId} {size:Nat} {v:Value} {n:Nat} {xs:List Value} {fp:Nat→Prop} (h:w.ownsRow base e size v n xs) (hK:Keeps fp w w') (hn:∀b,v.ownBlock=some b→¬fp b):w'.ownsRow base e size v n xs:=by
 refine⟨h.1,?_⟩
 rcases h.2 with h0|⟨g,cap,cur,rfl,hb,hg,r⟩
 ·exact .inl h0
 ·exact .inr ⟨g,cap,cur,rfl,hb,(hK.block g (Array.getElem?_eq_some_iff.1 hg).1 (hn g rfl)).trans hg,r⟩
theorem RU {w:World} {base:Nat} {e:TypeId} {size:Nat} {v:Value} {n:Nat} {xs:List Value} (h:w.ownsRow base e size v n xs):∀b,v.ownBlock=some b→b<w.heap.size:=by
 intro b hb
 rcases h.2 with⟨rfl,_⟩|⟨g,cap,cur,rfl,_,hg,_⟩
 ·cases hb
 ·cases hb;exact(Array.getElem?_eq_some_iff.1 hg).1
theorem pW {w w':World} {base:Nat} {e:TypeId} {size:Nat} {v:Value} {n:Nat} {xs:List Value} (h:w.ownsRow base e size v n xs) (hb:Below w.heap.size w w'):w'.ownsRow base e size v n xs:=
 KR h (Keeps.below hb) fun b hv hf=>by have:=RU h b hv;omega
section
variable {g:Nat→Own} {D:Nat→Prop} {p mb:Nat} {ib nb:Int→Nat} {T:aA}
set_option maxRecDepth 100000 in
set_option maxHeartbeats 8000000 in
theorem OG (now:Int) (w:World) (h:aH g D w p mb ib nb T) (hT:eH T):Calls Tryz.prog 145 #[ptr p, .int .u64 now] w (pR w (fP T now)):=by
 obtain⟨ti,hi,hz0,hz1,hz2⟩:=info_parts Da
 have hlen:=hT.len
 have HH:=Lib.hid h
 have HT:=Lib.hid hT
 have YR:=Lib.hid (CP w h (by omega))
 clear h hT
 go_enter Tryz.func145,Tryz.ntmps145
 go_wp2_with fail
 (with_reducible refine YR.out.mono ?_)
 rintro e w1 ⟨a,cap,rfl,hcap,hr,hB⟩
 have hil:(iW T).length=T.length:=by unfold iW;rw[List.length_map]
 obtain⟨n,hn⟩:∃n,n=(iW T).length:=⟨_,rfl⟩
 rw[←hn]at hcap hr⊢
 have hn64:n≤64:=by omega
 have Nf:Hid (n=T.length):=by have:n=T.length:=by omega
                              exact this
 have HR:=Lib.hid hr
 have HB:=Lib.hid hB
 have hs1:=hB.size
 clear hn hr hB hil YR
 go_wp2_with fail
 go_loopw [5,16] (fun v i wr=>∃k:Nat,k≤n∧i= .int .i64 k∧wr.ownsRow w1.heap.size 3 1 v (fP (T.take k) now).length ((fP (T.take k) now).map (Value.int .i64))∧Below w1.heap.size w1 wr) (fun _ i _=>n-(intOf i).toNat)
 case atStart=>exact⟨0,by omega,rfl,⟨rfl, .inl ⟨rfl,rfl⟩⟩,Below.refl _ _⟩
 case round=>
  obtain⟨k,hk,rfl,hO,hb⟩:=hrel
  have hbs:=hb.size
  by_cases hlt:k<n
  ·obtain⟨q,hq⟩:∃q,T[k]? =some q:=⟨_,List.getElem?_eq_getElem (by have:=Nf.out;omega)⟩
   obtain⟨j,x⟩:=q
   obtain⟨bb,off,rfl,_,hbw,hcells⟩:=HR.out.at_ (by omega)
   have hc0:w1.cell? ⟨bb,off+k,none⟩=some (.int .i64 j):=by
    rw[hcells k hlt,List.getElem?_map]
    unfold iW
    rw[List.getElem?_map,hq]
    rfl
   have hc1:wr.cell? ⟨bb,off+k,none⟩=some (.int .i64 j):=(hb.cell (p:=⟨bb,off+k,none⟩) hbw).trans hc0
   have hx:aj j T=some x:=aI bH HT.out.sorted (List.mem_of_getElem? hq)
   have qL:=HT.out.ids j x hx
   have hBr:=HB.out.trans (hb.mono hs1)
   have OH:=Np j wr (HH.out.below hBr (Nat.le_refl _)) (qC qL.1 (by omega))
   have hnm:qE T j= .agg #[.int .i64 j, .int .i64 x.kind, .int .i64 x.links, .int .i64 x.b.length, .int .u64 x.aP, .bool x.closed]:=by unfold qE;rw[hx];rfl
   rw[hnm,hx]at OH
   have HN:=Lib.hid OH
   have DV:=Lib.hid (zx (now:=now) hq)
   have vH:=Lib.hid (KQ T now k)
   have HO:=Lib.hid hO
   have BJ:=Lib.hid hb
   clear OH hnm hx hcells hc0 hO hb qL hq
   obtain⟨a5,c5,rfl,hac5⟩:=cO HO.out
   by_cases hl:pV x now=true
   ·have HL:=Lib.hid hl
    simp only[pV,Bool.and_eq_true,decide_eq_true_eq]at hl
    obtain⟨⟨hk1,hcl⟩,htl⟩:=hl
    have OI:OE now x.aP=false:=by unfold OE;simp;omega
    have HD:=Lib.hid OI
    rw[hcl,hk1]at HN
    clear hk1 hcl htl OI
    go_wp2_with fail
    (with_reducible refine HN.out.mono ?_)
    rintro e w3 ⟨rfl,hb3⟩
    have hs3:=hb3.size
    have hb4:Below wr.heap.size wr (w3.alloc (.cells #[.int .i64 j, .int .i64 1, .int .i64 x.links, .int .i64 x.b.length, .int .u64 x.aP, .bool true] 101)):=hb3.trans ((wall _ _).mono hs3)
    have hb5:Below wr.heap.size wr ((w3.alloc (.cells #[.int .i64 j, .int .i64 1, .int .i64 x.links, .int .i64 x.b.length, .int .u64 x.aP, .bool true] 101)).alloc (.cells #[.int .i64 j] 3)):=hb4.trans ((wall _ _).mono hb4.size)
    have Ui:=Lib.hid (pW HO.out hb5)
    have lS:=Lib.hid (xV (w:=w3.alloc (.cells #[.int .i64 j, .int .i64 1, .int .i64 x.links, .int .i64 x.b.length, .int .u64 x.aP, .bool true] 101)) (.int .i64 j) 3)
    rw[World.size_alloc]at lS
    have rW:=Lib.hid hb5
    have F7:=hb5.size
    have hle:=vH.out
    clear hb3 hb4 hb5
    go_wp2_with (first|(go_at_call 173;refine(Jp _ _ _).mono ?_;rintro e w4 ⟨rfl,rfl⟩;rw[HD.out])|(at_builtin;refine aO (by rfl) _ _ 41 (by rfl) w1.heap.size 3 ti (.int .i64 0) 8 Tryz.underlying41 hi hz0 hz1 hz2 rfl _ _ _ (by rfl) Ui.out (some ⟨w3.heap.size+1,0,none⟩) 1 1 [.int .i64 j] (by rfl) lS.out (EM [j]) (by unfold maxLen;omega) (by omega) (by omega) ?_;intro A' c' w6 hown6 zy _ _))
    have YS:=Lib.hid hown6
    have HG6:=Lib.hid zy
    clear hown6 zy
    go_roundw
    case rel=>
     refine⟨k+1,by omega,by go_num,?_,?_⟩
     ·rw[DV.out,HL.out,if_pos rfl,List.map_append,List.length_append]
      exact YS.out
     ·exact(BJ.out.trans (rW.out.mono hbs)).grown HG6.out (by omega) (bY Ui.out)
    case measure=>simp[intOf];omega
   ·have HL:=Lib.hid hl
    have Un:fP (T.take (k+1)) now=fP (T.take k) now:=by rw[DV.out,if_neg hl,List.append_nil]
    have Vv:=Lib.hid Un
    have hfin:∀w3,Below wr.heap.size wr w3→w3.ownsRow w1.heap.size 3 1 (.slice a5 (fP (T.take k) now).length c5) (fP (T.take (k+1)) now).length ((fP (T.take (k+1)) now).map (Value.int .i64))∧Below w1.heap.size w1 w3:=fun w3 hb=>by
     rw[Vv.out]
     exact⟨pW HO.out hb,BJ.out.trans (hb.mono hbs)⟩
    have iX:=Lib.hid hfin
    clear Un hfin
    by_cases hk1:x.kind=1
    ·cases hcl:x.closed with
     |true=>
      have OI:OE now x.aP=true:=by
       by_cases htl:now<x.aP
       ·exact absurd (by simp[pV,hk1,hcl,htl]) hl
       ·unfold OE;simp;omega
      have HD:=Lib.hid OI
      rw[hcl,hk1]at HN
      clear hk1 hcl OI hl
      go_wp2_with fail
      (with_reducible refine HN.out.mono ?_)
      rintro e w3 ⟨rfl,hb3⟩
      have HB3:=Lib.hid hb3
      clear hb3
      go_wp2_with (go_at_call 173;refine(Jp _ _ _).mono ?_;rintro e w4 ⟨rfl,rfl⟩;rw[HD.out])
      go_roundw
      case rel=>
       obtain⟨e1,e2⟩:=iX.out _ (HB3.out.trans ((wall _ _).mono HB3.out.size))
       exact⟨k+1,by omega,by go_num,e1,e2⟩
      case measure=>simp[intOf];omega
     |false=>
      rw[hcl,hk1]at HN
      clear hk1 hcl hl
      go_wp2_with fail
      (with_reducible refine HN.out.mono ?_)
      rintro e w3 ⟨rfl,hb3⟩
      have HB3:=Lib.hid hb3
      clear hb3
      go_wp2_with fail
      go_roundw
      case rel=>
       obtain⟨e1,e2⟩:=iX.out _ (HB3.out.trans ((wall _ _).mono HB3.out.size))
       exact⟨k+1,by omega,by go_num,e1,e2⟩
      case measure=>simp[intOf];omega
    ·have e1:(x.kind==1)=false:=by simpa using hk1
     clear hk1 hl
     go_wp2_with fail
     (with_reducible refine HN.out.mono ?_)
     rintro e w3 ⟨rfl,hb3⟩
     have HB3:=Lib.hid hb3
     clear hb3
     go_wp2_with fail
     go_roundw
     case rel=>
      obtain⟨e1,e2⟩:=iX.out _ (HB3.out.trans ((wall _ _).mono HB3.out.size))
      exact⟨k+1,by omega,by go_num,e1,e2⟩
     case measure=>simp[intOf];omega
  ·obtain rfl:n=k:=by omega
   rw[List.take_of_length_le (by rw[Nf.out];exact Nat.le_refl _)]at hO
   obtain⟨a2,c2,rfl,hac⟩:=cO hO
   have HO:=Lib.hid hO
   have BJ:=Lib.hid hb
   clear hO hb
   go_wp2
   go_ret
   exact⟨a2,c2,rfl,hac,(ah.lg HO.out).2.mono (fun b hb=>⟨by omega,hb.2⟩),HB.out.trans (BJ.out.mono hs1)⟩
theorem KS (now:Int) (w:World) (h:aH g D w p mb ib nb T) (hT:eH T):Calls Tryz.prog 92 #[ptr p, .int .u64 now] w fun e w'=>e= .returned (.bool (decide (0<(fP T now).length)))∧Below w.heap.size w w':=by
 have HL:=Lib.hid (OG now w h hT)
 clear h hT
 obtain⟨zs,hzs⟩:∃zs,zs=fP T now:=⟨_,rfl⟩
 rw[←hzs]at HL⊢
 clear hzs
 go_enter Tryz.func92,Tryz.ntmps92
 go_wp2_with fail
 (with_reducible refine HL.out.mono ?_)
 rintro e w1 ⟨a,cap,rfl,hcap,hr,hB⟩
 have HB:=Lib.hid hB
 clear hr hB
 go_wp2_with fail
 go_ret
 exact⟨iZ (by simp),HB.out⟩
end
section
variable {W w:World} {P:Nat→Prop} {p:Nat} {T:aA}
end
def allM (S:jc):List Int:=S.l.map (·.id)
theorem KT {l:List dX} {k:Nat} {x:dX} (h:l[k]? =some x):(l.take (k+1)).map dX.id=(l.take k).map dX.id++[x.id]:=by
 obtain⟨hk,e⟩:=List.getElem?_eq_some_iff.1 h
 rw[List.take_succ_eq_append_getElem hk,e,List.map_append];rfl
section
variable {w:World} {o:Mark} {i s:Nat} {S:jc}
set_option maxRecDepth 100000 in
set_option maxHeartbeats 8000000 in
theorem yu {K:aA→Prop} (h:iT K o i w s S) (pO:S.l.length≤1000):Calls Tryz.prog 10 #[ptr s] w (pR w (allM S)):=by
 obtain⟨ti,hi,hz0,hz1,hz2⟩:=info_parts Da
 obtain⟨v,la,lc,vals,h1,h2,h3,h4,h5,h6,h7,h8⟩:=h.at_
 obtain⟨a,c,rfl,hcap⟩:=cO h4
 obtain⟨-,-,hrow⟩:=ah.nZ h4 (by unfold maxLen;omega)
 have c0:w.cell? ⟨s,0,none⟩=some (.slice a S.l.length c):=by simp[World.cell?,h1]
 unfold allM
 obtain⟨l,hl⟩:∃l,l=S.l:=⟨_,rfl⟩
 rw[←hl]at c0 hrow hcap pO h6⊢
 obtain⟨n,hnl⟩:∃n,n=l.length:=⟨_,rfl⟩
 rw[←hnl]at c0 hrow hcap pO
 have HR:=Lib.hid hrow
 have DX:=Lib.hid h6
 have Nf:=Lib.hid hnl
 clear h h1 h2 h4 h5 h6 h7 h8 hrow hnl hl
 go_enter Tryz.func10,Tryz.ntmps10
 go_wp2_with fail
 go_loopw [3,11] (fun v i wr=>∃k:Nat,k≤n∧i= .int .i64 k∧wr.ownsRow w.heap.size 3 1 v k (((l.take k).map dX.id).map (Value.int .i64))∧Below w.heap.size w wr) (fun _ i _=>n-(intOf i).toNat)
 case atStart=>exact⟨0,by omega,rfl,⟨rfl, .inl ⟨rfl,rfl⟩⟩,Below.refl _ _⟩
 case round=>
  obtain⟨k,hk,rfl,hO,hb⟩:=hrel
  have hbs:=hb.size
  by_cases hlt:k<n
  ·obtain⟨g,off,rfl,_,hgw,hcell⟩:=HR.out.at_ (by omega)
   obtain⟨x,hx⟩:∃x,l[k]? =some x:=⟨l[k]'(by have:=Nf.out;omega),List.getElem?_eq_getElem _⟩
   obtain⟨ha,hcp,q,e0,e1,e2,_⟩:=DX.out.at_ hx
   have d0:wr.cell? ⟨g,off+k*3,none⟩=some (.int .i64 x.id):=(hb.cell (p:=⟨g,off+k*3,none⟩) hgw).trans ((hcell (k*3) (by omega)).trans e0)
   have d1:wr.cell? ⟨g,off+k*3+1,none⟩=some (.slice ha x.hash.length hcp):=(hb.cell (p:=⟨g,off+k*3+1,none⟩) hgw).trans ((hcell (k*3+1) (by omega)).trans e1)
   have d2:wr.cell? ⟨g,off+k*3+2,none⟩=some (ptr q):=(hb.cell (p:=⟨g,off+k*3+2,none⟩) hgw).trans ((hcell (k*3+2) (by omega)).trans e2)
   have DV:=Lib.hid (KT hx)
   have HO:=Lib.hid hO
   have BJ:=Lib.hid hb
   obtain⟨a5,c5,rfl,hac5⟩:=cO hO
   have hb5:Below wr.heap.size wr ((wr.alloc (.cells #[.int .i64 x.id, .slice ha x.hash.length hcp,ptr q] 84)).alloc (.cells #[.int .i64 x.id] 3)):=(wall wr _).trans ((wall _ _).mono (by simp))
   have Ui:=Lib.hid (pW HO.out hb5)
   have rW:=Lib.hid hb5
   have lS:=Lib.hid (xV (w:=wr.alloc (.cells #[.int .i64 x.id, .slice ha x.hash.length hcp,ptr q] 84)) (.int .i64 x.id) 3)
   rw[World.size_alloc]at lS
   have F7:=hb5.size
   clear hx hcell e0 e1 e2 hO hb hb5
   go_wp2_with (at_builtin;(refine aO (by rfl) _ _ 41 (by rfl) w.heap.size 3 ti (.int .i64 0) 8 Tryz.underlying41 hi hz0 hz1 hz2 rfl _ _ _ (by rfl) Ui.out (some ⟨wr.heap.size+1,0,none⟩) 1 1 [.int .i64 x.id] (by rfl) lS.out (EM [x.id]) (by unfold maxLen;omega) (by omega) (Nat.le_trans hbs F7) ?_);intro A' c' w6 hown6 zy _ _)
   have YS:=Lib.hid hown6
   have HG6:=Lib.hid zy
   clear hown6 zy
   go_roundw
   case rel=>
    refine⟨k+1,by omega,by go_num,?_,?_⟩
    ·rw[DV.out,List.map_append]
     exact YS.out
    ·exact(BJ.out.trans (rW.out.mono hbs)).grown HG6.out (by omega) (bY Ui.out)
   case measure=>simp[intOf];omega
  ·obtain rfl:n=k:=by omega
   rw[List.take_of_length_le (by rw[Nf.out];exact Nat.le_refl _)]at hO
   obtain⟨a2,c2,rfl,hac⟩:=cO hO
   have HO:=Lib.hid hO
   have BJ:=Lib.hid hb
   clear hO hb
   go_wp2
   go_ret
   have:=(ah.lg HO.out).2
   have e1:=Nf.out
   subst e1
   rw[show l.length=(l.map dX.id).length from(List.length_map _).symm]at this hac⊢
   exact⟨a2,c2,rfl,hac,this.mono (fun b hb=>⟨by omega,hb.2⟩),BJ.out⟩
end
def vV (T:aA) (now:Int):Bool:=decide (0<(fP T now).length)
def EO (S:jc) (k:Nat):jc:=⟨S.l.take k++S.l.drop (k+1),S.next,S.last⟩
def jJ (S:jc) (id now er:Int) (S':jc):Prop:=
 (er=29∧S'=S∧∀x∈S.l,x.id≠id)∨∃(k:Nat) (x:dX),S.l[k]? =some x∧x.id=id∧(∀x'∈S.l.take k,x'.id≠id)∧((vV x.t now=true∧er=28∧S'=S)∨(vV x.t now=false∧er=0∧S'=EO S k))
theorem BS {F:Nat→Prop} {w w1:World} {b off n c k s:Nat} {vs:List Value} (h:ah F w (some ⟨b,off,none⟩) (n*s) vs) (hk:k<n) (hb:Below w.heap.size w w1):
  ah F w1 (some ⟨b,off,none⟩) (k*s) (vs.take (k*s))∧ah F w1 (if c=k+1 then some ⟨b,off,none⟩else some ⟨b,off+(k+1)*s,none⟩) ((n-(k+1))*s) (vs.drop ((k+1)*s))∨c<n:=by
 by_cases hcn:c<n
 ·exact .inr hcn
 ·left
  have h1:=h.below hb (Nat.le_refl _)
  have h2:=h1.take (k*s)
  have hks:k*s≤n*s:=Nat.mul_le_mul_right s (by omega)
  rw[Nat.min_eq_right hks]at h2
  have h4:=h1.drop ((k+1)*s)
  rw[←Nat.sub_mul]at h4
  refine⟨h2,?_⟩
  by_cases hce:c=k+1
  ·rw[if_pos hce]
   have hl:=h.length
   have hkn:k+1=n:=by omega
   exact ah.zero _ _ _ (by rw[show n-(k+1)=0 by omega,Nat.zero_mul]) (by rw[hkn];exact List.drop_of_length_le (by omega))
  ·rw[if_neg hce];exact h4
theorem vP.one {K:aA→Prop} {o:Mark} {w:World} {vs:List Value} {x:dX} (h:vP K o w vs x):∀u∈vs,u.oneCell'=true:=by
 obtain⟨a,c,q,h1,_⟩:=h
 intro u hu
 rw[h1]at hu
 simp only[List.mem_cons,List.not_mem_nil,or_false]at hu
 rcases hu with rfl|rfl|rfl<;>rfl
theorem fI.one {K:aA→Prop} {o:Mark} {w:World}:∀{vs:List Value} {l:List dX},fI K o w vs l→∀u∈vs,u.oneCell'=true
 |_,[],h=>by have h1:_=[]:=h;rw[h1];intro u hu;cases hu
 |_,x::r,⟨v1,v2,h1,h2,h3⟩=>by
  intro u hu
  rw[h1]at hu
  rcases List.mem_append.1 hu with hu|hu
  ·exact h2.one u hu
  ·exact fI.one h3 u hu
theorem KU (w:World) (x y:Value) (t:TypeId):(w.alloc (.cells #[x,y] t)).drew.cell? ⟨w.heap.size,0,none⟩=some x∧(w.alloc (.cells #[x,y] t)).drew.cell? ⟨w.heap.size,1,none⟩=some y∧w.heap.size<(w.alloc (.cells #[x,y] t)).drew.heap.size:=by
 have h:=(MapKept.heap_alloc w (.cells #[x,y] t)).1
 have h2:(w.alloc (.cells #[x,y] t)).drew.heap[w.heap.size]? =some (.cells #[x,y] t (0,0)):=h
 refine⟨?_,?_,?_⟩
 ·unfold World.cell?;simp only[h2];rfl
 ·unfold World.cell?;simp only[h2];rfl
 ·exact(Array.getElem?_eq_some_iff.1 h2).1
section
variable {W w:World} {o:Mark} {i s:Nat} {S:jc}
theorem Hq {w8:World} {v v8:Value} {vals:List Value} {k B lc:Nat} {la:Option Addr} (hM:Marks W o w) (hi:i≠0) (hh:w.heap[s]? =some (.cells #[v, .int .i64 S.next, .slice la S.last.length lc] 80 (0,0)))
  (hos:o s=i) (hsw:s<w.heap.size) (hO:vQ o w vals S.l) (hlc:S.last.length≤lc) (hlr:ah (fun b=>o b=0∧b<w.heap.size) w la S.last.length (S.last.map bv)) (hb:Below w.heap.size w w8)
  (hown:w8.ownsRow B 84 3 v8 (S.l.take k++S.l.drop (k+1)).length (vals.take (k*3)++vals.drop ((k+1)*3))) (hB:w.heap.size≤B):
  ∃o',Step o (fun j=>j=i) w o' (w8.setCell ⟨s,0,none⟩ v8)∧jO o' i (w8.setCell ⟨s,0,none⟩ v8) s (EO S k):=by
 obtain⟨o',hs,h1,h2⟩:=jd hM i (fun b=>v8.ownBlock=some b) (w':=w8) (fun b hb'=>⟨by have:=bY hown b hb';omega,kJ hown b hb'⟩) hb
 have hi0:¬(fun j=>j=i) 0:=fun e=>hi e.symm
 have BM:w8.heap[s]? =_:=(hb.block s hsw).trans hh
 have hz:=size_set w8 ⟨s,0,none⟩ v8
 have hst:Step o (fun j=>j=i) w o' (w8.setCell ⟨s,0,none⟩ v8):=by
  refine hs.trans ⟨fun _ _=>rfl,fun b hb' hn=> ?_,(Keeps.fq w8 ⟨s,0,none⟩ v8).mono fun x _ hx=>by
   have hx:x=s:=hx
   rw[hx];exact(hs.old s hsw).trans hos⟩
  have:=(hs.new b (Nat.le_trans hb.size hb') hn).2
  omega
 have hst2:Step o (fun j=>j=i) w o' w8:=hs
 refine⟨o',hst,⟨v8,la,lc,_,aG BM,(hst.old s hsw).trans hos,by have:=hb.size;omega,?_,fun b hb'=> ?_,fI.append ((hO.take k).step hi0 hst) ((hO.drop (k+1)).step hi0 hst),hlc,?_⟩⟩
 ·exact zq (dh hown fun b hb' _=>aK _ _ _ _ (by have:=bY hown b hb';simp only;omega)) (Nat.zero_le _)
 ·exact⟨h1 b hb',by have:=bY hown b hb';omega,by have:=kJ hown b hb';omega⟩
 ·exact hlr.move hst.keep.size fun b hb' _=>⟨⟨(hst.old b hb'.2).trans hb'.1,Nat.lt_of_lt_of_le hb'.2 hst.keep.size⟩,hst.block hb'.2 (by rw[hb'.1];exact hi0)⟩
set_option maxRecDepth 100000 in
set_option maxHeartbeats 8000000 in
theorem zD (hS:jO o i w s S) (hM:Marks W o w) (hi:i≠0) (KM:S.l.length≤8) (id now:Int):
  Calls Tryz.prog 37 #[ptr s, .int .i64 id, .int .u64 now] w fun e w'=>∃er S' o',e= .returned (.int .i64 er)∧jJ S id now er S'∧Step o (fun k=>k=i) w o' w'∧jO o' i w' s S':=by
 have HS:=Lib.hid hS
 have HM:=Lib.hid hM
 obtain⟨v,la,lc,vals,h1,h2,h3,h4,h5,h6,h7,h8⟩:=hS.at_
 obtain⟨a,c,rfl,hcap⟩:=cO h4
 obtain⟨-,-,hrow⟩:=ah.nZ h4 (by unfold maxLen;omega)
 have HF:=Lib.hid (NV hS id (by omega))
 have HH:=Lib.hid h1
 have DX:=Lib.hid h6
 have Vw:=Lib.hid h8
 have RL:=Lib.hid h7
 have RN:=Lib.hid h2
 have lS:=Lib.hid hrow
 obtain⟨n,hn⟩:∃n,n=S.l.length:=⟨_,rfl⟩
 have HN:=Lib.hid hn
 rw[←hn]at hcap KM
 clear hS hM h1 h2 h4 h5 h6 h7 h8 hrow hn
 go_enter Tryz.func37,Tryz.ntmps37
 go_wp2_with fail
 (with_reducible refine HF.out.mono ?_)
 rintro e w1 ⟨v,rfl,hf,hb1⟩
 have HB1:=Lib.hid hb1
 clear hb1
 rcases hf with⟨rfl,hno⟩|⟨k,x,rfl,hx,hid,hno⟩
 ·have KI:=Lib.hid hno
  clear hno
  go_wp2_with fail
  go_ret
  exact⟨29,S,o,rfl, .inl ⟨rfl,rfl,KI.out⟩,Step.grow HM.out HB1.out,HS.out.grow HM.out HB1.out⟩
 ·have hkn:k<n:=by rw[HN.out];exact(List.getElem?_eq_some_iff.1 hx).1
  have HRW:=lS.out
  rw[←HN.out]at HRW
  obtain⟨g,off,rfl,hgw,_,hcell⟩:=HRW.at_ (by omega)
  have HRX:=Lib.hid HRW
  obtain⟨ha,hcp,q,e0,e1,e2,e3,e4,e5,e6⟩:=DX.out.at_ hx
  have d2:w1.cell? ⟨g,off+k*3+2,none⟩=some (ptr q):=(HB1.out.cell (p:=⟨g,off+k*3+2,none⟩) hgw.2).trans ((hcell (k*3+2) (by omega)).trans e2)
  have hbS:=HB1.out.block s h3
  have c0:w1.cell? ⟨s,0,none⟩=some (.slice (some ⟨g,off,none⟩) n c):=by
   have:=hbS.trans HH.out
   rw[HN.out]
   simp[World.cell?,this]
  obtain⟨gg,D,mb,ib,nb,hA,Oh,hD9⟩:=e5.grow HB1.out
  have KV:=Lib.hid (KS now w1 hA e6)
  have XI:=Lib.hid (And.intro hx (And.intro hid hno))
  have hneg:¬((k:Int)<0):=by omega
  have i0:(0:Int)≤k:=by omega
  have i1:(k:Int)<n:=by omega
  have i1':(k:Int)≤c:=by omega
  have i2:(k:Int)+1≤n:=by omega
  have i3:(0:Int)≤(k:Int)+1:=by omega
  have i4:(n:Int)≤c:=by omega
  have ew:IntKind.i64.wrap ((k:Int)+1)=(k:Int)+1:=IntWalk.i64_in _ (by omega)
  clear hx hid hno hcell e0 e1 e2 e3 e4 e5 e6 hA Oh hD9 HRW hbS
  obtain⟨bd,hbd⟩:∃bd,bd=decide (0<(fP x.t now).length):=⟨_,rfl⟩
  rw[←hbd]at KV
  have Vx:=Lib.hid hbd
  clear hbd
  cases bd with
  |true=>
   go_wp2_with fail
   (with_reducible refine KV.out.mono ?_)
   rintro e w2 ⟨rfl,hb2⟩
   have HB2:=Lib.hid hb2
   clear hb2
   go_wp2_with fail
   go_ret
   have hB:=HB1.out.trans (HB2.out.mono HB1.out.size)
   exact⟨28,S,o,rfl, .inr ⟨k,x,XI.out.1,XI.out.2.1,XI.out.2.2, .inl ⟨Vx.out.symm,rfl,rfl⟩⟩,Step.grow HM.out hB,HS.out.grow HM.out hB⟩
  |false=>
   go_wp2_with fail
   (with_reducible refine KV.out.mono ?_)
   rintro e w2 ⟨rfl,hb2⟩
   have HB2:=Lib.hid (HB1.out.trans (hb2.mono HB1.out.size))
   have hs2:=hb2.size
   have hs1:=HB1.out.size
   have HK:Hid (∀w',Below w.heap.size w w'→w'.cell? ⟨s,0,none⟩=some (.slice (some ⟨g,off,none⟩) n c)∧w'.frozen? ⟨s,0,none⟩=false):=fun w' hb=>by
    have:=(hb.block s h3).trans HH.out
    rw[HN.out]
    refine⟨?_,?_⟩<;>simp[World.cell?,World.frozen?,this]
   clear c0 d2 hb2
   go_wp2_with fail
   refine qF 18 ((fun w'=>w'.cell? ⟨s,0,none⟩=some (.slice (some ⟨g,off,none⟩) n c)∧w'.frozen? ⟨s,0,none⟩=false)) ?_ fun hS=> ?_
   ·exact HK.out _ (HB2.out.trans (Below.refl _ _).drew)
   refine ak 0 hS ?_
   refine ak 1 hS ?_
   refine ak 2 hS ?_
   refine ak 3 hS ?_
   refine ak 4 hS ?_
   refine ak 5 hS ?_
   refine ak 6 hS ?_
   refine ak 7 hS ?_
   refine ak 8 hS ?_
   refine ak 9 hS ?_
   refine ak 10 hS ?_
   refine ak 11 hS ?_
   refine ak 12 hS ?_
   refine ak 13 hS ?_
   obtain⟨A2,hA2⟩:∃A2:Option Addr,A2=if c=k+1 then some ⟨g,off,none⟩else some ⟨g,off+(k+1)*3,none⟩:=⟨_,rfl⟩
   rw[←hA2]
   have HA2:=Lib.hid hA2
   clear hA2
   refine bK 14 fun K hK=> ?_
   go_simp
   have uE:Below w2.heap.size w2 (w2.alloc (.cells #[.slice (some ⟨g,off,none⟩) k c, .slice A2 (n-(k+1)) (c-(k+1))] 78)).drew:=(wall w2 _).trans (Below.refl _ _).drew
   have hBW:Below w.heap.size w (w2.alloc (.cells #[.slice (some ⟨g,off,none⟩) k c, .slice A2 (n-(k+1)) (c-(k+1))] 78)).drew:=HB2.out.trans (uE.mono HB2.out.size)
   have Jq:=Lib.hid hBW
   obtain⟨hC0,Uo,OJ⟩:=KU w2 (.slice (some ⟨g,off,none⟩) k c) (.slice A2 (n-(k+1)) (c-(k+1))) 78
   have hRR:=(BS (c:=c) HRX.out hkn hBW).resolve_right (by omega)
   rw[←HA2.out]at hRR
   have hv1:=DX.out.one
   have hvl:=DX.out.len
   have hfl:([vals.take (k*3),vals.drop ((k+1)*3)].flatten).length=(k+(n-(k+1)))*3:=by
    rw[←HN.out]at hvl
    simp[hvl];omega
   have HCC:=Lib.hid (EL (w2.heap.size) 2 (k+(n-(k+1))) [vals.take (k*3),vals.drop ((k+1)*3)] _ rfl (by omega) OJ hfl (by omega) (fun j hj=>by
    rcases j with _|_|j
    ·exact⟨_,_,_,_,hC0,hRR.1,rfl,fun u hu=>hv1 u (List.mem_of_mem_take hu)⟩
    ·exact⟨_,_,_,_,Uo,hRR.2,rfl,fun u hu=>hv1 u (List.mem_of_mem_drop hu)⟩
    ·omega))
   have tH:=Lib.hid uE
   clear uE hC0 Uo hRR hv1 hvl hfl OJ
   refine bR hK (HK.out _ hBW) fun hS=> ?_
   clear hK K
   clear hBW
   refine bK 15 fun K hK=> ?_
   go_simp
   (with_reducible refine HCC.out.mono ?_)
   rintro e w3 ⟨v8,rfl,hown,hb3⟩
   have HB3:=Lib.hid (Jq.out.trans (hb3.mono Jq.out.size))
   have HOWN:=Lib.hid hown
   obtain⟨a8,c8,rfl,-⟩:=cO hown
   clear hown hb3
   go_wp2_with fail
   refine bR hK (HK.out _ HB3.out) fun hS=> ?_
   clear hK K
   refine ak 16 hS ?_
   refine ak 17 hS ?_
   refine bK 18 fun K hK=> ?_
   go_simp
   refine j_ hK ?_
   clear hS hK K
   go_wp2_with fail
   go_ret
   have hlen:(S.l.take k++S.l.drop (k+1)).length=k+(n-(k+1)):=by
    have:=HN.out
    rw[List.length_append,List.length_take,List.length_drop];omega
   have hown:=HOWN.out
   rw[←hlen]at hown
   have hfe:[vals.take (k*3),vals.drop ((k+1)*3)].flatten=vals.take (k*3)++vals.drop ((k+1)*3):=by simp
   rw[hfe]at hown
   obtain⟨o',hs,hSn⟩:=Hq (k:=k) HM.out hi HH.out RN.out h3 DX.out RL.out Vw.out HB3.out hown Jq.out.size
   rw[hlen]at hs hSn
   exact⟨0,_,o',rfl, .inr ⟨k,x,XI.out.1,XI.out.2.1,XI.out.2.2, .inr ⟨Vx.out.symm,rfl,rfl⟩⟩,hs,hSn⟩
end
end Go.Proofs.YtjnhnlabpccgjaaGreat
