/- package snap: Take. DERIVED: THE SHELF's CONTRACTS AT THIS DUMP, IN PLAIN WORDS (tools/lay-plain.mjs out of 'YtohpcppeajijnaaGreatLaypOneLay.lean', which tools/lay-shelf.mjs wrote): THE SAME DECLARATIONS UNDER THE SAME NAMES: 'import', 'namespace', 'open', 'def', 'theorem' AND NOTHING ELSE: no command of the shelf's: FOR A HAND-IN. Each laying: the table of numbers ('.._ren') and one theorem, a field a fact of the dump's own or the kernel's comparison; each contract: ONE APPLICATION. slices.Concat of rows of snapshots. The contracts of package clock, and known of permafrostlaw8: what each call returns; the world stays as it was. The contracts of package worm's rules for one node: what each call returns; what was there stays as it was. worm.Live, worm.Bound of a tree. -/
import Derived.Test.YtohpcppeajijnaaGreatM20
import Derived.Test.YtohpcppeajijnaaGreatM23
import Derived.Test.YtohpcppeajijnaaGreatM17
import Derived.Test.YtohpcppeajijnaaGreatProg
import Derived.Shelf.Spec.SlicesGrow
import Derived.Test.YtohpcppeajijnaaGreatM01
import Derived.Test.YtohpcppeajijnaaGreatM13
import Derived.Test.YtohpcppeajijnaaGreatM10
namespace Go.Proofs.YtohpcppeajijnaaGreat
open Go.ChangeShapes Go.WideShapes Go.ChangeAt Go.RowKit
set_option linter.unusedVariables false
set_option linter.unusedSimpArgs false
def bW (S:iC) (T:aI):(Int×Int)×iC:=
 if 8≤S.l.length then((0,4),S)else
 ((S.next,0),⟨S.l++[⟨S.next,iG (S.last++fq (bM T)),bM T⟩],S.next+1,iG (S.last++fq (bM T))⟩)
theorem vT {T:aI} (hT:dR T):(fq T).length≤6000000:=by
 have h1:=kT hT T (fun q hq=>hq)
 have h2:=hT.len
 unfold fq
 rw[List.length_append,bJ]
 omega
section
variable {W w:World} {o:Mark} {i j s p:Nat} {S:iC} {T:aI}
open Classical in
theorem JD {w9:World} {v v8:Value} {vals:List Value} {x:dQ} {a9:Option Addr} {c9 q:Nat} (hM:Marks W o w) (hi:i≠0) (hos:o s=i) (hsw:s<w.heap.size) (ZP:∀b,v.ownBlock=some b→o b=i∧b≠s∧b<w.heap.size)
  (hO:bX o w vals S.l) (hh:w9.heap[s]? =some (.cells #[v8, .int .i64 (S.next+1), .slice a9 x.hash.length c9] 150 (0,0))) (hown:w9.ownsRow 0 152 3 v8 (S.l.length+1) (vals++[.int .i64 x.id, .slice a9 x.hash.length c9,ptr q]))
  (hat:v8.ownBlock=v.ownBlock∨∃b,v8.ownBlock=some b∧w.heap.size≤b) (hK:Keeps (fun b=>b=s∨v.ownBlock=some b) w w9)
  (Od:x.hash.length≤c9) (Ea:ak (fun b=>w.heap.size≤b∧b<w9.heap.size∧v8.ownBlock≠some b) w9 a9 x.hash.length (x.hash.map bv)) (hq:∃g D mb ib nb,aK g D w9 q mb ib nb x.t∧∀b,g b≠ .none∨D b→o b=0∧v8.ownBlock≠some b) (hT:dR x.t):
  ∃o',Step o (fun k=>k=i) w o' w9∧dX o' i w9 s ⟨S.l++[x],S.next+1,x.hash⟩:=by
 obtain⟨o',ho⟩:∃o':Mark,∀b,o' b=if v8.ownBlock=some b∧w.heap.size≤b then i else o b:=⟨_,fun _=>rfl⟩
 have SX:∀b,v8.ownBlock=some b→b<w9.heap.size:=jF hown
 have hst:Step o (fun k=>k=i) w o' w9:=by
  refine⟨fun b hb=>by rw[ho,if_neg (fun h=>by omega)],fun b hb hn=> ?_,hK.mono fun b hb h=> ?_⟩
  ·by_cases h:v8.ownBlock=some b∧w.heap.size≤b
   ·rw[ho,if_pos h];exact⟨rfl,SX b h.1⟩
   ·rw[ho,if_neg h]at hn;have:=(hM.new b hn).2;omega
  ·rcases h with h|h
   ·rw[h];exact hos
   ·exact(ZP b h).1
 have hi0:¬(fun k=>k=i) 0:=fun e=>hi e.symm
 have hfree:∀b,o b=0→v8.ownBlock≠some b→o' b=0:=fun b h0 hn=>by rw[ho,if_neg (fun h=>hn h.1)];exact h0
 have Eo:∀b,w.heap.size≤b→o b=0:=fun b hb=>Decidable.byContradiction fun h0=>by have:=(hM.new b h0).2;omega
 have hrf:ak (fun b=>o' b=0∧b<w9.heap.size) w9 a9 x.hash.length (x.hash.map bv):=Ea.mono fun b hb=>⟨hfree b (Eo b hb.1) hb.2.2,hb.2.1⟩
 refine⟨o',hst,⟨v8,a9,c9,vals++[.int .i64 x.id, .slice a9 x.hash.length c9,ptr q],hh,(hst.old s hsw).trans hos,Nat.lt_of_lt_of_le hsw hK.size,?_,fun b hb=> ?_,?_,Od,hrf⟩⟩
 ·rw[List.length_append];exact hown
 ·rcases hat with h1|⟨b',h1,h2⟩
  ·rw[h1]at hb
   obtain⟨k1,k2,k3⟩:=ZP b hb
   exact⟨(hst.old b k3).trans k1,k2,Nat.lt_of_lt_of_le k3 hK.size⟩
  ·rw[h1]at hb
   cases hb
   exact⟨by rw[ho,if_pos ⟨h1,h2⟩],by omega,SX _ h1⟩
 ·refine bX.append (hO.step hi0 hst) ⟨_,[],by simp,⟨a9,c9,q,rfl,Od,hrf,?_,hT⟩,rfl⟩
  obtain⟨g,D,mb,ib,nb,hA,hg⟩:=hq
  exact⟨g,D,mb,ib,nb,hA,fun b hb=>hfree b (hg b (.inl hb)).1 (hg b (.inl hb)).2,fun b hb=>hfree b (hg b (.inr hb)).1 (hg b (.inr hb)).2⟩
set_option maxRecDepth 100000 in
set_option maxHeartbeats 8000000 in
theorem oM (hS:dX o i w s S) (hTr:eU o j w p T) (hM:Marks W o w) (hi:i≠0) (hT:dR T) (zY:S.l.length≤8) (hla:S.last.length≤64) (hnx:0≤S.next) (Pz:S.next≤1000000000):
  Calls Tryz.prog 38 #[ptr s,ptr p] w fun e w'=>e= .returned (.tuple #[.int .i64 (bW S T).1.1, .int .i64 (bW S T).1.2])∧∃o',Step o (fun k=>k=i) w o' w'∧dX o' i w' s (bW S T).2:=by
 have HS:=Lib.hid hS
 have HM:=Lib.hid hM
 obtain⟨v,la,lc,vals,h1,h2,h3,h4,h5,h6,h7,h8⟩:=hS.at_
 obtain⟨a,c,rfl,hcap⟩:=bQ h4
 have q0:w.cell? ⟨s,0,none⟩=some (.slice a S.l.length c):=by simp[World.cell?,h1]
 by_cases hfull:8≤S.l.length
 ·have e1:bW S T=((0,4),S):=by unfold bW;rw[if_pos hfull]
  rw[e1]
  have hd:decide ((8:Int)≤(S.l.length:Int))=true:=by simp;omega
  obtain⟨n,hn⟩:∃n,n=S.l.length:=⟨_,rfl⟩
  rw[←hn]at q0 hd
  clear hS hM h1 h2 h4 h5 h6 h7 h8 hcap hfull e1 zY hn hTr hT
  go_enter Tryz.func38,Tryz.ntmps38
  go_wp2_with fail
  go_ret2
  exact⟨rfl,o,Step.grow HM.out (Below.refl _ _),HS.out⟩
 ·have e1:bW S T=((S.next,0),⟨S.l++[⟨S.next,iG (S.last++fq (bM T)),bM T⟩],S.next+1,iG (S.last++fq (bM T))⟩):=by unfold bW;rw[if_neg hfull]
  rw[e1]
  have hd:decide ((8:Int)≤(S.l.length:Int))=false:=by simp;omega
  have q1:w.cell? ⟨s,1,none⟩=some (.int .i64 S.next):=by simp[World.cell?,h1]
  have q2:w.cell? ⟨s,2,none⟩=some (.slice la S.last.length lc):=by simp[World.cell?,h1]
  have HC:=Lib.hid (qg hTr hM hT)
  have HH:=Lib.hid h1
  have HOW:=Lib.hid h4
  have uR:=Lib.hid h6
  have HLA:=Lib.hid h8
  have PD:=Lib.hid h7
  have MW:=Lib.hid h2
  have VB:=Lib.hid h5
  have PE:=hT.bM
  have LZ:=Lib.hid PE
  have hsl:=vT PE
  obtain⟨n,hn⟩:∃n,n=S.l.length:=⟨_,rfl⟩
  obtain⟨m,hm⟩:∃m,m=S.last.length:=⟨_,rfl⟩
  obtain⟨nx,qy⟩:∃nx,nx=S.next:=⟨_,rfl⟩
  rw[←qy]at hnx Pz q1
  rw[←hm]at q2 hla
  rw[←hn]at q0 hd hcap zY
  have HN:=Lib.hid hn
  have L8:=Lib.hid hm
  have qx:=Lib.hid qy
  clear hS hM h1 h2 h4 h5 h6 h7 h8 hfull e1 hn hm hTr hT PE qy
  go_enter Tryz.func38,Tryz.ntmps38
  go_wp2_with fail
  (with_reducible refine HC.out.mono ?_)
  rintro e w1 ⟨q,rfl,hT1,hb1⟩
  have HT1:=Lib.hid hT1
  have HB1:=Lib.hid hb1
  have JE:=Lib.hid (rE (hT1.grow (Below.refl _ _).drew) LZ.out)
  have SY:s<w1.heap.size:=by have:=hb1.size;omega
  have gq:Hid (∀w',Below w1.heap.size w1 w'→w'.cell? ⟨s,2,none⟩=some (.slice la m lc)∧w'.frozen? ⟨s,2,none⟩=false):=fun w' hb=>by
   have hbb:=(hb.block s SY).trans ((hb1.block s h3).trans HH.out)
   refine⟨?_,by simp[World.frozen?,hbb]⟩
   rw[L8.out]
   simp[World.cell?,hbb]
  have c0:=(hb1.cell (p:=⟨s,0,none⟩) h3).trans q0
  have c1:=(hb1.cell (p:=⟨s,1,none⟩) h3).trans q1
  obtain⟨sv,hsv⟩:∃sv,sv=fq (bM T):=⟨_,rfl⟩
  rw[←hsv]at JE hsl
  have CX:=Lib.hid hsv
  clear hT1 hb1 hsv q0 q1 q2
  go_wp2_with fail
  refine wp_region_noPanic ?_
  refine aH (last:=12) (S:=(fun w'=>w'.cell? ⟨s,2,none⟩=some (.slice la m lc)∧w'.frozen? ⟨s,2,none⟩=false)) (by kernel_rfl) ?_ (fun hS=> ?_)
  ·exact gq.out _ (Below.refl _ _).drew
  refine aC 0 (hS:=hS) (h:= ?_)
  refine aC 1 (hS:=hS) (h:= ?_)
  refine aC 2 (hS:=hS) (h:= ?_)
  refine aC 3 (hS:=hS) (h:= ?_)
  refine aC 4 (hS:=hS) (h:= ?_)
  refine aC 5 (hS:=hS) (h:= ?_)
  refine dh 6 (h:=fun K hK=> ?_)
  go_simp
  (with_reducible refine JE.out.mono ?_)
  rintro e w2 ⟨a2,n2,c2,rfl,hn2,hr2,hb2⟩
  have CY:Below w1.heap.size w1 w2:=(Below.refl _ _).drew.trans hb2
  have hl2:sv.length=n2:=by simpa using hr2.length
  have Xx:=Lib.hid (vE la m lc S.last a2 n2 c2 sv w2 (by rw[L8.out];exact HLA.out.below (HB1.out.trans (CY.mono HB1.out.size)) (Nat.le_refl _)) hr2 (by omega))
  have HL2:=Lib.hid hl2
  clear hr2 hb2 hl2
  go_wp2_with fail
  refine hK.out _ _ (fun _=>gq.out _ CY) (fun hS=> ?_)
  replace hS:=hS (by decide)
  clear hK K
  try simp only[Act.put,List.setIfInBounds_toArray,List.set_cons_zero,List.set_cons_succ]
  refine dh 7 (h:=fun K hK=> ?_)
  go_simp
  refine hK.out _ _ (fun _=>gq.out _ (CY.trans ((wall w2 _).mono CY.size))) (fun hS=> ?_)
  replace hS:=hS (by decide)
  clear hK K
  try simp only[Act.put,List.setIfInBounds_toArray,List.set_cons_zero,List.set_cons_succ]
  refine dh 8 (h:=fun K hK=> ?_)
  go_simp
  (with_reducible refine Xx.out.mono ?_)
  rintro e w3 ⟨a3,c3,rfl,hc3,hr3,hb3⟩
  have FI:Below w1.heap.size w1 w3:=CY.trans (hb3.mono CY.size)
  have PG:=Lib.hid (MV a3 (m+n2) c3 (S.last++sv) w3 hr3 (by have:=HL2.out;omega) hc3.1)
  clear hc3 hr3 hb3
  go_wp2_with fail
  refine hK.out _ _ (fun _=>gq.out _ FI) (fun hS=> ?_)
  replace hS:=hS (by decide)
  clear hK K
  try simp only[Act.put,List.setIfInBounds_toArray,List.set_cons_zero,List.set_cons_succ]
  refine dh 9 (h:=fun K hK=> ?_)
  go_simp
  (with_reducible refine PG.out.mono ?_)
  rintro e w4 ⟨a4,n4,c4,rfl,Rw,hr4,hb4⟩
  have CZ:Below w1.heap.size w1 w4:=FI.trans (hb4.mono FI.size)
  go_wp2_with fail
  refine hK.out _ _ (fun _=>gq.out _ CZ) (fun hS=> ?_)
  replace hS:=hS (by decide)
  clear hK K
  try simp only[Act.put,List.setIfInBounds_toArray,List.set_cons_zero,List.set_cons_succ]
  refine aC 10 (hS:=hS) (h:= ?_)
  refine aC 11 (hS:=hS) (h:= ?_)
  refine dh 12 (h:=fun K hK=> ?_)
  go_simp
  refine hK.out _ _ (fun h=>absurd rfl h) (fun hS=> ?_)
  clear hS hK K
  try simp only[Act.put,List.setIfInBounds_toArray,List.set_cons_zero,List.set_cons_succ]
  refine aG (by kernel_rfl) ?_ _
  refine NoPanic.normal ?_
  have hs4:w4.heap[s]? =some (.cells #[.slice a n c, .int .i64 nx, .slice la m lc] 150 (0,0)):=by
   have:=(CZ.block s SY).trans ((HB1.out.block s h3).trans HH.out)
   rw[HN.out,L8.out,qx.out]
   exact this
  have hs5:(w4.setCell ⟨s,2,none⟩ (.slice a4 n4 c4)).heap[s]? =some (.cells #[.slice a n c, .int .i64 nx, .slice a4 n4 c4] 150 (0,0)):=aL hs4
  have vJ:Keeps (fun b=>b=s) w (w4.setCell ⟨s,2,none⟩ (.slice a4 n4 c4)):=(fU (HB1.out.trans (CZ.mono HB1.out.size))).trans (Keeps.fE w4 ⟨s,2,none⟩ _) fun x _ hx=>hx
  have ZQ:ak (fun b=>w.heap.size≤b∧b<w4.heap.size) (w4.setCell ⟨s,2,none⟩ (.slice a4 n4 c4)) a4 n4 ((iG (S.last++sv)).map bv):=hr4.move (by rw[size_set];exact Nat.le_refl _) fun b hb hbw=>⟨⟨by have:=FI.size;have:=HB1.out.size;omega,hb.2⟩,aP _ _ _ _ (by have:=FI.size;simp only;omega)⟩
  have OQ:=(HT1.out.grow CZ)
  have Ep:(w4.setCell ⟨s,2,none⟩ (.slice a4 n4 c4)).heap.size=w4.heap.size:=size_set _ _ _
  have h14:w.heap.size≤w4.heap.size:=Nat.le_trans HB1.out.size CZ.size
  have S9:∀b,b<w4.heap.size→b≠s→(w4.setCell ⟨s,2,none⟩ (.slice a4 n4 c4)).heap[b]? =w4.heap[b]? :=fun b _ hn=>aP _ _ _ _ hn
  have S_:Keeps (fun b=>b=s) w4 (w4.setCell ⟨s,2,none⟩ (.slice a4 n4 c4)):=Keeps.fE w4 ⟨s,2,none⟩ _
  generalize w4.setCell ⟨s,2,none⟩ (.slice a4 n4 c4)=w5 at*
  have Xy:=Lib.hid S_
  clear S_
  obtain⟨i3,hi3⟩:∃i,Tryz.prog.info? 152=some i∧i.zero=some (.agg #[.int .i64 0, .slice none 0 0, .pointer none])∧i.size=3∧i.bytes=40:=info_parts (by kernel_rfl)
  have HI3:=Lib.hid hi3
  have xu:=Lib.hid hs5
  have R6:=Lib.hid vJ
  have C8:=Lib.hid ZQ
  have Er:=Lib.hid OQ
  have Xz:=Lib.hid S9
  have XA:=Lib.hid CZ
  have MX:s<w5.heap.size:=by omega
  have XB:=Lib.hid Ep
  clear Ep
  have XC:Hid (∀w':World,w'.heap[s]? =w5.heap[s]? →w'.cell? ⟨s,0,none⟩=some (.slice a n c)∧w'.cell? ⟨s,1,none⟩=some (.int .i64 nx)∧w'.cell? ⟨s,2,none⟩=some (.slice a4 n4 c4)∧w'.frozen? ⟨s,0,none⟩=false):=fun w' hw'=>by
   rw[hs5]at hw'
   refine⟨?_,?_,?_,?_⟩<;>simp[World.cell?,World.frozen?,hw']
  have XD:Hid (w5.ownsRow 0 152 3 (.slice a n c) n vals):=by
   have h9:=bY HOW.out (w':=w5) fun b hb hbw=>R6.out.block b hbw (VB.out b hb).2.1
   rw[HN.out]
   exact h9
  have Ta:∀b,(Value.slice a n c).ownBlock=some b→o b=i∧b≠s∧b<w.heap.size:=fun b hb=>VB.out b (by rw[HN.out]at hb;exact hb)
  have JF:=Lib.hid Ta
  clear hi3 hs4 hs5 vJ ZQ OQ S9 CY FI CZ hr4 hb4 c0 c1 Ta
  go_wp2_with fail
  refine wp_region_noPanic ?_
  refine aH (last:=19) (S:=(fun w'=>w'.cell? ⟨s,0,none⟩=some (.slice a n c)∧w'.cell? ⟨s,1,none⟩=some (.int .i64 nx)∧w'.cell? ⟨s,2,none⟩=some (.slice a4 n4 c4)∧w'.frozen? ⟨s,0,none⟩=false)) (by kernel_rfl) ?_ (fun hS=> ?_)
  ·exact XC.out _ rfl
  refine aC 0 (hS:=hS) (h:= ?_)
  refine aC 1 (hS:=hS) (h:= ?_)
  refine aC 2 (hS:=hS) (h:= ?_)
  refine aC 3 (hS:=hS) (h:= ?_)
  refine aC 4 (hS:=hS) (h:= ?_)
  refine aC 5 (hS:=hS) (h:= ?_)
  refine aC 6 (hS:=hS) (h:= ?_)
  refine aC 7 (hS:=hS) (h:= ?_)
  refine aC 8 (hS:=hS) (h:= ?_)
  refine aC 9 (hS:=hS) (h:= ?_)
  refine aC 10 (hS:=hS) (h:= ?_)
  refine aC 11 (hS:=hS) (h:= ?_)
  refine aC 12 (hS:=hS) (h:= ?_)
  refine aC 13 (hS:=hS) (h:= ?_)
  refine aC 14 (hS:=hS) (h:= ?_)
  refine dh 15 (h:=fun K hK=> ?_)
  go_simp
  have sI:Below w5.heap.size w5 (w5.drew.alloc (.cells #[.int .i64 nx, .slice a4 n4 c4,ptr q] 152)):=(Below.refl _ _).drew.alloc (Nat.le_refl _) _
  refine hK.out _ _ (fun _=>XC.out _ (sI.block s MX)) (fun hS=> ?_)
  replace hS:=hS (by decide)
  clear hK K
  try simp only[Act.put,List.setIfInBounds_toArray,List.set_cons_zero,List.set_cons_succ]
  refine aj (rs:=[16]) (by kernel_rfl) (by simp) ?_
  refine ah.cons (o:= ?o1) ?ho1 (fun K hK=> ?_) ah.nil
  case ho1=>simp only[List.getElem?_toArray,List.getElem?_cons_succ,List.getElem?_cons_zero];rfl
  refine aA (by rfl) (.tmp 35) (.tmp 46) 148 (by rfl) 0 152 i3 _ 3 40 Tryz.underlying148 HI3.out.1 HI3.out.2.1 HI3.out.2.2.1 HI3.out.2.2.2 rfl (by omega) (.slice a n c) n vals (by rfl) (bY XD.out fun b hb hbw=>sI.block b hbw) (some ⟨w5.heap.size,0,none⟩) 1 1 [.int .i64 nx, .slice a4 n4 c4,ptr q] (by rfl) (fC (w:=w5.drew) [.int .i64 nx, .slice a4 n4 c4,ptr q] 152 (by simp[maxLen])) (by simp[Value.oneCell']) (by unfold maxLen;omega) (by omega) (Nat.zero_le _) ?_
  intro A8 c8 w8 kJ VD Tc
  have Eb:w8.heap[s]? =w5.heap[s]? :=(VD.block s (Nat.lt_of_lt_of_le MX sI.size) (fun e=>(JF.out s e.symm).2.1 rfl)).trans (sI.block s MX)
  have Td:=Lib.hid kJ
  have XE:=Lib.hid Tc
  have HK8:Hid (Keeps (fun b=>(Value.slice a n c).ownBlock=some b) w5 w8):=(fU sI).trans (Keeps.grown VD) fun x _ hx=>hx
  have Te:w5.heap.size+1≤w8.heap.size:=by have:=VD.size;simp at this;omega
  clear kJ Tc VD
  refine hK.out _ _ (fun _=>XC.out _ Eb) (fun hS=> ?_)
  replace hS:=hS (by decide)
  clear hK K
  try simp only[Act.put,List.setIfInBounds_toArray,List.set_cons_zero,List.set_cons_succ]
  refine aC 17 (hS:=hS) (h:= ?_)
  refine aC 18 (hS:=hS) (h:= ?_)
  refine dh 19 (h:=fun K hK=> ?_)
  go_simp
  refine hK.out _ _ (fun h=>absurd rfl h) (fun hS=> ?_)
  clear hS hK K
  try simp only[Act.put,List.setIfInBounds_toArray,List.set_cons_zero,List.set_cons_succ]
  refine aG (by kernel_rfl) ?_ _
  refine NoPanic.normal ?_
  have zw:(w8.setCell ⟨s,0,none⟩ (.slice A8 (n+1) c8)).heap[s]? =some (.cells #[.slice A8 (n+1) c8, .int .i64 nx, .slice a4 n4 c4] 150 (0,0)):=aL (Eb.trans xu.out)
  have Ou:Hid (Keeps (fun b=>b=s) w8 (w8.setCell ⟨s,0,none⟩ (.slice A8 (n+1) c8))):=Lib.hid (Keeps.fE w8 ⟨s,0,none⟩ (.slice A8 (n+1) c8))
  have ZR:(w8.setCell ⟨s,0,none⟩ (.slice A8 (n+1) c8)).heap.size=w8.heap.size:=size_set _ _ _
  have HZ9:=Lib.hid ZR
  clear ZR
  generalize w8.setCell ⟨s,0,none⟩ (.slice A8 (n+1) c8)=w9 at*
  have q1:w9.cell? ⟨s,1,none⟩=some (.int .i64 nx):=by simp[World.cell?,zw]
  have qf:w9.frozen? ⟨s,1,none⟩=false:=by simp[World.frozen?,zw]
  have e1:IntKind.i64.wrap (nx+1)=nx+1:=IntWalk.i64_in _ (by omega)
  have e2:IntKind.i64.wrap (nx+1-1)=nx:=by rw[show nx+1-1=nx by omega];exact IntWalk.i64_in _ (by omega)
  have og:(w9.setCell ⟨s,1,none⟩ (.int .i64 (nx+1))).heap[s]? =some (.cells #[.slice A8 (n+1) c8, .int .i64 (nx+1), .slice a4 n4 c4] 150 (0,0)):=aL zw
  have q10:(w9.setCell ⟨s,1,none⟩ (.int .i64 (nx+1))).cell? ⟨s,1,none⟩=some (.int .i64 (nx+1)):=by simp[World.cell?,og]
  have Ph:=Lib.hid og
  clear Eb zw og sI
  go_wp2_with fail
  go_ret2
  have hlen:(iG (S.last++sv)).length=n4:=by simpa using C8.out.length
  have hK4:Keeps (fun b=>b=s∨(Value.slice a n c).ownBlock=some b) w4 (w9.setCell ⟨s,1,none⟩ (.int .i64 (nx+1))):=by
   have k1:Keeps (fun b=>b=s∨(Value.slice a n c).ownBlock=some b) w4 w5:=Xy.out.mono fun x _ hx=>Or.inl hx
   have k2:Keeps (fun b=>b=s∨(Value.slice a n c).ownBlock=some b) w5 w8:=HK8.out.mono fun x _ hx=>Or.inr hx
   have k3:Keeps (fun b=>b=s∨(Value.slice a n c).ownBlock=some b) w8 w9:=Ou.out.mono fun x _ hx=>Or.inl hx
   have k4:Keeps (fun b=>b=s∨(Value.slice a n c).ownBlock=some b) w9 (w9.setCell ⟨s,1,none⟩ (.int .i64 (nx+1))):=(Keeps.fE w9 ⟨s,1,none⟩ _).mono fun x _ hx=>Or.inl hx
   exact((k1.trans k2 fun x _ hx=>hx).trans k3 fun x _ hx=>hx).trans k4 fun x _ hx=>hx
  have VE:Keeps (fun b=>b=s∨(Value.slice a n c).ownBlock=some b) w (w9.setCell ⟨s,1,none⟩ (.int .i64 (nx+1))):=(fU (HB1.out.trans (XA.out.mono HB1.out.size))).trans hK4 fun x _ hx=>hx
  have hat:(Value.slice A8 (n+1) c8).ownBlock=(Value.slice a n c).ownBlock∨(Value.slice A8 (n+1) c8).ownBlock=some (w5.heap.size+1):=by
   rcases XE.out with h9|h9
   ·exact .inl h9
   ·right;rw[h9];simp
  have hz:=XB.out
  have Tf:(w9.setCell ⟨s,1,none⟩ (.int .i64 (nx+1))).heap.size=w8.heap.size:=(size_set _ _ _).trans HZ9.out
  have CJ:∀b,b<w4.heap.size→o b=0→(Value.slice A8 (n+1) c8).ownBlock≠some b:=fun b hb h0 he=>by
   rcases hat with h9|h9
   ·rw[h9]at he
    have:=(JF.out b he).1
    exact hi (by rw[←this,h0])
   ·rw[h9]at he
    cases he
    omega
  have Eo:∀b,w.heap.size≤b→o b=0:=fun b hb=>Decidable.byContradiction fun h0=>by have:=(HM.out.new b h0).2;omega
  have hfp:∀b,o b=0→¬(b=s∨(Value.slice a n c).ownBlock=some b):=fun b h0 h=>by
   rcases h with h|h
   ·have:=MW.out;rw[←h,h0]at this;exact hi this.symm
   ·have:=(JF.out b h).1;rw[h0]at this;exact hi this.symm
  refine⟨by rw[qx.out];rfl,?_⟩
  rw[←CX.out]
  obtain⟨g,D,mb,ib,nb,hA,hg,hD⟩:=Er.out
  refine JD (x:=⟨S.next,iG (S.last++sv),bM T⟩) (v:= .slice a n c) (v8:= .slice A8 (n+1) c8) (a9:=a4) (c9:=c4) (q:=q) HM.out hi MW.out h3 JF.out uR.out ?_ ?_ ?_ VE (by show(iG (S.last++sv)).length≤c4;omega) ?_ ⟨g,D,mb,ib,nb,hA.keeps hK4 fun b hb=>hfp b ?_,fun b hb=> ?_⟩ LZ.out
  ·have h9:=Ph.out
   rw[qx.out,←hlen]at h9
   rw[qx.out]
   exact h9
  ·show World.ownsRow _ 0 _ 3 (.slice A8 (n+1) c8) (S.l.length+1) (vals++[.int .i64 S.next, .slice a4 (iG (S.last++sv)).length c4,ptr q])
   rw[hlen,←qx.out,←HN.out]
   refine bY Td.out fun b hb hbw=> ?_
   have hbs:b≠s:=fun e=>by
    rcases hat with h9|h9
    ·rw[h9]at hb;exact(JF.out b hb).2.1 e
    ·rw[h9]at hb;cases hb;omega
   exact(aP _ _ _ _ hbs).trans (Ou.out.block b hbw hbs)
  ·rcases hat with h9|h9
   ·exact .inl h9
   ·exact .inr ⟨_,h9,by omega⟩
  ·show ak _ _ a4 (iG (S.last++sv)).length ((iG (S.last++sv)).map bv)
   rw[hlen]
   have h45:w4.heap.size≤w5.heap.size:=by omega
   refine C8.out.move (by rw[Tf];omega) fun b hb hbw=>⟨⟨hb.1,by rw[Tf];omega,CJ b hb.2 (Eo b hb.1)⟩,?_⟩
   have hn:=hfp b (Eo b hb.1)
   have hbs:b≠s:=fun e=>hn (.inl e)
   exact(hK4.block b hb.2 hn).trans (Xz.out b hb.2 hbs).symm
  ·rcases hb with hb|hb
   ·exact hg b hb
   ·exact hD b hb
  ·have h0:o b=0:=by
    rcases hb with hb|hb
    ·exact hg b hb
    ·exact hD b hb
   refine⟨h0,CJ b ?_ h0⟩
   rcases hb with hb|hb
   ·exact hA.low b hb
   ·exact hA.lN b hb
end
end Go.Proofs.YtohpcppeajijnaaGreat
namespace Go.Proofs
open Go.Shelf
def Tryz.sO:Go.Shelf.Ren:=⟨fun|4=>177|n=>n,fun|22=>148|25=>152|3=>3|4=>4|9=>9|20=>20|0=>0|n=>n,fun|n=>n⟩
theorem Tryz.Ov:Go.Proofs.Lays8.n4 Tryz.prog Tryz.sO:={
 mixed:=by kernel_rfl
 f4:=⟨Tryz.f177.name,by decide,Tryz.func177.trans (congrArg some (by kernel_rfl))⟩
 t0:=Tryz.underlying0
 a0:=Tryz.isAgg0
 z0:=Tryz.sizeOf0
 v0:=Tryz.zeroValue0
 t3:=Tryz.underlying3
 a3:=Tryz.isAgg3
 z3:=Tryz.sizeOf3
 v3:=Tryz.zeroValue3
 t4:=Tryz.underlying4
 a4:=Tryz.isAgg4
 z4:=Tryz.sizeOf4
 v4:=Tryz.zeroValue4
 t9:=Tryz.underlying9
 a9:=Tryz.isAgg9
 z9:=Tryz.sizeOf9
 v9:=Tryz.zeroValue9
 t20:=Tryz.underlying20
 a20:=Tryz.isAgg20
 z20:=Tryz.sizeOf20
 v20:=Tryz.zeroValue20
 t22:=Tryz.underlying148
 a22:=Tryz.isAgg148
 z22:=Tryz.sizeOf148
 v22:=Tryz.zeroValue148}
end Go.Proofs
namespace Go.Proofs.YtohpcppeajijnaaGreat
open Go.ChangeShapes Go.WideShapes Go.ChangeAt Go.RowKit
set_option linter.unusedVariables false
set_option linter.unusedSimpArgs false
theorem Es:(Tryz.prog.info? 152).map (fun i=>(i.zero,i.size,i.bytes))=some (some (.agg #[.int .i64 0, .slice none 0 0, .pointer none]),3,40):=by kernel_rfl
theorem FJ (n:Nat) (w:World) (hn:n≤1000000):
  Calls Tryz.prog 177 #[.slice none 0 0, .int .i64 n] w fun e w'=>∃v,e= .returned v∧w'.ownsRow w.heap.size 152 3 v 0 []∧Below w.heap.size w w':=by
 obtain⟨i0,hi,hz0,hz1,hz2⟩:=info_parts Es
 by_cases h0:n=0
 ·subst h0
  refine(Any8.slices_Grow_room Tryz.Ov none 0 0 0 w (by omega) (by omega) (by omega) (by omega)).mono ?_
  rintro e w' ⟨rfl,rfl⟩
  exact⟨_,rfl,⟨rfl, .inl ⟨rfl,rfl⟩⟩,Below.refl _ _⟩
 ·refine(Any8.slices_Grow_grow Tryz.Ov i0 (.agg #[.int .i64 0, .slice none 0 0, .pointer none]) hi hz0 (by rw[hz1];omega) none 0 0 n [] w (by omega) (by omega) (by rw[hz2];omega) (by omega) (by simp) (fun _=>rfl) (fun a h=>by cases h)).mono ?_
  rintro e w' ⟨rfl,rfl⟩
  have h1:=grownCap_ge w (0+n) 0 (Tryz.sO.t 25)
  have h2:=grownCap_le_maxLen w (0+n) 0 (Tryz.sO.t 25) (by unfold maxLen;omega)
  refine⟨_,rfl,⟨rfl, .inr ⟨w.heap.size,_,_,rfl,Nat.le_refl _,(MapKept.heap_alloc w.drew _).1,Nat.zero_le _,h2,?_,rfl⟩⟩,((Below.refl _ _).drew).alloc (Nat.le_refl _) _⟩
  have e1:(Value.cells (.agg #[.int .i64 0, .slice none 0 0, .pointer none])).size=3:=rfl
  simp only[Array.size_append,size_zeroCells,List.size_toArray,List.length_nil,e1]
  omega
theorem vU (eZ:List (List Value)) (k:Nat) (bs:List Value) (h:eZ[k]? =some bs):(eZ.take (k+1)).flatten=(eZ.take k).flatten++bs:=by
 obtain⟨hk,e⟩:=List.getElem?_eq_some_iff.1 h
 rw[List.take_succ_eq_append_getElem hk,List.flatten_append,e]
 simp
theorem JG (eZ:List (List Value)) (k:Nat):(eZ.take k).flatten.length≤eZ.flatten.length:=by
 conv=>rhs;rw[←List.take_append_drop k eZ,List.flatten_append]
 simp
def h_ (eZ:List (List Value)) (k:Nat):List Value:=(eZ.take k).flatten
def gI (eZ:List (List Value)) (k:Nat):Nat:=(h_ eZ k).length/3
theorem t_ (eZ:List (List Value)):gI eZ 0=0:=by simp[gI,h_]
set_option maxRecDepth 100000 in
set_option maxHeartbeats 4000000 in
theorem AU {S:Nat→Prop} (B n N:Nat) (eZ:List (List Value)) (w:World) (hn:n=eZ.length) (hn2:n≤1000) (hB:B<w.heap.size) (hN:eZ.flatten.length=N*3) (htot:N≤100000)
  (hc:∀k,k<n→∃a l c bs,w.cell? ⟨B,k,none⟩=some (.slice a l c)∧ak S w a (l*3) bs∧eZ[k]? =some bs∧∀u∈bs,u.oneCell'=true):
  Calls Tryz.prog 148 #[.slice (some ⟨B,0,none⟩) n n] w fun e w'=>∃v,e= .returned v∧w'.ownsRow w.heap.size 152 3 v N eZ.flatten∧Below w.heap.size w w':=by
 obtain⟨i0,hi,hz0,hz1,hz2⟩:=info_parts Es
 have HN:=Lib.hid hn
 have HC:=Lib.hid hc
 have hle:∀k,gI eZ k≤N:=fun k=>by have:=JG eZ k;unfold gI h_;omega
 obtain⟨fl,Cg⟩:∃fl,fl=eZ.flatten:=⟨_,rfl⟩
 have xV:=Lib.hid hN
 rw[←Cg]
 have Wh:=Lib.hid Cg
 clear hN Cg
 have BM:=Lib.hid hle
 have hG:=FJ N w (by omega)
 have HG:=Lib.hid hG
 clear hn hc hle hG
 go_enter Tryz.func148,Tryz.ntmps148
 go_wp2
 go_loop [3,11] (fun s i=>∃k:Nat,k≤n∧i= .int .i64 k∧s= .int .i64 (gI eZ k)) (fun _ i=>n-(intOf i).toNat)
 case atStart=>exact⟨0,by omega,rfl,by rw[t_];rfl⟩
 case round=>
  obtain⟨k,hk,rfl,rfl⟩:=hrel
  have hlk:=BM.out k
  by_cases hlt:k<n
  ·obtain⟨a,l,c,bs,hcell,hS,hp,h1⟩:=HC.out k hlt
   have hll:bs.length=l*3:=hS.length
   have uo:Hid (gI eZ (k+1)=gI eZ k+l):=by
    have:gI eZ (k+1)=gI eZ k+l:=by
     unfold gI h_
     rw[vU eZ k bs hp,List.length_append,hll]
     omega
    exact Lib.hid this
   have hlk2:gI eZ k+l≤100000:=by have:=uo.out;have:=BM.out (k+1);omega
   clear hp hS h1
   go_wp2
   go_round
   case rel=>exact⟨k+1,by omega,by go_num,by rw[uo.out];go_num⟩
   case measure=>simp[intOf];omega
  ·obtain rfl:n=k:=by omega
   have HT:Hid (h_ eZ n=fl∧gI eZ n=N):=by
    have:eZ.take n=eZ:=List.take_of_length_le (by have:=HN.out;omega)
    unfold gI h_
    rw[this];exact⟨Wh.out.symm,by rw[xV.out];omega⟩
   rw[HT.out.2]
   go_wp2_with fail
   (with_reducible refine HG.out.mono ?_)
   rintro e w1 ⟨v,rfl,hown,hb1⟩
   have HB1:=Lib.hid hb1
   have hown0:w1.ownsRow w.heap.size 152 3 v (gI eZ 0) (h_ eZ 0):=by rw[t_];exact hown
   have HO:=Lib.hid hown0
   clear hb1 hown hown0 HG
   go_wp2_with fail
   go_loopw [6,27] (fun v i wr=>∃k:Nat,k≤n∧i= .int .i64 k∧wr.ownsRow w.heap.size 152 3 v (gI eZ k) (h_ eZ k)∧Below w.heap.size w wr) (fun _ i _=>n-(intOf i).toNat)
   case atStart=>exact⟨0,by omega,rfl,HO.out,HB1.out⟩
   case round=>
    obtain⟨k,hk,rfl,hown,hb⟩:=hrel
    have hbs:=hb.size
    by_cases hlt:k<n
    ·obtain⟨a,l,c,bs,hcell0,hS,hp,h1⟩:=HC.out k hlt
     have hcell:=(hb.cell (p:=⟨B,k,none⟩) hB).trans hcell0
     have hll:bs.length=l*3:=hS.length
     have uo:Hid (h_ eZ (k+1)=h_ eZ k++bs∧gI eZ (k+1)=gI eZ k+l):=by
      have e1:h_ eZ (k+1)=h_ eZ k++bs:=by unfold h_;exact vU eZ k bs hp
      exact Lib.hid ⟨e1,by unfold gI;rw[e1,List.length_append,hll];omega⟩
     have hlk2:gI eZ k+l≤100000:=by have:=uo.out.2;have:=BM.out (k+1);omega
     have HS:=Lib.hid (hS.below hb (Nat.le_refl _))
     have HOW:=Lib.hid hown
     have HB:=Lib.hid hb
     have H1:=Lib.hid h1
     clear hp hS hown hb hcell0 hlk hll h1
     go_wp2_with (at_builtin;refine bS (by rfl) _ _ 148 (by rfl) w.heap.size 152 i0 _ 3 40 Tryz.underlying148 hi hz0 hz1 hz2 rfl (by omega) _ _ _ (by rfl) HOW.out a l c bs (by rfl) HS.out H1.out (by unfold maxLen;omega) (by omega) hbs ?_;intro A' c' w2 hown2 hb2)
     have xq:=Lib.hid hown2
     have HB2:=Lib.hid hb2
     clear hown2 hb2
     go_roundw
     case rel=>
      refine⟨k+1,by omega,by go_num,?_,HB.out.trans HB2.out⟩
      rw[uo.out.1,uo.out.2]
      exact xq.out
     case measure=>simp[intOf];omega
    ·obtain rfl:n=k:=by omega
     rw[HT.out.1,HT.out.2]at hown
     obtain⟨a,c,rfl,hac⟩:=sG hown
     have HOW:=Lib.hid hown
     have HB:=Lib.hid hb
     clear hown hb
     go_wp2
     go_ret
     exact⟨_,rfl,HOW.out,HB.out⟩
def JH (a b:Int):Bool:=decide (b≤a)
theorem Et (a b:Int) (w:World):
  Calls Tryz.prog 200 #[.int .u64 a, .int .u64 b] w fun e w'=>e= .returned (.bool (JH a b))∧w=w':=by
 go_enter Tryz.func200,Tryz.ntmps200
 go_wp2
 go_ret
 exact⟨rfl,rfl⟩
theorem zx:(Tryz.prog.info? 3).map (fun i=>(i.zero,i.size,i.bytes))=some (some (.int .i64 0),1,8):=by kernel_rfl
def nJ (x:bf) (now:Int):Bool:=decide (x.kind=1)&&x.closed&&decide (now<x.aS)
def fu (T:aI) (now:Int):List Int:=(T.filter fun q=>nJ q.2 now).map (·.1)
theorem vV {T:aI} {now:Int} {k:Nat} {q:Int×bf} (h:T[k]? =some q):fu (T.take (k+1)) now=fu (T.take k) now++if nJ q.2 now then[q.1]else[]:=by
 obtain⟨hk,e⟩:=List.getElem?_eq_some_iff.1 h
 unfold fu
 rw[List.take_succ_eq_append_getElem hk,e,List.filter_append,List.map_append]
 congr 1
 by_cases hl:nJ q.2 now<;>simp[hl]
theorem FK (T:aI) (now:Int) (k:Nat):(fu (T.take k) now).length≤k:=by
 unfold fu
 rw[List.length_map]
 refine Nat.le_trans (List.length_filter_le _ _) ?_
 rw[List.length_take];omega
theorem AV (zs:List Int):∀u∈zs.map (Value.int .i64),u.oneCell'=true:=by
 intro u hu;obtain⟨x,_,rfl⟩:=List.mem_map.1 hu;rfl
theorem FL {w w':World} {base:Nat} {e:TypeId} {size:Nat} {v:Value} {n:Nat} {xs:List Value} {fp:Nat→Prop} (h:w.ownsRow base e size v n xs) (hK:Keeps fp w w') (hn:∀b,v.ownBlock=some b→¬fp b):w'.ownsRow base e size v n xs:=by
 refine⟨h.1,?_⟩
 rcases h.2 with h0|⟨g,cap,cur,rfl,hb,hg,r⟩
 ·exact .inl h0
 ·exact .inr ⟨g,cap,cur,rfl,hb,(hK.block g (Array.getElem?_eq_some_iff.1 hg).1 (hn g rfl)).trans hg,r⟩
theorem MZ {w:World} {base:Nat} {e:TypeId} {size:Nat} {v:Value} {n:Nat} {xs:List Value} (h:w.ownsRow base e size v n xs):∀b,v.ownBlock=some b→b<w.heap.size:=by
 intro b hb
 rcases h.2 with⟨rfl,_⟩|⟨g,cap,cur,rfl,_,hg,_⟩
 ·cases hb
 ·cases hb;exact(Array.getElem?_eq_some_iff.1 hg).1
theorem own_below {w w':World} {base:Nat} {e:TypeId} {size:Nat} {v:Value} {n:Nat} {xs:List Value} (h:w.ownsRow base e size v n xs) (hb:Below w.heap.size w w'):w'.ownsRow base e size v n xs:=
 FL h (Keeps.below hb) fun b hv hf=>by have:=MZ h b hv;omega
section
variable {g:Nat→Own} {D:Nat→Prop} {p mb:Nat} {ib nb:Int→Nat} {T:aI}
set_option maxRecDepth 100000 in
set_option maxHeartbeats 8000000 in
theorem JI (now:Int) (w:World) (h:aK g D w p mb ib nb T) (hT:dR T):Calls Tryz.prog 176 #[ptr p, .int .u64 now] w (qX w (fu T now)):=by
 obtain⟨ti,hi,hz0,hz1,hz2⟩:=info_parts zx
 have hlen:=hT.len
 have HH:=Lib.hid h
 have HT:=Lib.hid hT
 have Tg:=Lib.hid (yU w h (by omega))
 clear h hT
 go_enter Tryz.func176,Tryz.ntmps176
 go_wp2_with fail
 (with_reducible refine Tg.out.mono ?_)
 rintro e w1 ⟨a,cap,rfl,hcap,hr,hB⟩
 have hil:(iV T).length=T.length:=by unfold iV;rw[List.length_map]
 obtain⟨n,hn⟩:∃n,n=(iV T).length:=⟨_,rfl⟩
 rw[←hn]at hcap hr⊢
 have XF:n≤64:=by omega
 have LJ:Hid (n=T.length):=by have:n=T.length:=by omega
                              exact this
 have HR:=Lib.hid hr
 have HB:=Lib.hid hB
 have hs1:=hB.size
 clear hn hr hB hil Tg
 go_wp2_with fail
 go_loopw [5,16] (fun v i wr=>∃k:Nat,k≤n∧i= .int .i64 k∧wr.ownsRow w1.heap.size 3 1 v (fu (T.take k) now).length ((fu (T.take k) now).map (Value.int .i64))∧Below w1.heap.size w1 wr) (fun _ i _=>n-(intOf i).toNat)
 case atStart=>exact⟨0,by omega,rfl,⟨rfl, .inl ⟨rfl,rfl⟩⟩,Below.refl _ _⟩
 case round=>
  obtain⟨k,hk,rfl,hO,hb⟩:=hrel
  have hbs:=hb.size
  by_cases hlt:k<n
  ·obtain⟨q,hq⟩:∃q,T[k]? =some q:=⟨_,List.getElem?_eq_getElem (by have:=LJ.out;omega)⟩
   obtain⟨j,x⟩:=q
   obtain⟨bb,off,rfl,_,hbw,hcells⟩:=HR.out.at_ (by omega)
   have hc0:w1.cell? ⟨bb,off+k,none⟩=some (.int .i64 j):=by
    rw[hcells k hlt,List.getElem?_map]
    unfold iV
    rw[List.getElem?_map,hq]
    rfl
   have hc1:wr.cell? ⟨bb,off+k,none⟩=some (.int .i64 j):=(hb.cell (p:=⟨bb,off+k,none⟩) hbw).trans hc0
   have hx:aF j T=some x:=bL dD HT.out.sorted (List.mem_of_getElem? hq)
   have sD:=HT.out.ids j x hx
   have hBr:=HB.out.trans (hb.mono hs1)
   have JJ:=Iu j wr (HH.out.below hBr (Nat.le_refl _)) (tO sD.1 (by omega))
   have hnm:nU T j= .agg #[.int .i64 j, .int .i64 x.kind, .int .i64 x.links, .int .i64 x.b.length, .int .u64 x.aS, .bool x.closed]:=by unfold nU;rw[hx];rfl
   rw[hnm,hx]at JJ
   have HN:=Lib.hid JJ
   have vN:=Lib.hid (vV (now:=now) hq)
   have BM:=Lib.hid (FK T now k)
   have HO:=Lib.hid hO
   have xW:=Lib.hid hb
   clear JJ hnm hx hcells hc0 hO hb sD hq
   obtain⟨a5,c5,rfl,XG⟩:=bQ HO.out
   by_cases hl:nJ x now=true
   ·have HL:=Lib.hid hl
    simp only[nJ,Bool.and_eq_true,decide_eq_true_eq]at hl
    obtain⟨⟨hk1,hcl⟩,htl⟩:=hl
    have JK:JH now x.aS=false:=by unfold JH;simp;omega
    have HD:=Lib.hid JK
    rw[hcl,hk1]at HN
    clear hk1 hcl htl JK
    go_wp2_with fail
    (with_reducible refine HN.out.mono ?_)
    rintro e w3 ⟨rfl,hb3⟩
    have hs3:=hb3.size
    have hb4:Below wr.heap.size wr (w3.alloc (.cells #[.int .i64 j, .int .i64 1, .int .i64 x.links, .int .i64 x.b.length, .int .u64 x.aS, .bool true] 98)):=hb3.trans ((wall _ _).mono hs3)
    have hb5:Below wr.heap.size wr ((w3.alloc (.cells #[.int .i64 j, .int .i64 1, .int .i64 x.links, .int .i64 x.b.length, .int .u64 x.aS, .bool true] 98)).alloc (.cells #[.int .i64 j] 3)):=hb4.trans ((wall _ _).mono hb4.size)
    have LY:=Lib.hid (own_below HO.out hb5)
    have gZ:=Lib.hid (uN (w:=w3.alloc (.cells #[.int .i64 j, .int .i64 1, .int .i64 x.links, .int .i64 x.b.length, .int .u64 x.aS, .bool true] 98)) (.int .i64 j) 3)
    rw[World.size_alloc]at gZ
    have lX:=Lib.hid hb5
    have Ep:=hb5.size
    have hle:=BM.out
    clear hb3 hb4 hb5
    go_wp2_with (first|(go_at_call 200;refine(Et _ _ _).mono ?_;rintro e w4 ⟨rfl,rfl⟩;rw[HD.out])|(at_builtin;refine aO (by rfl) _ _ 37 (by rfl) w1.heap.size 3 ti (.int .i64 0) 8 Tryz.underlying37 hi hz0 hz1 hz2 rfl _ _ _ (by rfl) LY.out (some ⟨w3.heap.size+1,0,none⟩) 1 1 [.int .i64 j] (by rfl) gZ.out (AV [j]) (by unfold maxLen;omega) (by omega) (by omega) ?_;intro A' c' w6 hown6 vW _ _))
    have M0:=Lib.hid hown6
    have XH:=Lib.hid vW
    clear hown6 vW
    go_roundw
    case rel=>
     refine⟨k+1,by omega,by go_num,?_,?_⟩
     ·rw[vN.out,HL.out,if_pos rfl,List.map_append,List.length_append]
      exact M0.out
     ·exact(xW.out.trans (lX.out.mono hbs)).grown XH.out (by omega) (bC LY.out)
    case measure=>simp[intOf];omega
   ·have HL:=Lib.hid hl
    have Ow:fu (T.take (k+1)) now=fu (T.take k) now:=by rw[vN.out,if_neg hl,List.append_nil]
    have XI:=Lib.hid Ow
    have hfin:∀w3,Below wr.heap.size wr w3→w3.ownsRow w1.heap.size 3 1 (.slice a5 (fu (T.take k) now).length c5) (fu (T.take (k+1)) now).length ((fu (T.take (k+1)) now).map (Value.int .i64))∧Below w1.heap.size w1 w3:=fun w3 hb=>by
     rw[XI.out]
     exact⟨own_below HO.out hb,xW.out.trans (hb.mono hbs)⟩
    have ig:=Lib.hid hfin
    clear Ow hfin
    by_cases hk1:x.kind=1
    ·cases hcl:x.closed with
     |true=>
      have JK:JH now x.aS=true:=by
       by_cases htl:now<x.aS
       ·exact absurd (by simp[nJ,hk1,hcl,htl]) hl
       ·unfold JH;simp;omega
      have HD:=Lib.hid JK
      rw[hcl,hk1]at HN
      clear hk1 hcl JK hl
      go_wp2_with fail
      (with_reducible refine HN.out.mono ?_)
      rintro e w3 ⟨rfl,hb3⟩
      have HB3:=Lib.hid hb3
      clear hb3
      go_wp2_with (go_at_call 200;refine(Et _ _ _).mono ?_;rintro e w4 ⟨rfl,rfl⟩;rw[HD.out])
      go_roundw
      case rel=>
       obtain⟨e1,e2⟩:=ig.out _ (HB3.out.trans ((wall _ _).mono HB3.out.size))
       exact⟨k+1,by omega,by go_num,e1,e2⟩
      case measure=>simp[intOf];omega
     |false=>
      rw[hcl,hk1]at HN
      clear hk1 hcl hl
      go_wp2_with fail
      (with_reducible refine HN.out.mono ?_)
      rintro e w3 ⟨rfl,hb3⟩
      have HB3:=Lib.hid hb3
      clear hb3
      go_wp2_with fail
      go_roundw
      case rel=>
       obtain⟨e1,e2⟩:=ig.out _ (HB3.out.trans ((wall _ _).mono HB3.out.size))
       exact⟨k+1,by omega,by go_num,e1,e2⟩
      case measure=>simp[intOf];omega
    ·have e1:(x.kind==1)=false:=by simpa using hk1
     clear hk1 hl
     go_wp2_with fail
     (with_reducible refine HN.out.mono ?_)
     rintro e w3 ⟨rfl,hb3⟩
     have HB3:=Lib.hid hb3
     clear hb3
     go_wp2_with fail
     go_roundw
     case rel=>
      obtain⟨e1,e2⟩:=ig.out _ (HB3.out.trans ((wall _ _).mono HB3.out.size))
      exact⟨k+1,by omega,by go_num,e1,e2⟩
     case measure=>simp[intOf];omega
  ·obtain rfl:n=k:=by omega
   rw[List.take_of_length_le (by rw[LJ.out];exact Nat.le_refl _)]at hO
   obtain⟨a2,c2,rfl,hac⟩:=bQ hO
   have HO:=Lib.hid hO
   have xW:=Lib.hid hb
   clear hO hb
   go_wp2
   go_ret
   exact⟨a2,c2,rfl,hac,(ak.ku HO.out).2.mono (fun b hb=>⟨by omega,hb.2⟩),HB.out.trans (xW.out.mono hs1)⟩
theorem FM (now:Int) (w:World) (h:aK g D w p mb ib nb T) (hT:dR T):Calls Tryz.prog 147 #[ptr p, .int .u64 now] w fun e w'=>e= .returned (.bool (decide (0<(fu T now).length)))∧Below w.heap.size w w':=by
 have HL:=Lib.hid (JI now w h hT)
 clear h hT
 obtain⟨zs,hzs⟩:∃zs,zs=fu T now:=⟨_,rfl⟩
 rw[←hzs]at HL⊢
 clear hzs
 go_enter Tryz.func147,Tryz.ntmps147
 go_wp2_with fail
 (with_reducible refine HL.out.mono ?_)
 rintro e w1 ⟨a,cap,rfl,hcap,hr,hB⟩
 have HB:=Lib.hid hB
 clear hr hB
 go_wp2_with fail
 go_ret
 exact⟨gQ (by simp),HB.out⟩
end
section
variable {W w:World} {P:Nat→Prop} {p:Nat} {T:aI}
end
end Go.Proofs.YtohpcppeajijnaaGreat
