/- package -/
import Derived.Test.YtmflaonodghbcaaGreatDoorM39
import Derived.Test.YtmflaonodghbcaaGreatDoorM38
import Derived.Test.YtmflaonodghbcaaGreatDoorM26
import Derived.Lib.SliceRun
import Derived.Test.YtmflaonodghbcaaGreatDoorM37
import Derived.Test.YtmflaonodghbcaaGreatDoorM36
import Derived.Test.YtmflaonodghbcaaGreatDoorM02
import Derived.BigQuiet
import Derived.Deep.QuietTactic
import Derived.Test.YtmflaonodghbcaaGreatDoorM24
set_option maxRecDepth 100000
set_option maxHeartbeats 64000000
set_option linter.all false
namespace Go.Proofs.YtmflaonodghbcaaGreatDoor
open Go.ChangeShapes Go.WideShapes Go.ChangeAt Go.RowKit
theorem Pq{B n:Nat}{v:Value}{vals:List Value}{w:World}(hv:w.ownsRow B 197 3 v n vals)(h1:∀u∈vals,u.oneCell'=true)(hn:n≤1000):
  Calls Tryz.prog 113 #[v] w fun e w'=>∃v',e= .returned v'∧w'.ownsRow w.heap.size 197 3 v' n vals∧Below w.heap.size w w':=by
 obtain⟨i0,hi,hz0,hz1,hz2⟩:=aay infoOne;obtain⟨a,c,rfl,hcap⟩:=bG hv;obtain⟨-,-,hr⟩:=ah.mF hv (by unfold maxLen;omega);have heq:=fun w=>Lib.run_eql_slice_nil (P:=Tryz.prog) w 194 197 a n c 0 0 Tryz.underlying194;rcases a with _|ad
 ·have h0:n=0:=by
   rcases aaF n with h0|h0
   ·exact h0
   ·obtain⟨_,_,h,_⟩:=hr.at_ (Nat.mul_pos h0 (by omega:0<3));cases h
  subst h0;obtain rfl:vals=[]:=Pe (by have:=hr.length;omega);clear hv hr h1;go_enter Tryz.func113,Tryz.ntmps113;go_wp2_with fail;go_ret;exact⟨_,rfl,⟨rfl,.inl ⟨rfl,rfl⟩⟩,Below.refl _ _⟩
 ·have hb0:Below w.heap.size w (w.alloc (.cells #[] 197)):=wall w _;have HR:=ab9 (hr.move hb0.size fun b hb hbw=>⟨hb.2,hb0.block b hb.2⟩);have HO:=ab9 (rV (k:=3) (MapKept.heap_alloc w (.cells #[] 197)).1 ace);have H1:=ab9 h1;have HB0:=ab9 hb0;clear hv hr h1 hb0;go_enter Tryz.func113,Tryz.ntmps113;go_wp2_with (at_builtin;refine eO (by rfl) _ _ 194 (by rfl) w.heap.size 197 i0 _ 3 40 Tryz.underlying194 hi hz0 hz1 hz2 rfl (by omega) _ _ _ (by rfl) HO.o (some ad) n c vals (by rfl) HR.o H1.o (by unfold maxLen;omega) (by omega) (by have:=HB0.o.size;omega) ?_;intro A' c' w2 hown2 hb2);go_ret;rw[Nat.zero_add]at hown2;exact⟨_,by simp,hown2,HB0.o.trans hb2⟩
section
variable{W w:World}{o:Mark}{i j k p s:Nat}{S:rH}
theorem IB(hS:jR o i w s S)(hM:Marks W o w)(I_:S.l.length≤8)(hla:S.last.length≤64)(j:Nat)(hj:j≠0):
  Calls Tryz.prog 44 #[ptr s] w fun e w'=>∃q o',e= .returned (ptr q)∧Step o (fun k=>k=j) w o' w'∧jR o' j w' q S∧Below w.heap.size w w':=by
 obtain⟨v,la,lc,vals,h1,h2,h3,h4,h5,h6,h7,h8⟩:=hS.at_;have HM:=ab9 hM;have HO:=ab9 h6;have HLA:=ab9 h8;obtain⟨n,hn⟩:∃n,n=S.l.length:=⟨_,rfl⟩;obtain⟨m,hm⟩:∃m,m=S.last.length:=⟨_,rfl⟩;obtain⟨nx,hnx⟩:∃nx,nx=S.next:=⟨_,rfl⟩;rw[←hn]at h4 I_;rw[←hm,←hnx]at h1;rw[←hm]at h7 hla;have HN:=ab9 hn;have pX:=ab9 hm;have KZ:=ab9 hnx;have HL7:=ab9 h7;have HK:acd (∀w',Below w.heap.size w w'→w'.cell? ⟨s,0,none⟩=some v∧w'.cell? ⟨s,1,none⟩=some (.int .i64 nx)∧w'.cell? ⟨s,2,none⟩=some (.slice la m lc)):=fun w' hb=>by
  have hs:=(hb.block s h3).trans h1;refine⟨?_,?_,?_⟩<;>simp[World.cell?,hs]
 have zF:=fun(w':World) (hb:Below w.heap.size w w')=>Pq (bR h4 fun b _ hbw=>hb.block b hbw) h6.one (by omega);have HC:=ab9 zF;clear hS hM h1 h2 h3 h4 h5 h6 h7 h8 hn hm hnx zF;go_enter Tryz.func44,Tryz.ntmps44;go_wp2_with fail;refine xG ((fun w'=>w'.cell? ⟨s,0,none⟩=some v∧w'.cell? ⟨s,1,none⟩=some (.int .i64 nx)∧w'.cell? ⟨s,2,none⟩=some (.slice la m lc))) ?_ fun hS=> ?_
 ·exact HK.o _ acf.drew
 refine aR 0 hS ?_;refine aR 1 hS ?_;refine aR 2 hS ?_;refine aR 3 hS ?_;refine aR 5 hS ?_;refine aR 6 hS ?_;refine aR 7 hS ?_;refine aR 8 hS ?_;refine aR 9 hS ?_;refine aR 10 hS ?_;refine aR 11 hS ?_;refine aR 12 hS ?_;refine nK 4 fun K hK=> ?_;go_simp;refine(HC.o w.drew acf.drew).mono ?_;rintro e w1 ⟨v',rfl,hv',hb1⟩;have hb01:Below w.heap.size w w1:=acf.drew.trans hb1;have HB1:=ab9 hb01;obtain⟨a',c',rfl,hac'⟩:=bG hv';have HV:=ab9 hv';clear hv' hb1 hb01 hac';go_wp2_with fail;refine mQ hK (HK.o _ HB1.o) fun hS=> ?_;clear hK K;refine aR 13 hS ?_;refine nK 14 fun K hK=> ?_;go_simp;have rX:=wall w1 (.cells #[.slice a' n c',.int .i64 nx,.slice la m lc] 199);have HB12:=ab9 rX;have HB2:=ab9 (HB1.o.trans (rX.mono HB1.o.size));clear rX;refine mQ hK (HK.o _ HB2.o) fun hS=> ?_;clear hK K;refine aR 15 hS ?_;refine wQ ?_;go_wp2_with fail;go_ret;have qp:w1.heap.size<(w1.alloc (.cells #[.slice a' n c',.int .i64 nx,.slice la m lc] 199)).heap.size:=by simp
 have hs01:=HB1.o.size;obtain⟨o',hs,g1,g2⟩:=dI HM.o j (fun b=>b=w1.heap.size∨(Value.slice a' n c').ownBlock=some b) (w':=w1.alloc (.cells #[.slice a' n c',.int .i64 nx,.slice la m lc] 199)) (fun b hb=>by
  rcases hb with rfl|hb
  ·exact⟨by omega,qp⟩
  ·have:=bC HV.o b hb;have:=Dm HV.o b hb;exact⟨by simpa using bC HV.o b hb,by omega⟩) HB2.o
 refine⟨w1.heap.size,o',rfl,hs,⟨.slice a' n c',la,lc,vals,?_,g1 _ (.inl rfl),qp,?_,fun b hb=>⟨g1 b (.inr hb),?_,?_⟩,?_,?_,?_⟩,HB2.o⟩
 ·rw[←KZ.o,←pX.o];exact(MapKept.heap_alloc w1 _).1
 ·rw[←HN.o];exact bR (Er HV.o (Nat.zero_le _)) fun b _ hbw=>HB12.o.block b hbw
 ·have:=Dm HV.o b hb;omega
 ·have:=Dm HV.o b hb;omega
 ·exact HO.o.step (fun e=>hj e.symm) hs
 ·rw[←pX.o];exact HL7.o
 ·exact HLA.o.move HB2.o.size fun b hb hbw=>⟨⟨(hs.old b hb.2).trans hb.1,Nat.lt_of_lt_of_le hb.2 HB2.o.size⟩,HB2.o.block b hb.2⟩
def iH(M:dN):dN:=⟨dw M.t,M.s,M.now,fun _=>none⟩
theorem JU{M:dN}(hS:bT o i j k w p M)(hM:Marks W o w)(hT:fu M.t)(I_:M.s.l.length≤8)(hla:M.s.last.length≤64){i' j' k' l':Nat}(hk:Mk i' j' k' l')(hni:i'≠i∧j'≠i)(hf:∀b,o b≠j'):
  Calls Tryz.prog 91 #[ptr p] w fun e w'=>∃q o',e= .returned (ptr q)∧Step o (fun m=>m=i'∨m=j'∨m=k') w o' w'∧bT o' i' j' k' w' q (iH M)∧Below w.heap.size w w':=by
 obtain⟨n1,n2,n3,n4,n5,n6,n7,n8,n9,n10⟩:=hk.ne;obtain⟨t,s,v,h1,h2,h3,h4⟩:=hS.at_;have hlow:=hS.low;obtain⟨now,mP⟩:∃now,now=M.now:=⟨_,rfl⟩;rw[←mP]at h1;have TS:=ab9 mP;have HK:acd (∀w',Below w.heap.size w w'→w'.cell? ⟨p,0,none⟩=some (ptr t)∧w'.cell? ⟨p,1,none⟩=some (ptr s)∧w'.cell? ⟨p,2,none⟩=some (.int .u64 now)):=fun w' hb=>by
  obtain⟨z0,z1,z2,-⟩:=iG ((hb.block p hlow).trans h1);exact⟨z0,z1,z2⟩
 have hbd:Below w.heap.size w w.drew:=acf.drew;have TI:=ab9 (hM.grow hbd);have qm:=ab9 (h2.grow hM hbd);have HC:=ab9 (xH (h3.grow hbd) TI.o hT j' n2 hf);have nE:=ab9 (Step.grow (I:=fun m=>m=i'∨m=j'∨m=k') hM hbd);have tN:=ab9 hbd;clear hS hM hT h1 h2 h3 h4 hf hk mP hbd;go_enter Tryz.func91,Tryz.ntmps91;go_wp2_with fail;refine xG ((fun w'=>w'.cell? ⟨p,0,none⟩=some (ptr t)∧w'.cell? ⟨p,1,none⟩=some (ptr s)∧w'.cell? ⟨p,2,none⟩=some (.int .u64 now))) ?_ fun hS=> ?_
 ·exact HK.o _ acf.drew
 refine aR 0 hS ?_;refine aR 1 hS ?_;refine aR 2 hS ?_;refine aR 3 hS ?_;refine aR 5 hS ?_;refine aR 6 hS ?_;refine aR 7 hS ?_;refine aR 8 hS ?_;refine aR 10 hS ?_;refine aR 11 hS ?_;refine aR 12 hS ?_;refine aR 13 hS ?_;refine nK 4 fun K hK=> ?_;go_simp;refine HC.o.mono ?_;rintro e w1 ⟨q,o1,rfl,hs1,hT1,hb1⟩;have hM1:=TI.o.step (fun e=>n2 e.symm) hs1;have hS1:=qm.o.step (fun e=>n2 e.symm) (fun e=>hni.2 e.symm) hs1;have KM:=ab9 (IB hS1 hM1 I_ hla i' n1);have kr:=ab9 hM1;have HT1:=ab9 hT1;have nH:=ab9 hs1;have HB1:=ab9 (tN.o.trans hb1);clear hM1 hS1 hT1 hs1 hb1 qm HC;go_wp2_with fail;refine mQ hK (HK.o _ HB1.o) fun hS=> ?_;clear hK K;refine nK 9 fun K hK=> ?_;go_simp;refine KM.o.mono ?_;rintro e w2 ⟨s2,o2,rfl,hs2,hS2,hb2⟩;have pX:=ab9 (kr.o.step (fun e=>n1 e.symm) hs2);have HT2:=ab9 (HT1.o.step (fun e=>n1 e.symm) (fun e=>n5 e.symm) hs2);have HS2:=ab9 hs2;have Fg:=ab9 hS2;have HB2:=ab9 (HB1.o.trans (hb2.mono HB1.o.size));clear hs2 hS2 hb2 KM;go_wp2_with fail;refine mQ hK (HK.o _ HB2.o) fun hS=> ?_;clear hK K;refine aR 14 hS ?_;refine nK 15 fun K hK=> ?_;go_simp;have hb3:Below w2.heap.size w2 (w2.alloc (.cells (Dl q s2 now fun _=> .pointer none) 104)):=wall w2 _;have HB3:=ab9 hb3;have dh:=ab9 (HB2.o.trans (hb3.mono HB2.o.size));clear hb3;refine mQ hK (HK.o _ dh.o) fun hS=> ?_;clear hK K;refine aR 16 hS ?_;refine wQ ?_;go_wp2_with fail;go_ret;obtain⟨o3,hs3,g1,g2⟩:=dI pX.o k' (fun b=>b=w2.heap.size) (w':=w2.alloc (.cells (Dl q s2 now fun _=> .pointer none) 104)) (fun b hb=>by subst hb;exact⟨Nat.le_refl _,by simp⟩) HB3.o;have h0k:¬(fun m=>m=k') 0:=fun e=>n3 e.symm;have hst:Step o (fun m=>m=i'∨m=j'∨m=k') w o3 _:=((nE.o.trans (nH.o.mono fun m hm=> .inr (.inl hm))).trans (HS2.o.mono fun m hm=> .inl hm)).trans (hs3.mono fun m hm=> .inr (.inr hm));exact⟨w2.heap.size,o3,rfl,hst,⟨⟨q,s2,fun _=> .pointer none,by rw[show(iH M).now=now from TS.o.symm];exact(MapKept.heap_alloc w2 _).1,Fg.o.step h0k n6 hs3,HT2.o.step h0k n8 hs3,fun n hn=>rfl⟩,g1 _ rfl,by simp⟩,dh.o⟩
theorem miss{I:Nat→Prop}{w w':World}{o o':Mark}{k:Nat}(h:∀b,o b≠k)(hk:k≠0)(hI:¬I k)(hs:Step o I w o' w'):∀b,o' b≠k:=by
 intro b e;rcases Nat.lt_or_ge b w.heap.size with hb|hb
 ·exact h b ((hs.old b hb).symm.trans e)
 ·have:=(hs.new b hb (by rw[e];exact hk)).1;rw[e]at this;exact hI this
theorem fP.settled{c:Int}{M:dN}(h:fP c M):fP c (iH M):=⟨h.t.dw,h.s,h.next,h.now,fun n f hf=>by cases hf⟩
theorem Pt{c:Int}{M:dN}(h:xK W o i w p c M)(hi:0<i)(i':Nat)(hd:i+4<i')(hf:∀b,o b≠i'+1):
  Calls Tryz.prog 91 #[ptr p] w fun e w'=>∃q o',e= .returned (ptr q)∧Step o (Five i') w o' w'∧xK W o' i' w' q c (iH M):=by
 refine(JU h.st h.marks h.ok.t.1 h.ok.s.few h.ok.s.last (mk5 (i:=i') (by omega)).mm (by omega) hf).mono ?_;rintro e w' ⟨q,o',rfl,hs,hS,hb⟩;have hs5:Step o (Five i') w o' w':=hs.mono fun m hm=>oW (by omega);exact⟨q,o',rfl,hs5,⟨hS,h.marks.step (fun e=>by have:=e.1;omega) hs5,h.ok.settled⟩⟩
end
theorem oD.step1{w w':World}{o o':Mark}{m j s:Nat}{S:rH}(h:jR o j w s S)(hm:0<m)(hj:j≠m)(hs:Step o (fun k=>k=m) w o' w'):jR o' j w' s S:=h.step (I:=fun k=>k=m) (fun e=>by have e':0=m:=e;omega) (fun e=>hj e) hs
theorem FQ.step1{w w':World}{o o':Mark}{m j x:Nat}{s:Rd}(h:FQ o j w x s)(hm:0<m)(hj:j≠m)(hs:Step o (fun k=>k=m) w o' w'):FQ o' j w' x s:=h.step (I:=fun k=>k=m) (fun e=>by have e':0=m:=e;omega) (fun e=>hj e) hs
section
variable{W w:World}{o:Mark}{p:Nat}{T:aI}
theorem st_load{Q:Nat→Prop}{c:Int}{M:dN}(hM:Marks W o w)(i:Nat)(hi:0<i)(hSt:fP c M)(hc:c≤1000000000)(hG:oF M.s)(hid:qo M.s)(hsl:(gH M.s).length≤60000000)(a:Option Addr)(n cp:Nat)(hr:ah Q w a n ((fV M).map bv)):
  Calls Tryz.prog 211 #[.slice a n cp] w fun e w'=>∃q o',e= .returned (.tuple #[ptr q,.int .i64 0])∧Step o (Five i) w o' w'∧xK W o' i w' q c (iH M):=by
 have hOT:fH (dw M.t):=hSt.t.dw;have Zw:=Ll hOT.1;obtain⟨C,hC⟩:∃C,C=f_ (dw M.t):=⟨_,rfl⟩;obtain⟨sn,hsn⟩:∃sn,sn=gH M.s:=⟨_,rfl⟩;rw[←hC]at Zw;have e8:(256:Int)^8=18446744073709551616:=rfl;have mP:=hSt.now;have hst:fV M=bA M.now 8++(bA (C.length:Int) 8++(C++sn)):=by
  unfold fV;rw[←hC,←hsn,List.append_assoc,List.append_assoc]
 have hnl:n=16+C.length+sn.length:=by
  have h9:=hr.length;rw[hst]at h9;simp only[List.length_map,List.length_append,ay]at h9;omega
 rw[←hsn]at hsl;have n1:bB (fV M,0) 8=(M.now,(bA (C.length:Int) 8++(C++sn),0)):=by
  rw[hst];exact eT 8 _ _ (by omega) (by omega)
 have n2:bB (bA (C.length:Int) 8++(C++sn),0) 8=((C.length:Int),(C++sn,0)):=eT 8 _ _ (by omega) (by omega);have n3:lJ (C++sn,0)=C.length+sn.length:=by unfold lJ;rw[if_neg (by simp),List.length_append]
 have n4:jJ (C++sn,0) (C.length:Int)=(C,(sn,0)):=rR _ _ _ rfl;have n5:lJ (sn,0)=sn.length:=by unfold lJ;rw[if_neg (by simp)]
 have n6:jJ (sn,0) (sn.length:Int)=(sn,([],0)):=by
  have:=rR sn [] sn.length rfl;rw[aaE]at this;exact this
 have Pj:=ab9 (WS hM (i+3) a n cp (fV M) (by omega) hr);have HSTO:=ab9 hSt;have HG:=ab9 hG;have JO:=ab9 (hSt.sv hc hid);have iM:acd (∀x∈M.s.l,fH x.t):=hSt.s.each;have HM:=ab9 hM;have HOT:=ab9 hOT;have HCE:=ab9 hC;have Gh:=ab9 hsn;have zV:=ab9 n1;have MU:=ab9 n2;have Ji:=ab9 n3;have Wp:=ab9 n4;have HN5:=ab9 n5;have HN6:=ab9 n6;obtain⟨now,hne⟩:∃now,now=M.now:=⟨_,rfl⟩;rw[←hne]at zV mP;have FP:=ab9 hne;obtain⟨L,hL⟩:∃L,L=C.length:=⟨_,rfl⟩;obtain⟨K,hK⟩:∃K,K=sn.length:=⟨_,rfl⟩;rw[←hL]at MU zV Ji Wp Zw;rw[←hK]at Ji HN5 HN6 hsl;have Gb:=ab9 hL;have HKE:=ab9 hK;clear hM hSt hG hid hr hOT hC hsn hst hnl n1 n2 n3 n4 n5 n6 hne hL hK;go_enter Tryz.func211,Tryz.ntmps211;go_wp2_with fail;refine Pj.o.mono ?_;rintro e w1 ⟨xr,o1,rfl,kR,hs1⟩;have kr:=ab9 (HM.o.step1 (by omega) hs1);have qH:=ab9 hs1;have CB:=ab9 (zW kR kr.o zV.o);clear kR hs1 Pj;go_wp2_with fail;refine CB.o.mono ?_;rintro e w2 ⟨rfl,hR2,hs2⟩;have pX:=ab9 (kr.o.step1 (by omega) hs2);have Me:=ab9 (qH.o.trans hs2);have sI:=ab9 (zW hR2 pX.o MU.o);clear hR2 hs2 CB kr qH;go_wp2_with fail;refine sI.o.mono ?_;rintro e w3 ⟨rfl,BR,hs3⟩;have uJ:=ab9 (pX.o.step1 (by omega) hs3);have JR:=ab9 (Me.o.trans hs3);have qD:=ab9 (TK now w3);rw[aal mP.2]at qD;have Dc:=ab9 (Ju BR);rw[Ji.o]at Dc;have C9:=ab9 (OD BR uJ.o (L:Int) (by omega) (by omega) Wp.o);have z2:IntKind.u64.wrap ((L+K:Nat):Int)=((L+K:Nat):Int):=by simp[IntKind.wrap,IntKind.bits,IntKind.signed];omega
 have z4:decide (((L+K:Nat):Int)<(L:Int))=false:=aaf (by omega);have z9:IntKind.i64.wrap (L:Int)=(L:Int):=aah _ (by omega);obtain⟨R,hR⟩:∃R,R=L+K:=⟨_,rfl⟩;rw[←hR]at Dc z2 z4;have zB:L≤R:=by omega
 have zC:decide (R<L)=false:=aaf (by omega);clear hR BR hs3 sI pX Me;go_wp2_with fail;refine qD.o.mono ?_;rintro e _ ⟨rfl,rfl⟩;go_wp2_with fail;refine Dc.o.mono ?_;rintro e _ ⟨rfl,rfl⟩;go_wp2_with fail;refine C9.o.mono ?_;rintro e w4 ⟨a4,c4,rfl,hc4,hr4,xD,hs4⟩;rw[←Gb.o]at hr4⊢;have mo:=ab9 (uJ.o.step1 (by omega) hs4);have oV:=ab9 (JR.o.trans hs4);have dh:acd (ah (Free o1 w4) w4 a4 L (C.map bv)):=hr4;have HR4:=ab9 xD;have VG:=ab9 (Ic a4 L c4 C w4 (by omega) hr4);clear hc4 hr4 xD hs4 C9 Dc qD uJ JR z2 z4 zB zC;go_wp2_with fail;refine VG.o.mono ?_;intro e w5 hld;obtain⟨p,rfl,hnt⟩:=jT.yes (T:=dw M.t) (by rw[←HCE.o];exact hld) HOT.o;obtain⟨o5,hs5,Yz⟩:=hnt.mark mo.o (i+1);have WR:=ab9 Yz;have vI:=ab9 (mo.o.step1 (by omega) hs5);have Gw:acd (Step o (Five i) w o5 w5):=(oV.o.mono fun k hk=>oW (by omega)).trans (hs5.mono fun k hk=>oW (by omega));have dX:=ab9 (dh.o.free1 (by omega) hs5);have sZ:=ab9 (HR4.o.step1 (by omega) (by omega) hs5);have SY:=ab9 (rA WR.o vI.o HOT.o.1);rw[zU]at SY;clear hld hnt hs5 Yz VG mo oV dh HR4;go_wp2_with fail;refine SY.o.mono ?_;rintro e w6 ⟨q2,rfl,ZU,hb6⟩;have Pn:=ab9 (Jm ZU HOT.o.1);rw[←HCE.o]at Pn;have Po:=ab9 hb6;clear ZU hb6 SY;go_wp2_with fail;refine Pn.o.mono ?_;rintro e w7 ⟨a7,n7,c7,rfl,Gc,qC,iR⟩;have yH:Below w5.heap.size w5 w7:=Po.o.trans (iR.mono Po.o.size);have HT7:=ab9 (WR.o.grow yH);have Df:=ab9 (vI.o.grow yH);have wW:=ab9 (Gw.o.trans (Step.grow vI.o yH));have HEQ:=ab9 (qh a7 a4 n7 L c7 c4 C w7 qC (dX.o.free (I:=fun _=>False) (fun e=>e) (Step.grow vI.o yH)));have QF:=sZ.o.grow vI.o yH;have HL7:=ab9 (Ju QF);rw[HN5.o]at HL7;have HRW:=ab9 (OD QF Df.o (K:Int) (by omega) (by omega) HN6.o);clear Gc qC iR yH QF Pn Po WR vI Gw sZ dX;go_wp2_with fail;refine HEQ.o.mono ?_;rintro e _ ⟨rfl,rfl⟩;go_wp2_with fail;refine HL7.o.mono ?_;rintro e _ ⟨rfl,rfl⟩;go_wp2_with fail;refine HRW.o.mono ?_;rintro e w8 ⟨a8,c8,rfl,hc8,ru,hR8,Aj⟩;rw[←HKE.o]at ru⊢;have J_:=ab9 (Df.o.step1 (by omega) Aj);have HT8:=ab9 (HT7.o.step1 (by omega) (by omega) Aj);have HST8:=ab9 (wW.o.trans (Aj.mono fun k hk=>oW (by omega)));have HSL:=ab9 (Pp (i:=i) (j:=i+4) J_.o (by omega) (by omega) (by omega) a8 K c8 HG.o JO.o iM.o (by rw[←Gh.o];exact ru) (by rw[←Gh.o,←HKE.o];omega));clear hc8 ru hR8 Aj HRW HL7 HEQ Df HT7 wW;go_wp2_with fail;refine HSL.o.mono ?_;rintro e w9 ⟨s9,o9,rfl,Gd,hS9⟩;have h0:True:=trivial;have XT:=ab9 (J_.o.step (I:=fun m=>m=i∨m=i+4) (fun e=>by
  have e':0=i∨0=i+4:=e;omega) Gd)
 have HT9:=ab9 (HT8.o.step (I:=fun m=>m=i∨m=i+4) (fun e=>by
  have e':0=i∨0=i+4:=e;omega) (fun e=>by
  have e':i+1=i∨i+1=i+4:=e;omega) Gd)
 have Aa:=ab9 (HST8.o.trans (Gd.mono fun k hk=>oW (by omega)));have HSN9:=ab9 hS9;clear h0 Gd hS9 HSL J_ HT8 HST8;go_wp2_with fail
 go_ret2
 have hb:Below w9.heap.size w9 (w9.alloc (.cells (Dl p s9 now fun _=> .pointer none) 104)):=wall w9 _;obtain⟨oA,hsA,g1,g2⟩:=dI XT.o (i+2) (fun b=>b=w9.heap.size) (w':=w9.alloc (.cells (Dl p s9 now fun _=> .pointer none) 104)) (fun b hb=>by subst hb;exact⟨Nat.le_refl _,by simp⟩) hb;have hst:Step o (Five i) w oA _:=Aa.o.trans (hsA.mono fun k hk=>oW (by omega));refine⟨w9.heap.size,oA,rfl,hst,⟨⟨⟨p,s9,fun _=> .pointer none,by rw[show(iH M).now=now from FP.o.symm];exact(MapKept.heap_alloc w9 _).1,HSN9.o.step1 (by omega) (by omega) hsA,HT9.o.step1 (by omega) (by omega) hsA,fun n hn=>rfl⟩,g1 _ rfl,by simp⟩,HM.o.step (fun e=>by have:=e.1;omega) hst,HSTO.o.settled⟩⟩
end
theorem JV{fn:Func}{sl b' d':Nat}{Q:Ending→World→Prop}{a:Act}{w:World}{b:Nat}{cs:Array Value}{y z:Value}(hf:fn.results= #[.cell sl 91,.tmp b',.tmp d'])(hs:a.tmps.getD sl undef= .pointer (some ⟨b,0,none⟩))(hy:a.tmps.getD b' undef=y)(hz:a.tmps.getD d' undef=z)(hd:a.defers=[])(hg:w.heap[b]? =some (.cells cs 91 (0,0)))(h3:cs.size=5)(hQ:Q (.returned (.tuple #[.agg cs,y,z])) w):
  bodyPost Tryz.prog fn Q .ret a w:=by
 subst hy hz;exact aap (v:= .tuple #[.agg cs,a.tmps.getD b' undef,a.tmps.getD d' undef]) (nL hf hs (aaT w b 91 91 _ (0,0) _ hg Tryz.underlying91 rfl (by rw[h3];exact yx))) hd hQ
structure Pv(n:Nat)(c:Int)(x:wT)(M:dN):Prop where
 mark:Bu n x
 state:x.state=fV M
 room:(x.state.length:Int)≤gu n
 ok:fP c M
 low:c≤1000000000
 good:oF M.s
 ids:qo M.s
 snaps:(gH M.s).length≤60000000
abbrev Six(j:Nat):Nat→Prop:=fun m=>j≤m∧m≤j+5
def PtRet(W:World)(o:Mark)(j:Nat)(w:World)(c:Int)(x:wT)(M:dN)(e:Ending)(w':World):Prop:=
 ∃ha hc sa sc q o',e= .returned (.tuple #[.agg (n_ x ha hc sa x.state.length sc),ptr q,.bool true])∧Step o (Six j) w o' w'∧xK W o' j w' q c (iH M)∧ah (Free o' w') w' ha 32 (x.head.map bv)
section
variable{W w:World}{o:Mark}{i j n d:Nat}
theorem Fw{b:List UInt8}{cl:Prop}{cw c:Int}(hD:dP o i w d n b cl cw)(hM:Marks W o w)(hj:0<j)(k:Nat)(hk:k=0∨k=1)(x:wT)(M:dN)(hP:Pv n c x M)(hb:secs b (bE n k) (n/4)=xJ n x):
  Calls Tryz.prog 158 #[ptr d,.agg (aW n),.int .i64 (k:Int)] w (PtRet W o j w c x M):=by
 have hl:=hD.len;have hsa:bE n k+n/4≤n:=by unfold bE;rcases hk with rfl|rfl<;>omega
 have Wi:acd (∀u,Calls Tryz.prog 99 #[.agg (aW n),.int .i64 (k:Int)] u fun e u'=>e= .returned (.tuple #[.int .i64 ((bE n k:Nat):Int),.int .i64 0])∧Below u.heap.size u u'):=ab9 fun u=>by
  have h9:=zI n hl.2.1 hl.2.2 k (by omega) u
  rwa [show 1+(k:Int)*((n:Int)/4)=((bE n k:Nat):Int)by unfold bE;rcases hk with rfl|rfl<;>omega]at h9
 obtain⟨first,hfi⟩:∃first,first=bE n k:=⟨_,rfl⟩
 rw[←hfi]at hsa Wi hb;have zR:=ab9 (fun(j:Nat) (hj:j<n) (u:World) (hb:Below w.heap.size w u)=>JC (hD.grow hb) j hj);obtain⟨w2,hw2⟩:∃w2,w2=(w.alloc (.cells (aW n) 57)).alloc (.cells #[.int .u64 0,.int .u64 0,.int .i64 0,.slice none 0 0,.slice none 0 0] 91):=⟨_,rfl⟩;obtain⟨hs2,hb2,hp2⟩:=jE _ _ _ _ hw2;have hm2:w2.heap[w.heap.size+1]? =some (.cells #[.int .u64 0,.int .u64 0,.int .i64 0,.slice none 0 0,.slice none 0 0] 91 (0,0)):=by
  have h9:=(MapKept.heap_alloc (w.alloc (.cells (aW n) 57)) (.cells #[.int .u64 0,.int .u64 0,.int .i64 0,.slice none 0 0,.slice none 0 0] 91)).1;rw[Pd]at h9;rw[hw2];exact h9
 obtain⟨m,hm⟩:∃m,m=n/4:=⟨_,rfl⟩;have hmi:((n:Int)/4)=(m:Int):=by omega
 have HP0:=ab9 (fun(u:World) (hb:Below w2.heap.size w2 u)=>eB (n:=n) ((hb.block w.heap.size (by omega)).trans hp2));rw[hmi]at HP0;have HDC:=ab9 (fun(a:Option Addr) (N c:Nat) (hN:N=m*128) (u:World) (S:Nat→Prop) (hr:ah S u a N ((xJ n x).map bv)) (hc:N≤c)=>Xn n hl.2.1 hl.2.2 x hP.mark hP.room a N c (by omega) u hr hc);have HL:=ab9 hl.1;have zN:=ab9 hb;have HD:=ab9 hD;have HM:=ab9 hM;have Uy:=ab9 hP;have qG:=ab9 hm2;have HW2:=ab9 hw2;have HB2:=ab9 hb2;have HMI:=ab9 hmi;have HMM:=ab9 hm;have hn9:=hl.2.2;have hm9:m≤1024:=by omega
 obtain⟨i0,hi0,hz0,hz1,hz2⟩:=aay Tryz.uP;unfold aW at Wi HDC HW2⊢;rw[hmi]at Wi HDC HW2⊢;rw[←hm]at hsa;have vQ:w.heap.size+1<w2.heap.size:=by omega
 obtain⟨p0,p1,p2⟩:=HP0.o w2 acf;clear hD hM hP hb hw2 hb2 hp2 hm2 hs2 hk hfi hl hm hmi;go_enter Tryz.func158,Tryz.ntmps158;go_wp2_with fail;rw[←HW2.o];refine(Wi.o w2).mono ?_;rintro e w3 ⟨rfl,hb3⟩;have HB3:=ab9 hb3;clear hb3 p0 p1 p2;obtain⟨p0,p1,p2⟩:=HP0.o w3 HB3.o;go_wp2_with fail
 go_loopw [11,26] (fun v iv wr=>∃j:Nat,j≤m∧iv= .int .i64 j∧wr.ownsRow w2.heap.size 5 1 v (j*128) ((secs b first j).map bv)∧Below w2.heap.size w2 wr) (fun _ iv _=>m-(intOf iv).toNat)
 case atStart=>exact⟨0,by omega,rfl,⟨by simp[secs],.inl ⟨rfl,rfl⟩⟩,HB3.o⟩
 case round=>
  obtain⟨j',hj',rfl,hown,hbr⟩:=hrel;have HB:=ab9 hbr;have HO:=ab9 hown;obtain⟨av,cv,rfl,hcv⟩:=bG hown;have hbs:=hbr.size;clear hown p0 p1 p2;by_cases hlt:j'<m
  ·have hd:decide ((j':Int)<(m:Int))=true:=aal (by omega);have hdn:decide (j'<m)=true:=aal hlt;obtain⟨z,hz⟩:∃z,z=first+j':=⟨_,rfl⟩
   have e1:IntKind.i64.wrap ((first:Int)+(j':Int))=(z:Int):=by rw[aah _ (by omega)];omega
   have HC:=ab9 (zR.o z (by omega) _ (HB2.o.trans (hbr.mono (by omega))));have hrl:(rowsOf b z).length=128:=fU HL.o (by omega);have HZZ:=ab9 hz;clear hbr hz;go_wp2_with fail;refine HC.o.mono ?_;rintro e w5 ⟨a3,c3,rfl,hc3,hr3,hb3⟩;have HR3:=ab9 hr3;have K9:=ab9 (jk HO.o hb3);have dX:=ab9 (HB.o.trans (hb3.mono HB.o.size));have hs3:=hb3.size;clear hr3 hb3 HC;go_wp2_with (at_builtin;refine bV (by rfl) _ _ 32 (by rfl) w2.heap.size 5 i0 (.int .u8 0) 1 Tryz.underlying32 hi0 hz0 hz1 hz2 rfl _ _ _ (by rfl) K9.o a3 128 c3 ((rowsOf b z).map bv) (by rfl) HR3.o (iU _) (by unfold maxLen;omega) (by omega) (by omega) ?_;intro A' c' w4 lK hg4 _ _;have ZH:=ab9 lK;have HG4:=ab9 hg4;clear lK hg4);go_roundw
   case rel=>
    refine⟨j'+1,by omega,by go_num,?_,dX.o.trans ((Keeps.grown HG4.o).bQ dX.o.size fun y hy e=>by have:=bC K9.o y e;omega)⟩;rw[Im,←HZZ.o,aaz,show(j'+1)*128=j'*128+128 by omega];exact ZH.o
   case measure=>simp[intOf];omega
  ·have hd:decide ((j':Int)<(m:Int))=false:=aaf (by omega);have hdn:decide (j'<m)=false:=aaf hlt;obtain rfl:m=j':=by omega
   obtain⟨q0,q1,q2⟩:=HP0.o _ hbr;have Gt:acd (Calls Tryz.prog 210 #[.agg #[.int .i64 (n:Int),.int .i64 (m:Int),.int .i64 (((n:Int)-1-2*(m:Int))/8)],.slice av (m*128) cv] _ (MkRet _ x)):=ab9 (HDC.o av (m*128) cv rfl _ _ (by have h9:=(ah.mU HO.o).2;rw[HMM.o]at h9⊢;rw[zN.o]at h9;exact h9) hcv);clear hbr;go_wp2_with fail;refine Gt.o.mono ?_;rintro e w6 ⟨ha,hc,sa,sc,rfl,hhr,hhc,hsr,hsc,hb6⟩;obtain⟨w7,hw7⟩:∃w7,w7=w6.alloc (.cells (n_ x ha hc sa x.state.length sc) 91):=⟨_,rfl⟩;have iR:Below w6.heap.size w6 w7:=by rw[hw7];exact wall w6 _
   have hx7:w7.heap[w6.heap.size]? =some (.cells (n_ x ha hc sa x.state.length sc) 91 (0,0)):=by rw[hw7];exact(MapKept.heap_alloc w6 _).1
   have hz7:w6.heap.size<w7.heap.size:=(uh.1 hx7).1;have hbr7:Below w2.heap.size w2 w7:=HB.o.trans ((hb6.trans (iR.mono hb6.size)).mono HB.o.size);have hbw7:Below w.heap.size w w7:=HB2.o.trans (hbr7.mono (by omega));obtain⟨o2,ho2,hm1,hm2⟩:=dI HM.o (j+5) (fun y=>y=w.heap.size+1) (w':=w7) (fun y hy=>by subst hy;have:=hbr7.size;omega) hbw7;have Nj:=ab9 ho2;have Df:=ab9 (HM.o.step (fun e=>by omega) ho2);have hun:∀y,w.heap.size≤y→y≠w.heap.size+1→o2 y=0:=fun y hy hne=>by
    rw[hm2 y hne];exact Vh fun h9=>by have:=(HM.o.new y h9).2;omega
   clear ho2 hm2;have hs6:=hb6.size;have tu:acd (ah (fun y=>w2.heap.size≤y∧y<w7.heap.size) w7 ha 32 (x.head.map bv)):=ab9 ((hhr.below iR ace).mono fun y hy=>⟨by omega,by omega⟩);have VG:=ab9 (st_load (c:=c) (M:=M) Df.o j hj Uy.o.ok Uy.o.low Uy.o.good Uy.o.ids Uy.o.snaps sa x.state.length sc (by have h9:=hsr.below iR ace;rw[Uy.o.state]at h9⊢;exact h9));obtain⟨c0,c1,c2,c3,c4⟩:=iF hx7;have HX7:=ab9 hx7;have HBW7:=ab9 hbw7;have HBR7:=ab9 hbr7;unfold n_ at hw7⊢;clear hhr hsr hb6 iR hx7 hbr7 hbw7 Gt q0 q1 q2;go_wp2_with fail;rw[←hw7];clear hw7;refine VG.o.mono ?_;rintro e w8 ⟨q,o8,rfl,Aj,hS8⟩;have h50:¬Five j 0:=fun e=>by have:=e.1;omega
   have hsz8:=Aj.keep.size;have hx8:=(Aj.block hz7 (by rw[hun _ (by omega) (by omega)];exact h50)).trans HX7.o;have hres8:w8.heap[w.heap.size+1]? =some (.cells #[.int .u64 0,.int .u64 0,.int .i64 0,.slice none 0 0,.slice none 0 0] 91 (0,0)):=(Aj.block (by have:=HBR7.o.size;omega) (by rw[hm1 _ rfl];exact fun e=>by have:=e.2;omega)).trans ((HBR7.o.block _ (by omega)).trans qG.o);obtain⟨c0,c1,c2,c3,c4⟩:=iF hx8;have Nq:acd (ah (Free o8 w8) w8 ha 32 (x.head.map bv)):=ab9 (ah.free (o:=o2) (w:=w7) (tu.o.mono fun y hy=>⟨hun y (by omega) (by omega),hy.2⟩) h50 Aj);have hrm:o8 (w.heap.size+1)=j+5:=(Aj.old _ (by have:=HBR7.o.size;omega)).trans (hm1 _ rfl);have Ut:=ab9 Aj;have HST:=ab9 hS8;have HRS:=ab9 hres8;clear Aj hS8 hx8 hres8 hun hm1;go_wp2_with (refine au (by rfl) 91 _ _ (by rfl) (w.heap.size+1) (n_ x ha hc sa x.state.length sc) (by rfl) (by rfl) _ HRS.o yx rfl (by simp[n_,Value.oneCell']) ?_;intro wG wS;have nE:=ab9 wS;clear wS c0 c1 c2 c3 c4);refine JV rfl rfl rfl rfl rfl nE.o.1 rfl ?_;have hsz8':w.heap.size+1<w8.heap.size:=by have:=HBR7.o.size;omega
   have sw:Step o8 (fun k=>k=j+5) w8 o8 wG:=⟨fun _ _=>rfl,fun b hb hn=>by have:=(HST.o.marks.new b hn).2;omega,nE.o.2.1.mono fun b _ (e:b=_)=>by rw[e];exact hrm⟩;have hn0:¬(0=j+5):=by omega
   refine⟨ha,hc,sa,sc,q,o8,rfl,((Nj.o.mono fun k hk=> ?_).trans (Ut.o.mono fun k hk=> ?_)).trans (sw.mono fun k hk=> ?_),⟨HST.o.st.step hn0 (by omega) (by omega) (by omega) sw,HST.o.marks.step hn0 sw,HST.o.ok⟩,Nq.o.free hn0 sw⟩
   ·subst hk;exact⟨by omega,by omega⟩
   ·exact⟨hk.1,by have:=hk.2;omega⟩
   ·subst hk;exact⟨by omega,by omega⟩
end
def SEqIs(w:World)(r:Bool)(e:Ending)(w':World):Prop:=e= .returned (.bool r)∧∃q,w'=w.drewN q
theorem XU{xs ys:List UInt8}{k:Nat}(hk:k<xs.length)(hk':k<ys.length)(h:xs.take k=ys.take k)(he:xs[k]=ys[k]):xs.take (k+1)=ys.take (k+1):=by
 rw[aai hk,aai hk',h,he]
theorem Pw{S S':Nat→Prop}(a b:Option Addr)(ca cb:Nat)(xs ys:List UInt8)(w:World)(ha:ah S w a xs.length (xs.map bv))(hb:ah S' w b ys.length (ys.map bv)):
  Calls Tryz.prog 209 #[.slice a xs.length ca,.slice b ys.length cb] w (SEqIs w (decide (xs=ys))):=by
 have ha1:=ha.small;have hb1:=hb.small;unfold maxLen at ha1 hb1;by_cases hl:xs.length=ys.length
 ·have e1:((xs.length:Int) !=(ys.length:Int))=false:=by simp[hl]
  obtain⟨n,hn⟩:∃n,n=xs.length:=⟨_,rfl⟩;rw[←hn]at hl ha ha1 e1⊢;rw[←hl]at hb hb1 e1⊢;have HA:=ab9 ha;have HB:=ab9 hb;have HL:=ab9 hl;have HN:=ab9 hn;have e2:((n:Int) !=(n:Int))=false:=by simp
  clear ha hb hl hn e1 hb1;go_enter Tryz.func209,Tryz.ntmps209;go_wp2
  go_loopw [13] (fun i wr=>∃k q:Nat,k≤n∧i= .int .i64 k∧wr=w.drewN q∧acd (xs.take k=ys.take k)) (fun i _=>n-(intOf i).toNat)
  case atStart=>exact⟨0,0,by omega,rfl,rfl,show _=_ by simp⟩
  case round=>
   obtain⟨k,q,hk,rfl,rfl,hT⟩:=hrel;by_cases hlt:k<n
   ·obtain⟨b1,o1,rfl,_,_,hc1⟩:=HA.o.at_ (by omega);obtain⟨b2,o2,rfl,_,_,hc2⟩:=HB.o.at_ (by omega);have hx:k<xs.length:=by rw[←HN.o];exact hlt
    have hy:k<ys.length:=by rw[←HL.o];exact hlt
    have g1:w.cell? ⟨b1,o1+k,none⟩=some (bv xs[k]):=by rw[hc1 k hlt,List.getElem?_map,List.getElem?_eq_getElem hx];rfl
    have g2:w.cell? ⟨b2,o2+k,none⟩=some (bv ys[k]):=by rw[hc2 k hlt,List.getElem?_map,List.getElem?_eq_getElem hy];rfl
    have i0:(0:Int)≤(k:Int):=by omega
    have i1:(k:Int)<(n:Int):=by omega
    clear hc1 hc2;have HX:=fun h=>XU hx hy hT.o h;by_cases heq:xs[k]=ys[k]
    ·have VK:=ab9 (HX heq);have e3:((xs[k].toNat:Int) !=(ys[k].toNat:Int))=false:=by simp[heq]
     clear HX;generalize xs[k]=x at g1 e3 heq;generalize ys[k]=y at g2 e3 heq;have HEQ:=ab9 heq;clear heq;go_wp2
     go_quiet (fail)
     go_wp2;go_roundw
     case rel=>exact⟨k+1,_,by omega,by go_num,rfl,VK⟩
     case measure=>simp[intOf];omega
    ·have hne:xs≠ys:=fun h=>heq (by subst h;rfl);have e3:((xs[k].toNat:Int) !=(ys[k].toNat:Int))=true:=by simp;intro h;exact heq (abA.1 (by omega))
     have FP:=ab9 hne;clear HX hne;generalize xs[k]=x at g1 e3 heq;generalize ys[k]=y at g2 e3 heq;have HEQ:=ab9 heq;clear heq;go_wp2
     go_quiet (fail)
     go_wp2;go_ret;exact⟨lW (by simp[FP.o]),_,World.drewN_drewN _ _ _⟩
   ·obtain rfl:k=n:=by omega
    have he:xs=ys:=by
     have:=hT.o;rw[List.take_of_length_le (by rw[←HN.o];omega),List.take_of_length_le (by rw[←HL.o];omega)]at this;exact this
    have HE:=ab9 he;clear he;go_wp2;go_ret;exact⟨lW (by simp[HE.o]),_,rfl⟩
 ·have e1:((xs.length:Int) !=(ys.length:Int))=true:=by simp;omega
  have hne:xs≠ys:=fun h=>hl (by rw[h]);have FP:=ab9 hne;clear hne hl ha hb;go_enter Tryz.func209,Tryz.ntmps209;go_wp2;go_ret;exact⟨lW (by simp[FP.o]),0,rfl⟩
theorem Px{S S':Nat→Prop}(a b:Option Addr)(n ca cb:Nat)(xs:List UInt8)(w:World)(ha:ah S w a n (xs.map bv))(hb:ah S' w b n (xs.map bv)):
  Calls Tryz.prog 209 #[.slice a n ca,.slice b n cb] w (SEqIs w true):=by
 have hl:xs.length=n:=by have:=ha.length;simpa using this
 subst hl;have:=Pw a b ca cb xs xs w ha hb
 rwa [show decide (xs=xs)=true by simp]at this
def RetNE(w:World)(n:Int)(bs:List UInt8)(e:Ending)(w':World):Prop:=
 ∃a c,e= .returned (.tuple #[.int .i64 n,.slice a bs.length c,.int .i64 0])∧oI bs.length c∧ah (fun b=>w.heap.size≤b∧b<w'.heap.size) w' a bs.length (bs.map bv)∧Below w.heap.size w w'
theorem Mg{S:Nat→Prop}(n:Nat)(h0:64≤n)(h1:n≤4096)(id:List UInt8)(hid:id.length=16)(a:Option Addr)(c:Nat)(w:World)(hr:ah S w a 128 ((jl n id).map bv)):Calls Tryz.prog 157 #[.slice a 128 c] w (RetNE w n id):=by
 have Py:=ab9 (fun(S:Nat→Prop) (a:Option Addr) (cp:Nat) (w:World) (hr:ah S w a 16 (id.map bv))=>Ho n h0 h1 id hid a cp w hr);have hbl:=tL n hid;obtain⟨r4,hr4⟩:∃r4,r4=bA (mM (kE n id)/65536) 2++bA (mM (kE n id)) 2++List.replicate 100 0:=⟨_,rfl⟩;obtain⟨r3,hr3⟩:∃r3,r3=id++r4:=⟨_,rfl⟩;obtain⟨r2,hr2⟩:∃r2,r2=bA (n:Int) 2++r3:=⟨_,rfl⟩;obtain⟨r1,hr1⟩:∃r1,r1=bA 1 2++r2:=⟨_,rfl⟩;have U8:acd (jl n id=uD++r1):=by
  show jl n id=_;rw[hr1,hr2,hr3,hr4];unfold jl kE;simp only[List.append_assoc]
 have nH:=ab9 hr1;have HS2:=ab9 hr2;have xV:=ab9 hr3;have HN:=ab9 (Jd w w acf a 128 c (jl n id) (by omega) hr);have gN:=ab9 hr;have hwl:uD.length=4:=rfl;obtain⟨B,hB⟩:∃B,B=jl n id:=⟨_,rfl⟩;rw[←hB]at Py HN gN hbl U8;have Ka:=ab9 hid;clear hr hr1 hr2 hr3 hr4 hB;go_enter Tryz.func157,Tryz.ntmps157;go_wp2_with fail;refine HN.o.mono ?_;rintro e w1 ⟨xr,rfl,hx,kR,hb1⟩;have HC:acd (Calls Tryz.prog 149 #[ptr xr,.int .i64 4] w1 (vG w w1 xr uD r1)):=vH kR 4 U8.o rfl (by omega);clear HN kR hb1;go_wp2_with fail;refine HC.o.mono ?_;rintro e w2 ⟨a2,c2,rfl,hc2,hr2,hR2,hk2⟩;have sI:=ab9 (nW hR2 1 nH.o (by omega) (by omega));clear HC hR2 hk2 hr2 hc2;go_wp2_with fail;refine sI.o.mono ?_;rintro e w3 ⟨rfl,BR,hk3⟩;have C9:=ab9 (nW BR (n:Int) HS2.o (by omega) (by omega));clear sI BR hk3;go_wp2_with fail;refine C9.o.mono ?_;rintro e w4 ⟨rfl,xD,hk4⟩;have Gi:acd (Calls Tryz.prog 149 #[ptr xr,.int .i64 16] w4 (vG w w4 xr id r4)):=vH xD 16 xV.o hid.symm (by omega);have hs4:=xD.below.size;clear C9 xD hk4;go_wp2_with fail;refine Gi.o.mono ?_;rintro e w5 ⟨a5,c5,rfl,hc5,CV,hR5,hk5⟩;have sZ:=ab9 CV;have dX:=ab9 hR5.below;rw[hid]at CV;have SY:=ab9 (Py.o _ a5 c5 w5 CV);have hc5':=hc5;rw[hid]at hc5';clear Gi hR5 hk5 CV Py;go_wp2_with fail;refine SY.o.mono ?_;rintro e w6 ⟨a6,n6,c6,rfl,hc6,A_,hb6⟩;obtain rfl:n6=128:=by have:=A_.length;rw[List.length_map]at this;omega
 have oK:=ab9 (dX.o.trans (hb6.mono dX.o.size));have G9:=ab9 (sZ.o.below hb6 ace);have HE:=ab9 (Px a6 a 128 c6 c B w6 A_ (gN.o.below oK.o ace));have hs5:=dX.o.size;have hs6:=hb6.size;clear A_ hb6 SY;go_wp2_with fail;refine HE.o.mono ?_;rintro e w7 ⟨rfl,q,hq⟩;have iR:Below w6.heap.size w6 w7:=by rw[hq];exact⟨rfl,rfl,rfl,Nat.le_refl _,fun _ _=>rfl⟩
 have jw:=ab9 (oK.o.trans (iR.mono oK.o.size));have tu:=ab9 (G9.o.below iR ace);have hs7:=iR.size;clear hq iR HE G9 sZ;go_wp2_with fail
 go_ret3
 refine⟨a5,c5,by rw[hid];rfl,hc5,tu.o.mono fun b hb=>⟨by omega,by omega⟩,jw.o⟩
theorem TT{fn:Func}{sl b' d':Nat}{Q:Ending→World→Prop}{a:Act}{w:World}{b:Nat}{cs:Array Value}{y z:Value}(hf:fn.results= #[.cell sl 57,.tmp b',.tmp d'])(hs:a.tmps.getD sl undef= .pointer (some ⟨b,0,none⟩))(hy:a.tmps.getD b' undef=y)(hz:a.tmps.getD d' undef=z)(hd:a.defers=[])(hg:w.heap[b]? =some (.cells cs 57 (0,0)))(h3:cs.size=3)(hQ:Q (.returned (.tuple #[.agg cs,y,z])) w):
  bodyPost Tryz.prog fn Q .ret a w:=by
 subst hy hz;exact aap (v:= .tuple #[.agg cs,a.tmps.getD b' undef,a.tmps.getD d' undef]) (nL hf hs (aaT w b 57 57 _ (0,0) _ hg Tryz.underlying57 rfl (by rw[h3];exact AQ))) hd hQ
section
variable{W w:World}{o:Mark}{i j n d:Nat}
theorem Pz{b:List UInt8}{cl:Prop}{cw:Int}(hD:dP o i w d n b cl cw)(id:List UInt8)(hid:id.length=16)(hb:rowsOf b 0=jl n id):
  Calls Tryz.prog 85 #[ptr d] w fun e w'=>∃a c,e= .returned (.tuple #[.agg (aW n),.slice a 16 c,.int .i64 0])∧16≤c∧ah (fun y=>w.heap.size≤y∧y<w'.heap.size) w' a 16 (id.map bv)∧Below w.heap.size w w':=by
 have hl:=hD.len;obtain⟨w1,hw1⟩:∃w1,w1=w.alloc (.cells #[.int .i64 0,.int .i64 0,.int .i64 0] 57):=⟨_,rfl⟩;have hb1:Below w.heap.size w w1:=by rw[hw1];exact wall w _
 have hx1:w1.heap[w.heap.size]? =some (.cells #[.int .i64 0,.int .i64 0,.int .i64 0] 57 (0,0)):=by rw[hw1];exact(MapKept.heap_alloc w _).1
 have hz1:w.heap.size<w1.heap.size:=(uh.1 hx1).1;have zR:=ab9 (JC (hD.grow hb1) 0 (by omega));rw[hb,show((0:Nat):Int)=0 from rfl]at zR;have HSEC:=ab9 (fun(u:World) (hb:Below w1.heap.size w1 u)=>ql (hD.grow (hb1.trans (hb.mono hb1.size))));have Py:=ab9 (fun(a:Option Addr) (c:Nat) (u:World) (S:Nat→Prop) (hr:ah S u a 128 ((jl n id).map bv)) (hc:128≤c)=>Mg n hl.2.1 hl.2.2 id hid a c u hr);have QH:=ab9 (fun u=>wu n hl.2.1 hl.2.2 u);have HB1:=ab9 hb1;have BS:=ab9 hx1;have HW1:=ab9 hw1;have Ka:=ab9 hid;unfold aW at QH;clear hD hb1 hx1 hw1 hl hb;go_enter Tryz.func85,Tryz.ntmps85;go_wp2_with fail;rw[←HW1.o];refine zR.o.mono ?_;rintro e w2 ⟨a2,c2,rfl,hc2,hr2,hb2⟩;have HS2:=ab9 (Py.o a2 c2 w2 _ hr2 hc2);have HB2:=ab9 hb2;clear hr2 hb2;go_wp2_with fail;refine HS2.o.mono ?_;rintro e w3 ⟨a3,c3,rfl,hc3,hr3,hb3⟩;rw[Ka.o]at hr3 hc3⊢;have hs2:=HB2.o.size;have HB3:=ab9 (HB2.o.trans (hb3.mono hs2));have HR3:=ab9 (hr3.mono fun y hy=>(⟨by omega,hy.2⟩:w1.heap.size≤y∧y<w3.heap.size));clear hr3 hb3 HS2;go_wp2_with fail;refine(HSEC.o w3 HB3.o).mono ?_;rintro e _ ⟨rfl,rfl⟩;go_wp2_with fail;refine(QH.o w3).mono ?_;rintro e w4 ⟨rfl,hb4⟩;have hs3:=HB3.o.size;have dh:=ab9 (HB3.o.trans (hb4.mono hs3));have HR4:=ab9 (HR3.o.below hb4 ace);have hs4:=hb4.size;clear hb4;obtain⟨w5,oL⟩:∃w5,w5=w4.alloc (.cells (aW n) 57):=⟨_,rfl⟩;have hb5:Below w4.heap.size w4 w5:=by rw[oL];exact wall w4 _
 have hx5:w5.heap[w4.heap.size]? =some (.cells (aW n) 57 (0,0)):=by rw[oL];exact(MapKept.heap_alloc w4 _).1
 have dX:=ab9 (dh.o.trans (hb5.mono (by omega)));have sZ:=ab9 (HR4.o.below hb5 (by omega));have hres5:w5.heap[w.heap.size]? =some (.cells #[.int .i64 0,.int .i64 0,.int .i64 0] 57 (0,0)):=(dX.o.block _ (by omega)).trans BS.o;have HRES5:=ab9 hres5;obtain⟨c0,c1,c2'⟩:=eB hx5;have hs45:=hb5.size;unfold aW at oL;clear hb5 hres5 hx5;have qB:=ab9 oL;rw[oL]at c0 c1 c2';clear oL;go_wp2_with (rw[←qB.o];refine au (by rfl) 57 _ _ (by rfl) w.heap.size (aW n) (by rfl) (by rfl) _ HRES5.o AQ rfl (R5 n) ?_;intro wG wS;have nE:=ab9 wS;clear wS c0 c1 c2');refine TT rfl rfl rfl rfl rfl nE.o.1 rfl ?_;have hk:=nE.o.2.1;have hz:=hk.size;have hs5:=dX.o.size;exact⟨a3,c3,rfl,hc3.1,(sZ.o.kept hk.size fun y hy hyw=>hk.block y hyw fun(e:y=_)=>by omega).mono fun y hy=>⟨by omega,by omega⟩,nE.o.below (HB1.o.trans (dX.o.mono HB1.o.size)) ace⟩
end
theorem PD(x y:wT)(ha:Option Addr)(hc:Nat)(sa:Option Addr)(sn sc:Nat)(ha':Option Addr)(hc':Nat)(sa':Option Addr)(sn' sc':Nat)(w:World):Calls Tryz.prog 159 #[.agg (n_ x ha hc sa sn sc),.agg (n_ y ha' hc' sa' sn' sc'),.bool true,.bool true] w fun e w'=>e= .returned (.tuple #[.int .i64 (if y.gen≤x.gen then 0 else 1),.bool true])∧Below w.heap.size w w':=by
 obtain⟨w2,hw2⟩:∃w2,w2=(w.alloc (.cells (n_ x ha hc sa sn sc) 91)).alloc (.cells (n_ y ha' hc' sa' sn' sc') 91):=⟨_,rfl⟩;obtain⟨hs2,hb2,hp2⟩:=jE _ _ _ _ hw2;have HB2:=ab9 hb2;unfold n_ at hw2⊢;by_cases h:y.gen≤x.gen
 ·have d1:decide (y.gen≤x.gen)=true:=aal h;rw[if_pos h];clear hs2 hb2 hp2;go_enter Tryz.func159,Tryz.ntmps159;go_wp2_with fail;rw[←hw2]
  go_ret2
  exact⟨rfl,HB2.o⟩
 ·have d1:decide (y.gen≤x.gen)=false:=aaf h;rw[if_neg h];clear hs2 hb2 hp2;go_enter Tryz.func159,Tryz.ntmps159;go_wp2_with fail;rw[←hw2]
  go_ret2
  exact⟨rfl,HB2.o⟩
theorem ah.grow'{W w w':World}{o:Mark}{a:Option Addr}{m:Nat}{vs:List Value}(h:ah (Free o w) w a m vs)(hb:Below w.heap.size w w')(hM:Marks W o w):ah (Free o w') w' a m vs:=
 (h.below hb ace).mono fun _ hy=>⟨hy.1,Nat.lt_of_lt_of_le hy.2 hb.size⟩
abbrev Nw(j:Nat):Nat→Prop:=fun m=>j≤m∧m≤j+12
def Fx(W:World)(o:Mark)(j0 j:Nat)(w:World)(c:Int)(x:wT)(M:dN)(e:Ending)(w':World):Prop:=
 ∃ha hc sa sc q o',e= .returned (.tuple #[.agg (n_ x ha hc sa x.state.length sc),ptr q,.bool true])∧Step o (Nw j0) w o' w'∧xK W o' j w' q c (iH M)∧ah (Free o' w') w' ha 32 (x.head.map bv)
section
variable{W w:World}{o:Mark}{i j n d:Nat}
theorem PE{b:List UInt8}{cl:Prop}{cw c:Int}(hD:dP o i w d n b cl cw)(hM:Marks W o w)(hj:0<j)(hij:i<j)(x y:wT)(M N:dN)(hP:Pv n c x M)(hQ:Pv n c y N)(hb0:secs b (bE n 0) (n/4)=xJ n x)(hb1:secs b (bE n 1) (n/4)=xJ n y):
  Calls Tryz.prog 86 #[ptr d,.agg (aW n)] w fun e w'=>(y.gen≤x.gen∧Fx W o j j w c x M e w')∨(¬y.gen≤x.gen∧Fx W o j (j+6) w c y N e w'):=by
 obtain⟨w2,hw2⟩:∃w2,w2=(w.alloc (.cells (aW n) 57)).alloc (.cells #[.int .u64 0,.int .u64 0,.int .i64 0,.slice none 0 0,.slice none 0 0] 91):=⟨_,rfl⟩;obtain⟨hs2,hb2,hp2⟩:=jE _ _ _ _ hw2;have hm2:w2.heap[w.heap.size+1]? =some (.cells #[.int .u64 0,.int .u64 0,.int .i64 0,.slice none 0 0,.slice none 0 0] 91 (0,0)):=by
  have h9:=(MapKept.heap_alloc (w.alloc (.cells (aW n) 57)) (.cells #[.int .u64 0,.int .u64 0,.int .i64 0,.slice none 0 0,.slice none 0 0] 91)).1;rw[Pd]at h9;rw[hw2];exact h9
 obtain⟨o2,ho2,hk1,hk2⟩:=dI hM (j+12) (fun y=>y=w.heap.size+1) (w':=w2) (fun y hy=>by subst hy;omega) hb2;have hM2:=hM.step (fun e=>by omega) ho2;have hD2:=hD.step (fun e=>by omega) ho2;have h60:¬Six j 0:=fun e=>by have:=e.1;omega
 have h66:¬Six (j+6) 0:=fun e=>by have:=e.1;omega
 have XV:o2 w.heap.size=0:=by
  rw[hk2 _ (by omega)];exact Vh fun h9=>by have:=(hM.new _ h9).2;omega
 have HPA:acd (Calls Tryz.prog 158 #[ptr d,.agg (aW n),.int .i64 0] w2 (PtRet W o2 j w2 c x M)):=ab9 (Fw hD2 hM2 hj 0 (.inl rfl) x M hP hb0);have HPB:=ab9 (fun(o3:Mark) (w3:World) (Ny:Marks W o3 w3) (hD3:dP o3 i w3 d n b cl cw)=>Fw hD3 Ny (by omega:0<j+6) 1 (.inr rfl) y N hQ hb1);have HP:=ab9 (fun(o3:Mark) (w3:World) (I:Nat→Prop) (h0:¬I 0) (hs:Step o2 I w2 o3 w3)=>eB (n:=n) ((hs.block (by omega) (by rw[XV];exact h0)).trans hp2));have HM:=ab9 hM;have pX:=ab9 hM2;have HD2:=ab9 hD2;have Nj:=ab9 ho2;have HW2:=ab9 hw2;have qG:=ab9 hm2;have AL:=ab9 (hk1 _ rfl);obtain⟨p0,p1,p2⟩:=eB (n:=n) hp2;unfold aW at HPA HPB HW2⊢;clear hD hM hP hQ hb0 hb1 hw2 hb2 hp2 hm2 ho2 hM2 hD2 hk1 hk2 XV;go_enter Tryz.func86,Tryz.ntmps86;go_wp2_with fail;rw[←HW2.o];refine HPA.o.mono ?_;rintro e w3 ⟨ha,hc,sa,sc,q,o3,rfl,hs3,SA,hr3⟩;have hz3:=hs3.keep.size;have Ny:=SA.marks;obtain⟨w4,hw4⟩:∃w4,w4=w3.alloc (.cells (n_ x ha hc sa x.state.length sc) 91):=⟨_,rfl⟩;have hb4:Below w3.heap.size w3 w4:=by rw[hw4];exact wall w3 _
 have hx4:w4.heap[w3.heap.size]? =some (.cells (n_ x ha hc sa x.state.length sc) 91 (0,0)):=by rw[hw4];exact(MapKept.heap_alloc w3 _).1
 have hz4:w3.heap.size<w4.heap.size:=(uh.1 hx4).1;have qK:=Ny.grow hb4;have uO:=SA.grow hb4;have D9:o3 w3.heap.size=0:=Vh fun h9=>by have:=(Ny.new _ h9).2;omega
 have hs4:Step o2 (Six j) w2 o3 w4:=hs3.then_ pX.o h60 hb4;have lV:=ab9 (HPB.o o3 w4 qK ((HD2.o.step (fun e=>by have:=e.1;omega) hs3).grow hb4));obtain⟨p0,p1,p2⟩:=HP.o o3 w4 _ h60 hs4;have HX4:=ab9 hx4;have pV:=ab9 hs4;have oV:=ab9 uO;have HR4:=ab9 (hr3.grow' hb4 Ny);have Ji:=ab9 D9;unfold n_ at hw4⊢;rw[hw4]at p0 p1 p2;rw[show((1:Nat):Int)=1 from rfl]at lV;clear hs3 SA hr3 Ny hb4 hx4 qK uO D9 hs4 HPA HPB;go_wp2_with fail;rw[←hw4];clear hw4;refine lV.o.mono ?_;rintro e w5 ⟨ha',hc',sa',sc',q',o5,rfl,hs5,hS5,CV⟩;have hz5:=hs5.keep.size;have Ni:=hS5.marks;obtain⟨w6,J8⟩:∃w6,w6=w5.alloc (.cells (n_ y ha' hc' sa' y.state.length sc') 91):=⟨_,rfl⟩;have hb6:Below w5.heap.size w5 w6:=by rw[J8];exact wall w5 _
 have hx6:w6.heap[w5.heap.size]? =some (.cells (n_ y ha' hc' sa' y.state.length sc') 91 (0,0)):=by rw[J8];exact(MapKept.heap_alloc w5 _).1
 have hz6:w5.heap.size<w6.heap.size:=(uh.1 hx6).1;have hxa6:w6.heap[w3.heap.size]? =some (.cells (n_ x ha hc sa x.state.length sc) 91 (0,0)):=(hb6.block _ (by omega)).trans ((hs5.block hz4 (by rw[Ji.o];exact h66)).trans HX4.o);have hs6:Step o3 (Six (j+6)) w4 o5 w6:=hs5.then_ oV.o.marks h66 hb6;have Ak:=ab9 (Ni.grow hb6);have yI:=ab9 (hS5.grow hb6);have G9:=ab9 (CV.grow' hb6 Ni);have HSA6:acd (xK W o5 j w6 q c (iH M)):=ab9 ⟨oV.o.st.step h66 (fun e=>by have:=e.1;omega) (fun e=>by have:=e.1;omega) (fun e=>by have:=e.1;omega) hs6,Ni.grow hb6,oV.o.ok⟩;have HRA6:=ab9 (HR4.o.free h66 hs6);have hs26:Step o2 (Nw j) w2 o5 w6:=(pV.o.mono fun k hk=>⟨hk.1,by have:=hk.2;omega⟩).trans (hs6.mono fun k hk=>⟨by have:=hk.1;omega,by have:=hk.2;omega⟩);have HS06:=ab9 ((Nj.o.mono fun k hk=>(⟨by omega,by omega⟩:Nw j k)).trans hs26);have hrm:o5 (w.heap.size+1)=j+12:=(hs26.old _ (by omega)).trans AL.o;have hres6:w6.heap[w.heap.size+1]? =some (.cells #[.int .u64 0,.int .u64 0,.int .i64 0,.slice none 0 0,.slice none 0 0] 91 (0,0)):=(hs6.block (by omega) (by rw[pV.o.old _ (by omega),AL.o];exact fun e=>by have:=e.2;omega)).trans ((pV.o.block (by omega) (by rw[AL.o];exact fun e=>by have:=e.2;omega)).trans qG.o);have Bl:=ab9 (fun u=>PD x y ha hc sa x.state.length sc ha' hc' sa' y.state.length sc' u);have HXA:=ab9 (fun(u:World) (hb:Below w6.heap.size w6 u)=>(hb.block _ (by omega)).trans hxa6);have HXB:=ab9 (fun(u:World) (hb:Below w6.heap.size w6 u)=>(hb.block _ (by omega)).trans hx6);have HRS:=ab9 (fun(u:World) (hb:Below w6.heap.size w6 u)=>(hb.block _ (by omega)).trans hres6);obtain⟨c0,c1,c2,c3,c4⟩:=iF hx6;obtain⟨e0,e1,e2,e3,e4⟩:=iF hxa6;have hw6':=J8;unfold n_ at J8 Bl⊢;have qN:=ab9 J8;rw[J8]at c0 c1 c2 c3 c4 e0 e1 e2 e3 e4;clear hs5 hS5 CV Ni hb6 hx6 hxa6 hs6 hs26 hres6 J8 hw6' p0 p1 p2;go_wp2_with fail;rw[←qN.o]at c0 c1 c2 c3 c4 e0 e1 e2 e3 e4⊢;refine(Bl.o w6).mono ?_;rintro e w7 ⟨rfl,iR⟩;clear c0 c1 c2 c3 c4 e0 e1 e2 e3 e4 Bl;by_cases h:y.gen≤x.gen
 ·have HH:=ab9 h;rw[if_pos h];obtain⟨c0,c1,c2,c3,c4⟩:=iF (HXA.o w7 iR);have Fy:=HRS.o w7 iR;have tu:=ab9 (HRA6.o.grow' iR Ak.o);have wW:=ab9 (HSA6.o.grow iR);have hsz7:w.heap.size+1<w7.heap.size:=(uh.1 Fy).1;have HS07:=ab9 (HS06.o.then_ HM.o (fun e=>by have:=e.1;omega) iR);have HRS7:=ab9 Fy;clear Fy iR;go_wp2_with (refine au (by rfl) 91 _ _ (by rfl) (w.heap.size+1) (n_ x ha hc sa x.state.length sc) (by rfl) (by rfl) _ HRS7.o yx rfl (by simp[n_,Value.oneCell']) ?_;intro wG wS;have nE:=ab9 wS;clear wS c0 c1 c2 c3 c4);refine JV rfl rfl rfl rfl rfl nE.o.1 rfl ?_;have sw:Step o5 (fun k=>k=j+12) w7 o5 wG:=⟨fun _ _=>rfl,fun b hb hn=>by have:=(wW.o.marks.new b hn).2;omega,nE.o.2.1.mono fun b _ (e:b=_)=>by rw[e];exact hrm⟩;have hn0:¬(0=j+12):=by omega
  have hfin:Fx W o j j w c x M (.returned (.tuple #[.agg (n_ x ha hc sa x.state.length sc),ptr q,.bool true])) wG:=⟨_,_,_,_,_,o5,rfl,HS07.o.trans (sw.mono fun k hk=>⟨by omega,by omega⟩),⟨wW.o.st.step hn0 (by omega) (by omega) (by omega) sw,wW.o.marks.step hn0 sw,wW.o.ok⟩,tu.o.free hn0 sw⟩
  first|exact hfin|exact .inl hfin|exact .inr hfin|exact .inl ⟨HH.o,hfin⟩|exact .inr ⟨HH.o,hfin⟩
 ·have HH:=ab9 h;rw[if_neg h];obtain⟨c0,c1,c2,c3,c4⟩:=iF (HXB.o w7 iR);have Fy:=HRS.o w7 iR;have tu:=ab9 (G9.o.grow' iR Ak.o);have wW:=ab9 (yI.o.grow iR);have hsz7:w.heap.size+1<w7.heap.size:=(uh.1 Fy).1;have HS07:=ab9 (HS06.o.then_ HM.o (fun e=>by have:=e.1;omega) iR);have HRS7:=ab9 Fy;clear Fy iR;go_wp2_with (refine au (by rfl) 91 _ _ (by rfl) (w.heap.size+1) (n_ y ha' hc' sa' y.state.length sc') (by rfl) (by rfl) _ HRS7.o yx rfl (by simp[n_,Value.oneCell']) ?_;intro wG wS;have nE:=ab9 wS;clear wS c0 c1 c2 c3 c4);refine JV rfl rfl rfl rfl rfl nE.o.1 rfl ?_;have sw:Step o5 (fun k=>k=j+12) w7 o5 wG:=⟨fun _ _=>rfl,fun b hb hn=>by have:=(wW.o.marks.new b hn).2;omega,nE.o.2.1.mono fun b _ (e:b=_)=>by rw[e];exact hrm⟩;have hn0:¬(0=j+12):=by omega
  have hfin:Fx W o j (j+6) w c y N (.returned (.tuple #[.agg (n_ y ha' hc' sa' y.state.length sc'),ptr q',.bool true])) wG:=⟨_,_,_,_,_,o5,rfl,HS07.o.trans (sw.mono fun k hk=>⟨by omega,by omega⟩),⟨wW.o.st.step hn0 (by omega) (by omega) (by omega) sw,wW.o.marks.step hn0 sw,wW.o.ok⟩,tu.o.free hn0 sw⟩
  first|exact hfin|exact .inl hfin|exact .inr hfin|exact .inl ⟨HH.o,hfin⟩|exact .inr ⟨HH.o,hfin⟩
end
end Go.Proofs.YtmflaonodghbcaaGreatDoor
