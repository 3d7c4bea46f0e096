/-  -/
import Derived.Test.YtjnhnlabpccgjaaGreatDoorM48
import Derived.Test.YtjnhnlabpccgjaaGreatDoorM47
import Derived.Test.YtjnhnlabpccgjaaGreatDoorM22
import Derived.Test.YtjnhnlabpccgjaaGreatDoorM01
import Derived.Test.YtjnhnlabpccgjaaGreatDoorM04
set_option maxRecDepth 100000
set_option maxHeartbeats 64000000
set_option linter.all false
namespace Go.Proofs.YtjnhnlabpccgjaaGreatDoor
open Go.ChangeShapes Go.WideShapes Go.ChangeAt Go.RowKit
theorem Ou{W:World}{o:Mark}{i:Nat}{w:World}{p q:Nat}{c:Int}{M:dS}(h:g_ W o i w p q c M):dG M.t:=h.s.ok.t.1
section
variable{W w:World}{o:Mark}{i j k p q:Nat}{c:Int}{M:dS}
theorem Nk(hS:bZ o i j k w p M)(hM:Marks W o w)(uW:M.s.l.length≤8)(hla:M.s.last.length≤64)(m:Nat)(hm:m≠0):Calls Tryz.prog 30 #[ptr p] w fun e w'=>∃q o',e= .returned (ptr q)∧Step o (fun i=>i=m) w o' w'∧iF o' m w' q M.s∧Below w.heap.size w w':=by
 obtain⟨t,s,v,h1,h2,h3,h4⟩:=hS.at_;obtain⟨z0,z1,z2,z3,z4⟩:=gF h1;have HC:=acA (Gl h2 hM uW hla m hm);clear hS hM uW hla h1 h2 h3 h4 z0 z2 z3 z4;go_enter Tryz.func30,Tryz.ntmps30;go_wp2_with fail;refine HC.o.mono ?_;rintro e w1 ⟨q,o1,rfl,hs,hT,hb⟩;have HT:=acA hT;have HS:=acA hs;have HB:=acA hb;clear hT hb hs;go_wp2_with fail;go_ret;exact⟨q,o1,rfl,HS.o,HT.o,HB.o⟩
theorem KQ(h:Bt W o i w p c M)(hi:0<i):Calls Tryz.prog 31 #[ptr p] w fun e w'=>∃u o' a b d,e= .returned (ptr u)∧Marks W o' w'∧bZ o' a b d w' u (ru M)∧Below w.heap.size w w':=by
 obtain⟨j,hj,hf⟩:=xU h.marks;have hji:j≠i:=by
  obtain⟨t,s,v,-,h2,-,-⟩:=h.st.at_;obtain⟨_,_,_,_,_,h3,-⟩:=h2.at_;exact fun e=>hf s (h3.trans e.symm)
 refine(Ij (i':=j+i+1) (j':=j) (k':=j+i+2) (l':=j+i+3) h.st h.marks h.ok.t.1 h.ok.s.few h.ok.s.last ⟨by omega⟩ ⟨by omega,hji⟩ hf).mono ?_;rintro e w' ⟨u,o',rfl,hs,hS,hb⟩;exact⟨u,o',_,_,_,rfl,h.marks.step (by omega) hs,hS,hb⟩
theorem Io(M:dS):kK (ru M)=kK M:=by
 unfold kK ru;show fT M.now 8++fT (gV (bL (bL M.t))).length 8++gV (bL (bL M.t))++kr M.s=_;rw[Il]
theorem Ip(M:dS):KM (ru M)=[]:=rfl
theorem Rj{o:Mark}{i j k:Nat}(h:bZ o i j k w p M)(hv:Ng M.s):(kr M.s).length≤60000000:=by
 obtain⟨t,s,v,h1,h2,h3,h4⟩:=h.at_;have:=En h2 hv;omega
theorem wh(h:g_ W o i w p q c M)(hi:0<i)(hc:c≤1000000000)(hid:lD M.s):
  Calls Tryz.prog 10 #[ptr p,ptr q] w fun e w'=>e= .returned (.bool true)∧Below w.heap.size w w':=by
 obtain⟨ti,hti⟩:∃i,Tryz.prog.info? 3=some i∧i.zero=some (.int .i64 0)∧i.size=1∧i.bytes=8:=aap Cj;have HTI:=acA hti;have HT:=acA h;have K4:=acA (h.s.ok.sv hc hid);have HSL:=acA (Rj h.s.st (h.s.ok.sv hc hid));have HI:=acA hi;obtain⟨rt,rs,v,h1,h2,h3,h4⟩:=h.r.at_;have HRC:=acA (fun w' (hb:Below w.heap.size w w')=>jK ((hb.block q h.r.low).trans h1));have HRS:=acA (fun w' (hb:Below w.heap.size w w')=>BA (h2.grow h.s.marks hb) (h.s.marks.grow hb) K4.o);have HRT:=acA (fun w' (hb:Below w.heap.size w w')=>Ik (W:=W) (h3.grow hb) h.s.ok.t.1);have HRV:=acA (fun w' (hb:Below w.heap.size w w')=>YN (h.r.grow h.s.marks hb) (h.s.marks.grow hb) h.s.ok K4.o HSL.o);have Fe:=acA h4;clear h hi hc hid hti h1 h2 h3 h4;go_enter Tryz.func10,Tryz.ntmps10;go_wp2_with fail
 go_loopw [5,6] (fun u iv wr=>∃n:Nat,n≤8∧iv= .int .i64 n∧wr.ownsRow w.heap.size 3 1 u (lZ M n).length ((lZ M n).map (Value.int .i64))∧Below w.heap.size w wr) (fun _ iv _=>8-(intOf iv).toNat)
 case atStart=>exact⟨0,by omega,rfl,⟨rfl,.inl ⟨rfl,rfl⟩⟩,Below.refl _ _⟩
 case round=>
  obtain⟨n,hn,rfl,hO,hb⟩:=hrel;have hbs:=hb.size;have HO:=acA hO;have HB:=acA hb;obtain⟨a5,c5,rfl,Ud⟩:=dI hO;obtain⟨r0,r1,-,r3,-⟩:=HRC.o wr hb;clear hO hb;by_cases lF:n<8
  ·have hd:decide ((n:Int)<8)=true:=by simp;omega
   obtain⟨d0,-,-⟩:=r3 n lF;have hf:=Fe.o n lF;have i0:(0:Int)≤n:=by omega
   have i1:(n:Int)<8:=by omega
   clear r3;cases qz:M.fds n with
   |none=>
    rw[qz]at hf;rw[hf.1]at d0;have HE:=acA (Bz qz);clear hf qz;go_wp2_with fail;go_roundw
    case rel=>exact⟨n+1,by omega,by go_num,by rw[HE.o];exact HO.o,HB.o⟩
    case measure=>simp[intOf];omega
   |some f=>
    rw[qz]at hf;rw[hf.1]at d0;have hnz:(cond f.wr (1:Int) 2 !=0)=true:=by cases f.wr<;>rfl
    have HE:=acA (Bw qz);have hb5:Below wr.heap.size wr (wr.alloc (.cells #[.int .i64 n] 3)):=wall wr _;have JL:=acA (qo HO.o hb5);have fH:=acA hb5;have iL:=acA (rO (w:=wr) (.int .i64 n) 3);have Ci:=hb5.size;obtain⟨L,hL⟩:∃L,L=(lZ M n).length:=⟨_,rfl⟩;have hLn:L≤8:=by rw[hL];have:=Ep M n;omega
    rw[←hL]at JL Ud;have FH:=acA hL;rw[←hL];clear hf qz hb5 hL;go_wp2_with (at_builtin;(refine aS (by rfl) _ _ 71 (by rfl) w.heap.size 3 ti (.int .i64 0) 8 Tryz.underlying71 HTI.o.1 HTI.o.2.1 HTI.o.2.2.1 HTI.o.2.2.2 rfl _ _ _ (by rfl) JL.o (some ⟨wr.heap.size,0,none⟩) 1 1 [.int .i64 n] (by rfl) iL.o (DF [(n:Int)]) (by unfold maxLen;omega) (by omega) (Nat.le_trans hbs Ci) ?_);intro A' c' w6 hown6 vN _ _);have RA:=acA hown6;have HG6:=acA vN;clear hown6 vN;go_roundw
    case rel=>
     refine⟨n+1,by omega,by go_num,?_,?_⟩
     ·rw[HE.o,List.map_append,List.length_append,←FH.o];exact RA.o
     ·exact(HB.o.trans (fH.o.mono hbs)).grown HG6.o (by omega) (bA JL.o)
    case measure=>simp[intOf];omega
  ·have hd:decide ((n:Int)<8)=false:=by simp;omega
   obtain rfl:n=8:=by omega
   have HOW:=acA (ah.pJ HO.o).2;clear r0 r1 r3 hd hbs hn lF;have HT1:=acA (HT.o.grow HB.o);go_wp2_with fail;refine(Q9 HT1.o.s.st HT1.o.s.marks (Ou HT1.o)).mono ?_;rintro e w1 ⟨qt,rfl,hqt,hb1⟩;have HB1:=acA (HB.o.trans (hb1.mono HB.o.size));have HQT:=acA hqt;have HOW1:=acA (HOW.o.below hb1 acC);have HT2:=acA (HT1.o.grow hb1);clear hqt hb1 HT1;go_wp2_with fail;refine(Nk HT2.o.s.st HT2.o.s.marks HT2.o.s.ok.s.few HT2.o.s.ok.s.last 1 (by omega)).mono ?_;rintro e w2 ⟨qs,os,rfl,hss,hqs,hb2⟩;have HB2:=acA (HB1.o.trans (hb2.mono HB1.o.size));have HQT2:=acA (HQT.o.grow hb2);have HQS:=acA hqs;have HMS:=acA (HT2.o.s.marks.step (by omega) hss);have HOW2:=acA (HOW1.o.below hb2 acC);have HT3:=acA (HT2.o.grow hb2);clear hss hqs hb2 HT2 HQT HOW HOW1;go_wp2_with fail;refine(KQ HT3.o.s HI.o).mono ?_;rintro e w3 ⟨u,ou,ua,ub,ud,rfl,hmu,hsu,hb3⟩;have HB3:=acA (HB2.o.trans (hb3.mono HB2.o.size));have HQT3:=acA (HQT2.o.grow hb3);have HQS3:=acA (HQS.o.grow HMS.o hb3);have HMS3:=acA (HMS.o.grow hb3);have HOW3:=acA (HOW2.o.below hb3 acC);have wG:=acA (HT3.o.grow hb3);have HMU:=acA hmu;have HSU:=acA hsu;clear hmu hsu hb3 HT3 HQT2 HQS HMS HOW2;go_wp2_with fail;have hq0:∀w':World,Below w3.heap.size w3 w'→w'.cell? ⟨q,0,none⟩=some (ptr rt):=fun w' hb=>(HRC.o w' (HB3.o.trans (hb.mono HB3.o.size))).c0;refine yG ((fun w'=>Below w3.heap.size w3 w')) ?_ fun hS=> ?_
   ·exact acD.drew
   refine aP 0 hS ?_;refine aP 1 hS ?_;refine aP 2 hS ?_;refine aP 3 hS ?_;refine aP 4 hS ?_;refine aP 5 hS ?_;refine aP 6 hS ?_;refine aP 7 hS ?_;refine aP 8 hS ?_;refine aP 9 hS ?_;refine aP 10 hS ?_;refine aP 11 hS ?_;refine aP 13 hS ?_;have HT4d:=acA (wG.o.grow (Below.refl w3.heap.size w3).drew);refine qh 12 fun K hK=> ?_;go_simp;refine(Er HT4d.o.s.st).mono ?_;rintro e w4 ⟨oa,oc,rfl,hoc,hor,hb4⟩;have G5:=acA ((Below.refl w3.heap.size w3).drew.trans hb4);have HSI:acB (Calls Tryz.prog 32 #[.slice oa (KM M).length oc,.slice a5 (lZ M 8).length c5] w4 (Im w4 true)):=acA (Ri oa a5 (KM M).length oc c5 (KM M) w4 hor (HOW3.o.below G5.o acC));clear hoc hor hb4 HOW3 HT4d;go_wp2_with fail;refine pW hK (G5.o) fun hS=> ?_;clear hK K;refine qh 14 fun K hK=> ?_;go_simp;refine HSI.o.mono ?_;rintro e w5 ⟨rfl,qn,hq5⟩;have hb5:Below w4.heap.size w4 w5:=by rw[hq5];exact⟨rfl,rfl,rfl,Nat.le_refl _,fun _ _=>rfl⟩
   have Ao:=acA (G5.o.trans (hb5.mono G5.o.size));have fH:=acA (HB3.o.trans (Ao.o.mono HB3.o.size));clear hq5 hb5 HSI G5;go_wp2_with fail;refine pW hK (Ao.o) fun hS=> ?_;clear hK K;refine aP 15 hS ?_;refine aP 16 hS ?_;refine aP 17 hS ?_;refine aP 20 hS ?_;refine aP 21 hS ?_;refine aP 22 hS ?_;refine aP 23 hS ?_;refine qh 18 fun K hK=> ?_;go_simp;refine(Cg (HQT3.o.grow Ao.o) (Ou wG.o)).mono ?_;rintro e w6 ⟨ra6,rn6,rc6,rfl,-,hr6,hb6⟩;have Dv:=acA hr6;have HBX6:=acA hb6;have mM:=acA (fH.o.trans (hb6.mono fH.o.size));have VE:=acA (Ao.o.trans (hb6.mono Ao.o.size));clear hr6 hb6;go_wp2_with fail;refine pW hK (VE.o) fun hS=> ?_;clear hK K;refine jf (S':=fun w'=>Below w6.heap.size w6 w') (fun w' h=>VE.o.trans (h.mono VE.o.size)) _ _ _ _ ?_;clear hS;have hS:Below w6.heap.size w6 w6:=Below.refl _ _;have hcv:∀w':World,Below w6.heap.size w6 w'→(convert 28 9 (.slice ra6 rn6 rc6)).run Tryz.prog w'= .ok (.string (strOf (gV M.t))) w':=fun w' hb=>mD (c:=rc6) (Dv.o.below hb acC);refine aP 19 hS ?_;clear hcv;clear hq0;refine qh 24 fun K hK=> ?_;go_simp;refine(HRT.o w6 mM.o).mono ?_;rintro e w7 ⟨ra7,rc7,rfl,hr7,vY⟩;have Gd:=acA (dF hr7);have HBX7:=acA vY;have wZ:=acA (mM.o.trans (vY.mono mM.o.size));have JW:=acA (VE.o.trans (vY.mono VE.o.size));clear hr7 vY;go_wp2_with fail;refine pW hK (HBX7.o) fun hS=> ?_;clear hK K;refine jf (S':=fun w'=>Below w7.heap.size w7 w') (fun w' h=>HBX7.o.trans (h.mono HBX7.o.size)) _ _ _ _ ?_;clear hS;have hS:Below w7.heap.size w7 w7:=Below.refl _ _;have hcv:∀w':World,Below w7.heap.size w7 w'→(convert 28 9 (.slice ra7 (gV M.t).length rc7)).run Tryz.prog w'= .ok (.string (strOf (gV M.t))) w':=fun w' hb=>mD (c:=rc7) (Gd.o.below hb acC);have hq1:∀w':World,Below w7.heap.size w7 w'→w'.cell? ⟨q,1,none⟩=some (ptr rs):=fun w' hb=>(HRC.o w' (wZ.o.trans (hb.mono wZ.o.size))).c1;refine aP 25 hS ?_;refine aP 26 hS ?_;refine aP 27 hS ?_;refine aP 28 hS ?_;refine aP 29 hS ?_;refine aP 32 hS ?_;refine aP 33 hS ?_;refine aP 34 hS ?_;refine aP 35 hS ?_;clear hcv hq1;refine qh 30 fun K hK=> ?_;go_simp;refine(Gn (HQS3.o.grow HMS3.o JW.o) (HMS3.o.grow JW.o) K4.o).mono ?_;rintro e w8 ⟨ra8,rn8,rc8,rfl,-,hr8,sP⟩;have BP:=acA hr8;have HBX8:=acA sP;have rD:=acA (wZ.o.trans (sP.mono wZ.o.size));have HB38:=acA (JW.o.trans (sP.mono JW.o.size));clear hr8 sP;go_wp2_with fail;refine pW hK (HBX8.o) fun hS=> ?_;clear hK K;refine jf (S':=fun w'=>Below w8.heap.size w8 w') (fun w' h=>HBX8.o.trans (h.mono HBX8.o.size)) _ _ _ _ ?_;clear hS;have hS:Below w8.heap.size w8 w8:=Below.refl _ _;have hcv:∀w':World,Below w8.heap.size w8 w'→(convert 28 9 (.slice ra8 rn8 rc8)).run Tryz.prog w'= .ok (.string (strOf (kr M.s))) w':=fun w' hb=>mD (c:=rc8) (BP.o.below hb acC);refine aP 31 hS ?_;clear hcv;refine qh 36 fun K hK=> ?_;go_simp;refine(HRS.o w8 rD.o).mono ?_;rintro e w9 ⟨ra9,rc9,rfl,Ru,cO⟩;have fQ:=acA (dF Ru);have HBX9:=acA cO;have uL:=acA (rD.o.trans (cO.mono rD.o.size));have YO:=acA (HB38.o.trans (cO.mono HB38.o.size));clear Ru cO;go_wp2_with fail;refine pW hK (HBX9.o) fun hS=> ?_;clear hK K;refine jf (S':=fun w'=>Below w9.heap.size w9 w') (fun w' h=>HBX9.o.trans (h.mono HBX9.o.size)) _ _ _ _ ?_;clear hS;have hS:Below w9.heap.size w9 w9:=Below.refl _ _;have hcv:∀w':World,Below w9.heap.size w9 w'→(convert 28 9 (.slice ra9 (kr M.s).length rc9)).run Tryz.prog w'= .ok (.string (strOf (kr M.s))) w':=fun w' hb=>mD (c:=rc9) (fQ.o.below hb acC);refine aP 37 hS ?_;refine aP 38 hS ?_;refine aP 39 hS ?_;refine aP 40 hS ?_;refine aP 41 hS ?_;refine aP 44 hS ?_;clear hcv;refine qh 42 fun K hK=> ?_;go_simp;refine(Eo (wG.o.grow YO.o).s.st (wG.o.grow YO.o).s.marks wG.o.s.ok K4.o).mono ?_;rintro e Dj ⟨ra10,rn10,rc10,rfl,-,hr10,KR⟩;have HR10:=acA hr10;have VF:=acA KR;have Ta:=acA (uL.o.trans (KR.mono uL.o.size));have ZB:=acA (YO.o.trans (KR.mono YO.o.size));clear hr10 KR;go_wp2_with fail;refine pW hK (VF.o) fun hS=> ?_;clear hK K;refine jf (S':=fun w'=>Below Dj.heap.size Dj w') (fun w' h=>VF.o.trans (h.mono VF.o.size)) _ _ _ _ ?_;clear hS;have hS:Below Dj.heap.size Dj Dj:=Below.refl _ _;have hcv:∀w':World,Below Dj.heap.size Dj w'→(convert 28 9 (.slice ra10 rn10 rc10)).run Tryz.prog w'= .ok (.string (strOf (kK M))) w':=fun w' hb=>mD (c:=rc10) (HR10.o.below hb acC);refine aP 43 hS ?_;clear hcv;refine qh 45 fun K hK=> ?_;go_simp;refine(HRV.o Dj Ta.o).mono ?_;rintro e Xd ⟨ra11,rc11,rfl,hr11,YP⟩;have HR11:=acA (dF hr11);have VG:=acA YP;have HB11:=acA (Ta.o.trans (YP.mono Ta.o.size));have Ov:=acA (ZB.o.trans (YP.mono ZB.o.size));clear hr11 YP;go_wp2_with fail;refine pW hK (VG.o) fun hS=> ?_;clear hK K;refine jf (S':=fun w'=>Below Xd.heap.size Xd w') (fun w' h=>VG.o.trans (h.mono VG.o.size)) _ _ _ _ ?_;clear hS;have hS:Below Xd.heap.size Xd Xd:=Below.refl _ _;have hcv:∀w':World,Below Xd.heap.size Xd w'→(convert 28 9 (.slice ra11 (kK M).length rc11)).run Tryz.prog w'= .ok (.string (strOf (kK M))) w':=fun w' hb=>mD (c:=rc11) (HR11.o.below hb acC);refine aP 46 hS ?_;refine aP 47 hS ?_;refine aP 48 hS ?_;refine aP 49 hS ?_;refine aP 50 hS ?_;refine aP 53 hS ?_;clear hcv;have hu:=Eo (HSU.o.grow HMU.o Ov.o) (HMU.o.grow Ov.o) wG.o.s.ok.settled K4.o;rw[Io]at hu;have HU:=acA hu;clear hu;refine qh 51 fun K hK=> ?_;go_simp;refine(HU.o).mono ?_;rintro e ZC ⟨ra12,rn12,rc12,rfl,-,hr12,BX⟩;have HR12:=acA hr12;have VH:=acA BX;have Vz:=acA (HB11.o.trans (BX.mono HB11.o.size));have ZE:=acA (Ov.o.trans (BX.mono Ov.o.size));clear hr12 BX;go_wp2_with fail;refine pW hK (VH.o) fun hS=> ?_;clear hK K;refine jf (S':=fun w'=>Below ZC.heap.size ZC w') (fun w' h=>VH.o.trans (h.mono VH.o.size)) _ _ _ _ ?_;clear hS;have hS:Below ZC.heap.size ZC ZC:=Below.refl _ _;have hcv:∀w':World,Below ZC.heap.size ZC w'→(convert 28 9 (.slice ra12 rn12 rc12)).run Tryz.prog w'= .ok (.string (strOf (kK M))) w':=fun w' hb=>mD (c:=rc12) (HR12.o.below hb acC);refine aP 52 hS ?_;clear hcv;refine qh 54 fun K hK=> ?_;go_simp;refine(HRV.o ZC Vz.o).mono ?_;rintro e ZF ⟨ra13,rc13,rfl,hr13,Nh⟩;have Nl:=acA (dF hr13);have VI:=acA Nh;have HB13:=acA (Vz.o.trans (Nh.mono Vz.o.size));have HB313:=acA (ZE.o.trans (Nh.mono ZE.o.size));clear hr13 Nh;go_wp2_with fail;refine pW hK (VI.o) fun hS=> ?_;clear hK K;refine jf (S':=fun w'=>Below ZF.heap.size ZF w') (fun w' h=>VI.o.trans (h.mono VI.o.size)) _ _ _ _ ?_;clear hS;have hS:Below ZF.heap.size ZF ZF:=Below.refl _ _;have hcv:∀w':World,Below ZF.heap.size ZF w'→(convert 28 9 (.slice ra13 (kK M).length rc13)).run Tryz.prog w'= .ok (.string (strOf (kK M))) w':=fun w' hb=>mD (c:=rc13) (Nl.o.below hb acC);refine aP 55 hS ?_;refine aP 56 hS ?_;refine aP 57 hS ?_;refine aP 58 hS ?_;refine aP 59 hS ?_;clear hcv;have huo:=Er (HSU.o.grow HMU.o HB313.o);rw[Ip]at huo;have HUO:=acA huo;clear huo;refine qh 60 fun K hK=> ?_;go_simp;refine HUO.o.mono ?_;rintro e w14 ⟨oa14,oc14,rfl,-,-,Q_⟩;have HBX14:=acA Q_;have HB14:=acA (HB13.o.trans (Q_.mono HB13.o.size));clear Q_;go_wp2_with fail;refine pW hK (HBX14.o) fun hS=> ?_;clear hK K;refine aP 61 hS ?_;refine aP 62 hS ?_;refine aP 63 hS ?_;refine aP 64 hS ?_;refine xW ?_;go_wp2_with fail;go_ret;exact⟨rfl,HB14.o⟩
end
def VJ:jD:=⟨1,[47,97],[],0,0,0,0,0,[]⟩
def VK:jD:=⟨5,[],[],0,0,0,0,0,[120,121,122]⟩
def VL:jD:=⟨6,[],[],0,0,0,9,0,[]⟩
def VN:jD:=⟨8,[47,97],[],0,0,0,0,0,[]⟩
def Ow:rZ:=(dH sQ VJ).1
def Ox:dS:=(dH sQ VJ).2
def VO:rZ:=(dH Ox VK).1
def Oy:dS:=(dH Ox VK).2
def VP:rZ:=(dH Oy VL).1
def Oz:dS:=(dH Oy VL).2
def VQ:rZ:=(dH Oz VN).1
def k14s4:dS:=(dH Oz VN).2
theorem k14e1:dH sQ VJ=(Ow,Ox):=rfl
theorem k14e2:dH Ox VK=(VO,Oy):=rfl
theorem k14e3:dH Oy VL=(VP,Oz):=rfl
theorem k14e4:dH Oz VN=(VQ,k14s4):=rfl
theorem k14f1:Ow.er=0:=by kernel_rfl
theorem k14f2:Ow.n=0:=by kernel_rfl
theorem k14f3:VO.n=3:=by kernel_rfl
theorem k14f4:VP.er=0:=by kernel_rfl
theorem k14f5:VQ.er=28:=by kernel_rfl
theorem Iq(x:jD)(h:x=VJ∨x=VK∨x=VL∨x=VN):lY x:=by
 rcases h with rfl|rfl|rfl|rfl<;>exact Mx (by decide) (by decide) (by decide) (by decide) (by decide) (by decide) (by decide) (by decide) (by decide)
theorem o_(w:World)(m:Int)(hm:w.cell? ⟨0,0,none⟩=some (.int .i64 m)):Calls Tryz.prog 11 #[] w fun e w'=>e= .returned (.bool true)∧Below w.heap.size w w':=by
 have kc:=fun(w:World) (C:Array Value) (n c:Nat)=>Lib.run_convert_bytes_const (P:=Tryz.prog) w 28 5 C n c Tryz.underlying28 abr;have HM:=acA hm;clear hm;go_enter Tryz.func11,Tryz.ntmps11;go_wp2_with fail;refine(Hf (i:=1) (Hg w) (by omega)).mono ?_;rintro e w1 ⟨ps,o1,rfl,hs1,hS1⟩;have jI:=acA hS1;clear hs1 hS1;have Bo:=acA (Ih jI.o (by omega) (by omega) VJ (Iq _ (by simp)) m HM.o (opA 1 ⟨#[47,97]⟩ ⟨#[]⟩ 0 0 0 0 0 none 0 0) rfl rfl k14e1);go_wp2_with fail;refine Bo.o.mono ?_;rintro e w2 ⟨o2,⟨y2,rfl,da2,la2,dc2,lc2,rfl,p1,p2,p3,p4⟩,hs2,hS2⟩;have HS2:=acA hS2;have HR2:=acA (And.intro p1 (And.intro p2 (And.intro p3 p4)));clear hs2 hS2 p1 p2 p3 p4 Bo jI;go_wp2_with (refine ak (by rfl) 41 _ _ (by rfl) _ (eu Ow da2 la2 dc2 lc2) (by rfl) (by rfl) _ (MapKept.heap_alloc _ _).1 bH rfl (bI _ _ _ _ _) ?_;intro w3 hs3;have HW3:=acA hs3;clear hs3;obtain⟨hv3,hb3⟩:=Cw HS2.o.marks HR2.o.1 HR2.o.2.1 HR2.o.2.2.1 HR2.o.2.2.2 HW3.o;have HV3:=acA hv3;have jk:=acA (HS2.o.grow hb3);clear HS2;clear hv3 hb3 HW3 HR2);have hb5:Below w3.heap.size w3 (w3.alloc (.cells #[.int .u8 120,.int .u8 121,.int .u8 122] 5 (3,4))):=wall w3 _;have HV6:=acA (HV3.o.grow jk.o.marks hb5);clear HV3;have HS7:=acA (jk.o.grow hb5);clear jk;clear hb5;have HC8:=acA (Nb HS7.o (by omega) (by omega) VK (Iq _ (by simp)) (some ⟨w3.heap.size,0,none⟩) 3 (Vv (([120,121,122]:List UInt8).map bv) _ (3,4) (by decide)) m HM.o (opA 5 ⟨#[]⟩ ⟨#[]⟩ 0 0 0 0 0 (some ⟨w3.heap.size,0,none⟩) 3 3) rfl k14e2);go_wp2_with fail;refine HC8.o.mono ?_;rintro e w8 ⟨o8,⟨y8,rfl,Wo,la8,Wp,lc8,rfl,p1,p2,p3,p4⟩,IG,S_⟩;have NT:=acA S_;have BP:=acA (And.intro p1 (And.intro p2 (And.intro p3 p4)));have HV9:=acA (HV6.o.five (by omega) IG);clear HV6;clear IG S_ p1 p2 p3 p4 HC8 HS7;go_wp2_with (refine ak (by rfl) 41 _ _ (by rfl) _ (eu VO Wo la8 Wp lc8) (by rfl) (by rfl) _ (MapKept.heap_alloc _ _).1 bH rfl (bI _ _ _ _ _) ?_;intro Dj jJ;have HW10:=acA jJ;clear jJ;obtain⟨hv10,KR⟩:=Cw NT.o.marks BP.o.1 BP.o.2.1 BP.o.2.2.1 BP.o.2.2.2 HW10.o;have HV10:=acA hv10;have HV11:=acA (HV9.o.grow NT.o.marks KR);clear HV9;have HS12:=acA (NT.o.grow KR);clear NT;clear hv10 KR HW10 BP);have HC13:=acA (Ih HS12.o (by omega) (by omega) VL (Iq _ (by simp)) m HM.o (opA 6 ⟨#[]⟩ ⟨#[]⟩ 0 0 0 9 0 none 0 0) rfl rfl k14e3);go_wp2_with fail;refine HC13.o.mono ?_;rintro e ZF ⟨o13,⟨y13,rfl,da13,la13,dc13,lc13,rfl,p1,p2,p3,p4⟩,hs13,hS13⟩;have VR:=acA hS13;have Nl:=acA (And.intro p1 (And.intro p2 (And.intro p3 p4)));have HV14:=acA (HV11.o.five (by omega) hs13);clear HV11;have HV15:=acA (HV10.o.five (by omega) hs13);clear HV10;clear hs13 hS13 p1 p2 p3 p4 HC13 HS12;go_wp2_with (refine ak (by rfl) 41 _ _ (by rfl) _ (eu VP da13 la13 dc13 lc13) (by rfl) (by rfl) _ (MapKept.heap_alloc _ _).1 bH rfl (bI _ _ _ _ _) ?_;intro w16 hs16;have HW16:=acA hs16;clear hs16;obtain⟨hv16,EW⟩:=Cw VR.o.marks Nl.o.1 Nl.o.2.1 Nl.o.2.2.1 Nl.o.2.2.2 HW16.o;have HV16:=acA hv16;have HV17:=acA (HV14.o.grow VR.o.marks EW);clear HV14;have HV18:=acA (HV15.o.grow VR.o.marks EW);clear HV15;have HS19:=acA (VR.o.grow EW);clear VR;clear hv16 EW HW16 Nl);have HC20:=acA (Ih HS19.o (by omega) (by omega) VN (Iq _ (by simp)) m HM.o (opA 8 ⟨#[47,97]⟩ ⟨#[]⟩ 0 0 0 0 0 none 0 0) rfl rfl k14e4);go_wp2_with fail;refine HC20.o.mono ?_;rintro e w20 ⟨o20,⟨y20,rfl,da20,la20,dc20,lc20,rfl,p1,p2,p3,p4⟩,YQ,hS20⟩;have Rk:=acA hS20;have VT:=acA (And.intro p1 (And.intro p2 (And.intro p3 p4)));have HV21:=acA (HV17.o.five (by omega) YQ);clear HV17;have HV22:=acA (HV18.o.five (by omega) YQ);clear HV18;have HV23:=acA (HV16.o.five (by omega) YQ);clear HV16;clear YQ hS20 p1 p2 p3 p4 HC20 HS19;go_wp2_with (refine ak (by rfl) 41 _ _ (by rfl) _ (eu VQ da20 la20 dc20 lc20) (by rfl) (by rfl) _ (MapKept.heap_alloc _ _).1 bH rfl (bI _ _ _ _ _) ?_;intro w24 hs24;have HW24:=acA hs24;clear hs24;obtain⟨hv24,VU⟩:=Cw Rk.o.marks VT.o.1 VT.o.2.1 VT.o.2.2.1 VT.o.2.2.2 HW24.o;have HV24:=acA hv24;have HV25:=acA (HV21.o.grow Rk.o.marks VU);clear HV21;have HV26:=acA (HV22.o.grow Rk.o.marks VU);clear HV22;have HV27:=acA (HV23.o.grow Rk.o.marks VU);clear HV23;have HS28:=acA (Rk.o.grow VU);clear Rk;clear hv24 VU HW24 VT;have c1:=HV25.o.er;rw[k14f1]at c1;have c2:=HV25.o.n;rw[k14f2]at c2;have c3:=HV26.o.n;rw[k14f3]at c3;have c4:=HV27.o.er;rw[k14f4]at c4;have c5:=HV24.o.er;rw[k14f5]at c5);go_ret;exact⟨rfl,HS28.o.below⟩
def bQ(n lo hi:Int):Int:=lo+n%(hi-lo+1)
theorem rz(n lo hi:Int)(h:lo≤hi):lo≤bQ n lo hi∧bQ n lo hi≤hi:=by
 unfold bQ;have h1:=Int.emod_nonneg n (show hi-lo+1≠0 by omega);have h2:=Int.emod_lt_of_pos n (show 0<hi-lo+1 by omega);omega
theorem Rl{n:Int}(h:(Lit.int .i64 n).wf=true): -9223372036854775808≤n∧n≤9223372036854775807:=by
 simp[Lit.wf,IntKind.min,IntKind.max,IntKind.signed,IntKind.bits]at h;omega
theorem rA(n lo hi:Int)(w:World)(hn:(Lit.int .i64 n).wf=true)(h1:0≤lo)(h2:lo≤hi)(h3:hi≤1099511627776):
  Calls Tryz.prog 16 #[.int .i64 n,.int .i64 lo,.int .i64 hi] w fun e w'=>e= .returned (.int .i64 (bQ n lo hi))∧w=w':=by
 obtain⟨hw1,hw2⟩:=Rl hn;clear hn;have t1:=Int.tmod_lt_of_pos n (show 0<hi-lo+1 by omega);have t2:=Int.lt_tmod_of_pos n (show 0<hi-lo+1 by omega);have t3:=Int.emod_nonneg n (show hi-lo+1≠0 by omega);have t4:=Int.emod_lt_of_pos n (show 0<hi-lo+1 by omega);by_cases hn:0≤n
 ·have hx:¬n%(hi-lo+1)<0:=by omega
  go_enter Tryz.func16,Tryz.ntmps16;go_wp2;go_ret;exact⟨dX (by unfold bQ;rfl),rfl⟩
 ·have hE:n%(hi-lo+1)=if n.tmod (hi-lo+1)<0 then n.tmod (hi-lo+1)+(hi-lo+1)else n.tmod (hi-lo+1):=by
   have h5:=Int.emod_add_mul_ediv n (hi-lo+1);have h6:=Int.tmod_add_mul_tdiv n (hi-lo+1);have h7:(n.tmod (hi-lo+1))%(hi-lo+1)=n%(hi-lo+1):=by
    have h8:n=n.tmod (hi-lo+1)+(hi-lo+1)*n.tdiv (hi-lo+1):=by omega
    rw[←Int.add_mul_emod_self_left (n.tmod (hi-lo+1)) (hi-lo+1) (n.tdiv (hi-lo+1)),←h8]
   split
   ·rw[←h7,←Int.add_emod_right,Int.emod_eq_of_lt (by omega) (by omega)]
   ·rw[←h7,Int.emod_eq_of_lt (by omega) (by omega)]
  have HE:=acA hE;clear hE;by_cases ht:n.tmod (hi-lo+1)<0
  ·go_enter Tryz.func16,Tryz.ntmps16;go_wp2;go_ret;exact⟨dX (by unfold bQ;rw[HE.o,if_pos ht];omega),rfl⟩
  ·go_enter Tryz.func16,Tryz.ntmps16;go_wp2;go_ret;exact⟨dX (by unfold bQ;rw[HE.o,if_neg (by omega)]),rfl⟩
def iy:List (List UInt8):=[[47,97],[47,98],[47,99],[47,97,47,97],[47,97,47,98],[47,98,47,97],[47,98,47,98,47,97],[47],[47,99,47,97],[47,98,47,98],[47,65],[97],[47,97,47,47,98],[47,97,47]]
def YR(w:World)(e:Ending)(w':World):Prop:=∃s,s∈iy∧e= .returned (.string (strOf s))∧Below w.heap.size w w'
theorem KS(z:Int)(hz:(Lit.int .i64 z).wf=true)(w:World):Calls Tryz.prog 39 #[.int .i64 z] w (YR w):=by
 obtain⟨v,hv⟩:∃v,v=bQ z 0 1048576:=⟨_,rfl⟩;have hb:=rz z 0 1048576 (by omega);have HW:=acA (rA z 0 1048576 (w.alloc (.cells #[.string ⟨#[47,97]⟩,.string ⟨#[47,98]⟩,.string ⟨#[47,99]⟩,.string ⟨#[47,97,47,97]⟩,.string ⟨#[47,97,47,98]⟩,.string ⟨#[47,98,47,97]⟩,.string ⟨#[47,98,47,98,47,97]⟩,.string ⟨#[47]⟩,.string ⟨#[47,99,47,97]⟩,.string ⟨#[47,98,47,98]⟩,.string ⟨#[47,65]⟩,.string ⟨#[97]⟩,.string ⟨#[47,97,47,47,98]⟩,.string ⟨#[47,97,47]⟩] 9)) hz (by omega) (by omega) (by omega));rw[←hv]at hb HW;clear hv;obtain⟨k,rfl⟩:∃k:Nat,v=k:=⟨v.toNat,by omega⟩;obtain⟨q,hq⟩:∃q,q=k%14:=⟨_,rfl⟩;have h2:(k:Int)%14=(q:Int):=by rw[hq];omega
 have h1:(k:Int).tmod 14=(q:Int):=by rw[Int.tmod_eq_emod_of_nonneg (by omega)];exact h2
 have hlt:q<14:=by rw[hq];omega
 clear hq;rcases (show q=0∨q=1∨q=2∨q=3∨q=4∨q=5∨q=6∨q=7∨q=8∨q=9∨q=10∨q=11∨q=12∨q=13 by omega)with rfl|rfl|rfl|rfl|rfl|rfl|rfl|rfl|rfl|rfl|rfl|rfl|rfl|rfl
 ·go_enter abd,aa4;go_wp2_with fail;refine HW.o.mono ?_;rintro e w1 ⟨rfl,rfl⟩;clear HW;go_wp2_with fail;go_ret;exact⟨[47,97],by simp[iy],rfl,acD.alloc acC _⟩
 ·go_enter abd,aa4;go_wp2_with fail;refine HW.o.mono ?_;rintro e w1 ⟨rfl,rfl⟩;clear HW;go_wp2_with fail;go_ret;exact⟨[47,98],by simp[iy],rfl,acD.alloc acC _⟩
 ·go_enter abd,aa4;go_wp2_with fail;refine HW.o.mono ?_;rintro e w1 ⟨rfl,rfl⟩;clear HW;go_wp2_with fail;go_ret;exact⟨[47,99],by simp[iy],rfl,acD.alloc acC _⟩
 ·go_enter abd,aa4;go_wp2_with fail;refine HW.o.mono ?_;rintro e w1 ⟨rfl,rfl⟩;clear HW;go_wp2_with fail;go_ret;exact⟨[47,97,47,97],by simp[iy],rfl,acD.alloc acC _⟩
 ·go_enter abd,aa4;go_wp2_with fail;refine HW.o.mono ?_;rintro e w1 ⟨rfl,rfl⟩;clear HW;go_wp2_with fail;go_ret;exact⟨[47,97,47,98],by simp[iy],rfl,acD.alloc acC _⟩
 ·go_enter abd,aa4;go_wp2_with fail;refine HW.o.mono ?_;rintro e w1 ⟨rfl,rfl⟩;clear HW;go_wp2_with fail;go_ret;exact⟨[47,98,47,97],by simp[iy],rfl,acD.alloc acC _⟩
 ·go_enter abd,aa4;go_wp2_with fail;refine HW.o.mono ?_;rintro e w1 ⟨rfl,rfl⟩;clear HW;go_wp2_with fail;go_ret;exact⟨[47,98,47,98,47,97],by simp[iy],rfl,acD.alloc acC _⟩
 ·go_enter abd,aa4;go_wp2_with fail;refine HW.o.mono ?_;rintro e w1 ⟨rfl,rfl⟩;clear HW;go_wp2_with fail;go_ret;exact⟨[47],by simp[iy],rfl,acD.alloc acC _⟩
 ·go_enter abd,aa4;go_wp2_with fail;refine HW.o.mono ?_;rintro e w1 ⟨rfl,rfl⟩;clear HW;go_wp2_with fail;go_ret;exact⟨[47,99,47,97],by simp[iy],rfl,acD.alloc acC _⟩
 ·go_enter abd,aa4;go_wp2_with fail;refine HW.o.mono ?_;rintro e w1 ⟨rfl,rfl⟩;clear HW;go_wp2_with fail;go_ret;exact⟨[47,98,47,98],by simp[iy],rfl,acD.alloc acC _⟩
 ·go_enter abd,aa4;go_wp2_with fail;refine HW.o.mono ?_;rintro e w1 ⟨rfl,rfl⟩;clear HW;go_wp2_with fail;go_ret;exact⟨[47,65],by simp[iy],rfl,acD.alloc acC _⟩
 ·go_enter abd,aa4;go_wp2_with fail;refine HW.o.mono ?_;rintro e w1 ⟨rfl,rfl⟩;clear HW;go_wp2_with fail;go_ret;exact⟨[97],by simp[iy],rfl,acD.alloc acC _⟩
 ·go_enter abd,aa4;go_wp2_with fail;refine HW.o.mono ?_;rintro e w1 ⟨rfl,rfl⟩;clear HW;go_wp2_with fail;go_ret;exact⟨[47,97,47,47,98],by simp[iy],rfl,acD.alloc acC _⟩
 ·go_enter abd,aa4;go_wp2_with fail;refine HW.o.mono ?_;rintro e w1 ⟨rfl,rfl⟩;clear HW;go_wp2_with fail;go_ret;exact⟨[47,97,47],by simp[iy],rfl,acD.alloc acC _⟩
theorem BD{s:List UInt8}(h:s∈iy):s.length≤6:=by
 have:∀s∈iy,s.length≤6:=by decide
 exact this s h
theorem OA(a:Option Addr)(len cap n:Nat)(hl:len≤cap)(hn:n≤1048576)(hm:len≤maxLen)(w:World):
  Calls Tryz.prog 17 #[.slice a len cap,.int .i64 n] w fun e w'=>e= .returned (.slice a (min len n) cap)∧w=w':=by
 unfold maxLen at hm;by_cases h:n<len
 ·have e1:n≤cap:=by omega
  go_enter Tryz.func17,Tryz.ntmps17;go_wp2;go_ret;rw[show min len n=n by omega];exact⟨rfl,rfl⟩
 ·go_enter Tryz.func17,Tryz.ntmps17;go_wp2;go_ret;rw[show min len n=len by omega];exact⟨rfl,rfl⟩
end Go.Proofs.YtjnhnlabpccgjaaGreatDoor
