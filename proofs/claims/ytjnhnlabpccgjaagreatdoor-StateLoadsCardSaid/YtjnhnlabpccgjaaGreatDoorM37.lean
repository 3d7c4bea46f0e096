/-  -/
import Derived.Test.YtjnhnlabpccgjaaGreatDoorM36
set_option maxRecDepth 100000
set_option maxHeartbeats 64000000
set_option linter.all false
namespace Go.Proofs.YtjnhnlabpccgjaaGreatDoor
open Go.ChangeShapes Go.WideShapes Go.ChangeAt Go.RowKit
section
variable{W w:World}{o:Mark}{i p:Nat}{M:dQ}{cc:Int}
theorem YO{S:Nat→Prop}(x:jK)(hx:nN x)(hk:x.kind=8∨x.kind=13)(hi:0<i)(hS:j_ o i w p M)(hM:Marks W o w)(hok:fQ cc M)(da:Option Addr)(dc:Nat)(a:Option Addr)(n c:Nat)(ls:List Nm)(hls:aT S w a n (ls.map strOf))(hnc:n≤c)(mQ:n≤1000000):
  Calls Tryz.prog 49 #[ptr p,.agg (opC x da dc),.slice a n c] w (uV o i (i+3) w p (f_ M x ls [])):=by
 obtain⟨o1,w2,hw2,hr,hz,hb⟩:=jV hi (n:=i+3) ⟨by omega,by omega⟩ hS hM x da dc;have HW:=acr hw2;unfold opC jd dR at HW;dsimp only[List.length_nil]at HW;have HR:=acr hr;have HZ:=acr hz;have HB:=acr hb;have HI:=acr hi;have Ld:=acr (hls.below hb acu);have jO:=acr hok;have uW:=acr hk;have HX:=acr hx;have HN:=acr (And.intro hnc mQ);clear hls hok hk hx hnc mQ;clear hw2 hr hz hb hS hM hi;unfold opC;go_enter Tryz.func49,Tryz.ntmps49;go_upto_region 1 with(fail);rw[←HW.o];clear HW;have kG:=acr (RH (M:=M) (ls:=ls) uW.o);obtain⟨t,c0,hT,-⟩:=HR.o.xg;have uF:=acr (hT.tree jO.o.t.1);obtain⟨ki,hki⟩:∃ki,ki=(aY M.t ls).1:=⟨_,rfl⟩;obtain⟨ke,hke⟩:∃ke,ke=(aY M.t ls).2:=⟨_,rfl⟩;have qP:=acr (uF.o.look a n c ls Ld.o);rw[←hki,←hke]at qP;have Yx:=acr hki;have El:=acr hke;clear hki hke hT;go_wp2_with fail;refine qP.o.mono ?_;rintro e w5 ⟨rfl,hb5⟩;have oM:=acr (HR.o.grow hb5);have Vy:=acr (HZ.o.grow hb5);have wZ:=acr (uF.o.grow hb5);have HLS5:=acr (Ld.o.below hb5 acu);replace c0:=(hb5.cell (aaj w2 _ c0)).trans c0;clear hb5 qP;by_cases hz:ke=0
 ·have BQ:=acr hz;have hz2:(ke !=0)=false:=by simpa using hz
  have hl0:(aY M.t ls).2=0:=El.o.symm.trans hz;obtain⟨y,hy,hyk⟩:=Ef jO.o.t.1 hl0;have wu:=acr (wZ.o.node ki);obtain⟨x0,x1,x2,x3,x4,x5,hnm,-,hcase⟩:=AA M.t ki;rw[hnm]at wu;have hcs:x1=y.kind∧x2=y.links∧x4=y.aF∧x5=y.closed:=by
   rcases hcase with⟨e1,-⟩|⟨y',e1,e2,e3,-,e5,e6⟩
   ·rw[Yx.o,hy]at e1;cases e1
   ·rw[Yx.o,hy]at e1;obtain rfl:y=y':=aaH e1;exact⟨e2,e3,e5,e6⟩
  have HSK:=acr (Gy (ls:=ls) (aF:=x.aF) jO.o.t.1);have HSU:=acr (Kv jO.o.t.1 hl0 hy);obtain⟨q1,q2,q4,q5⟩:=hcs;rw[←q1,←q2,←q4,←q5]at HSU;rw[←Yx.o,←El.o]at HSK;clear hz hnm hcase hl0 hy hyk q1 q2 q4 q5 y;go_wp2_with fail;refine wu.o.mono ?_;rintro e w6 ⟨rfl,hb6⟩;have yw:Below w5.heap.size w5 (w6.alloc (.cells #[.int .i64 x0,.int .i64 x1,.int .i64 x2,.int .i64 x3,.int .u64 x4,.bool x5] 39)):=hb6.trans ((wall w6 _).mono hb6.size);have KC:=(MapKept.heap_alloc w6 (.cells #[.int .i64 x0,.int .i64 x1,.int .i64 x2,.int .i64 x3,.int .u64 x4,.bool x5] 39)).1;go_upto_region 5 with(fail);generalize w6.alloc (.cells #[.int .i64 x0,.int .i64 x1,.int .i64 x2,.int .i64 x3,.int .u64 x4,.bool x5] 39)=w7 at*;obtain⟨g7,KD⟩:∃g7,g7=w6.heap.size:=⟨_,rfl⟩;rw[←KD]at KC⊢;clear KD;have ER:=acr (oM.o.grow yw);have HLS7:=acr (HLS5.o.below yw acu);obtain⟨z0,-,-,-,-,-,z6,-,-⟩:=(Vy.o.grow yw).cells;have HZ7:=acr (Vy.o.grow yw);have HG7:=acr KC;clear hb6 yw wu oM Vy wZ HLS5 uF c0;rcases uW.o with hk|hk
  ·as_aux_lemma=>
   rw[hk]at z0;have hsd:f_ M x ls []=if x1=2 then(dR 22,M)else if x5=true∧x2≤1∧M.now<x4 then(dR 28,M)else(dR (bL M.t ls).1,M.tr (bL M.t ls).2):=by rw[kG.o,if_pos hk,HSU.o]
   have n1:w7.cell? ⟨g7,1,none⟩=some (.int .i64 x1):=by simp[World.cell?,KC]
   have n2:w7.cell? ⟨g7,2,none⟩=some (.int .i64 x2):=by simp[World.cell?,KC]
   have n4:w7.cell? ⟨g7,4,none⟩=some (.int .u64 x4):=by simp[World.cell?,KC]
   have n5:w7.cell? ⟨g7,5,none⟩=some (.bool x5):=by simp[World.cell?,KC]
   have qF:=acr hsd;clear hk hsd HSK HSU KC;by_cases hd:x1=2
   ·have hd2:(x1==2)=true:=by simpa using hd
    have HD:=acr hd;clear hd;go_wp2_with fail;refine(dI _ _).mono ?_;rintro e w9 ⟨rfl,eH⟩;unfold pz;have gQ:=acr (ER.o.grow eH);clear eH;go_wp2_with (refine gQ.o.rep (dR 22) none none 0 0 ?_;intro w5 eU);exact gQ.o.je eU (qF.o.trans (if_pos HD.o))
   ·have hd2:(x1==2)=false:=by simpa using hd
    have Em:=acr (qF.o.trans (if_neg hd));have rz:=acr (ER.o.grow acv.drew);obtain⟨t2,s2,y0,-,y2,WK,-,-⟩:=rz.o.OW;have c2:w7.cell? ⟨p,2,none⟩=some (.int .u64 M.now):=y2;obtain⟨t3,y3,Oe,Vz⟩:=rz.o.xg;have VA:=acr Vz;have HUL:=acr (Rc Oe rz.o.marks jO.o.t.1 a n c ls (HLS7.o.below acv.drew acu) HN.o.1 HN.o.2);obtain⟨mm,hmm⟩:∃mm,mm=bL M.t ls:=⟨_,rfl⟩;rw[←hmm]at HUL Em;have qQ:acs (∀(o4:Mark) (w4:World),Step o1 (fun m=>m=i+1) w7.drew o4 w4→gV o4 (i+1) w4 t3 mm.2→sM W o i (i+3) w p (w.heap.size+1) o4 w4 (M.tr mm.2)):=fun o4 w4 hs hT=>(VA.o o4 w4 mm.2 hs hT).1;clear hd hmm WK Oe Vz VA y0 y2;cases x5 with
    |false=>
     have Nk:=acr (Em.o.trans (if_neg (by simp)));go_wp2_with fail;refine BP ((fun w'=>w'.cell? ⟨g7,5,none⟩=some (.bool false))) ?_ fun hS=> ?_
     ·exact n5
     refine aX 0 hS ?_;refine aX 1 hS ?_;refine aX 2 hS ?_;refine oq 3 hS ?_;refine oq 4 hS ?_;refine oq 5 hS ?_;refine aX 6 hS ?_;refine aX 7 hS ?_;refine oq 8 hS ?_;refine oq 9 hS ?_;refine oq 10 hS ?_;refine oq 11 hS ?_;refine oq 12 hS ?_;refine oq 13 hS ?_;refine oq 14 hS ?_;refine aX 15 hS ?_;refine Bn ?_;go_wp2_with fail;refine HUL.o.mono ?_;rintro e w8 ⟨rfl,o4,hs4,kK⟩;have D9:=acr (qQ.o _ _ hs4 kK);clear hs4 kK HUL qQ;go_wp2_with fail;refine(dI _ _).mono ?_;rintro e w9 ⟨rfl,eH⟩;unfold pz;have gQ:=acr (D9.o.grow eH);clear eH;go_wp2_with (refine gQ.o.rep (dR mm.1) none none 0 0 ?_;intro w5 eU);exact gQ.o.je eU (Nk.o)
    |true=>
     by_cases hl:x2≤1
     ·have hl2:decide (x2≤1)=true:=by simpa using hl
      by_cases ht:M.now<x4
      ·have ht2:decide (M.now<x4)=true:=by simpa using ht
       have Nk:=acr (Em.o.trans (if_pos ⟨rfl,hl,ht⟩));clear hl ht;go_wp2_with fail;refine BP ((fun w'=>w'.cell? ⟨g7,5,none⟩=some (.bool true)∧w'.cell? ⟨g7,2,none⟩=some (.int .i64 x2)∧w'.cell? ⟨g7,4,none⟩=some (.int .u64 x4)∧w'.cell? ⟨p,2,none⟩=some (.int .u64 M.now))) ?_ fun hS=> ?_
       ·exact⟨n5,n2,n4,c2⟩
       refine aX 0 hS ?_;refine aX 1 hS ?_;refine aX 2 hS ?_;refine aX 3 hS ?_;refine aX 4 hS ?_;refine aX 5 hS ?_;refine aX 6 hS ?_;refine aX 7 hS ?_;refine aX 8 hS ?_;refine aX 9 hS ?_;refine aX 10 hS ?_;refine aX 11 hS ?_;refine aX 12 hS ?_;refine aX 13 hS ?_;refine aX 14 hS ?_;refine aX 15 hS ?_;refine Bn ?_;go_wp2_with fail;refine(dI _ _).mono ?_;rintro e w9 ⟨rfl,eH⟩;unfold pz;have gQ:=acr (rz.o.grow eH);clear eH;go_wp2_with (refine gQ.o.rep (dR 28) none none 0 0 ?_;intro w5 eU);exact gQ.o.je eU (Nk.o)
      ·have ht2:decide (M.now<x4)=false:=by simpa using ht
       have Nk:=acr (Em.o.trans (if_neg (fun h=>ht h.2.2)));clear hl ht;go_wp2_with fail;refine BP ((fun w'=>w'.cell? ⟨g7,5,none⟩=some (.bool true)∧w'.cell? ⟨g7,2,none⟩=some (.int .i64 x2)∧w'.cell? ⟨g7,4,none⟩=some (.int .u64 x4)∧w'.cell? ⟨p,2,none⟩=some (.int .u64 M.now))) ?_ fun hS=> ?_
       ·exact⟨n5,n2,n4,c2⟩
       refine aX 0 hS ?_;refine aX 1 hS ?_;refine aX 2 hS ?_;refine aX 3 hS ?_;refine aX 4 hS ?_;refine aX 5 hS ?_;refine aX 6 hS ?_;refine aX 7 hS ?_;refine aX 8 hS ?_;refine aX 9 hS ?_;refine aX 10 hS ?_;refine aX 11 hS ?_;refine aX 12 hS ?_;refine aX 13 hS ?_;refine aX 14 hS ?_;refine aX 15 hS ?_;refine Bn ?_;go_wp2_with fail;refine HUL.o.mono ?_;rintro e w8 ⟨rfl,o4,hs4,kK⟩;have D9:=acr (qQ.o _ _ hs4 kK);clear hs4 kK HUL qQ;go_wp2_with fail;refine(dI _ _).mono ?_;rintro e w9 ⟨rfl,eH⟩;unfold pz;have gQ:=acr (D9.o.grow eH);clear eH;go_wp2_with (refine gQ.o.rep (dR mm.1) none none 0 0 ?_;intro w5 eU);exact gQ.o.je eU (Nk.o)
     ·have hl2:decide (x2≤1)=false:=by simpa using hl
      have Nk:=acr (Em.o.trans (if_neg (fun h=>hl h.2.1)));clear hl;go_wp2_with fail;refine BP ((fun w'=>w'.cell? ⟨g7,5,none⟩=some (.bool true)∧w'.cell? ⟨g7,2,none⟩=some (.int .i64 x2))) ?_ fun hS=> ?_
      ·exact⟨n5,n2⟩
      refine aX 0 hS ?_;refine aX 1 hS ?_;refine aX 2 hS ?_;refine aX 3 hS ?_;refine aX 4 hS ?_;refine aX 5 hS ?_;refine aX 6 hS ?_;refine aX 7 hS ?_;refine oq 8 hS ?_;refine oq 9 hS ?_;refine oq 10 hS ?_;refine oq 11 hS ?_;refine oq 12 hS ?_;refine oq 13 hS ?_;refine oq 14 hS ?_;refine aX 15 hS ?_;refine Bn ?_;go_wp2_with fail;refine HUL.o.mono ?_;rintro e w8 ⟨rfl,o4,hs4,kK⟩;have D9:=acr (qQ.o _ _ hs4 kK);clear hs4 kK HUL qQ;go_wp2_with fail;refine(dI _ _).mono ?_;rintro e w9 ⟨rfl,eH⟩;unfold pz;have gQ:=acr (D9.o.grow eH);clear eH;go_wp2_with (refine gQ.o.rep (dR mm.1) none none 0 0 ?_;intro w5 eU);exact gQ.o.je eU (Nk.o)
  ·as_aux_lemma=>
   rw[hk]at z0;have hsd:f_ M x ls []=(dR (jA M.t ki x.aF).1,M.tr (jA M.t ki x.aF).2):=by rw[kG.o,if_neg (by omega),HSK.o,if_neg (by rw[BQ.o];simp)]
   have rz:=acr (ER.o.grow acv.drew);obtain⟨t3,y3,Oe,Vz⟩:=rz.o.xg;have c3:w7.cell? ⟨p,0,none⟩=some (ptr t3):=y3;have VA:=acr Vz;have iW:=acr (X_ Oe rz.o.marks jO.o.t.1 ki x.aF HX.o.wt);obtain⟨mm,hmm⟩:∃mm,mm=jA M.t ki x.aF:=⟨_,rfl⟩;rw[←hmm]at iW hsd;have qF:=acr hsd;clear hk hsd hmm HSK HSU KC Oe Vz y3;go_wp2_with fail;refine wQ 9 ((fun w'=>w'.cell? ⟨p,0,none⟩=some (ptr t3)∧w'.cell? ⟨w.heap.size,6,none⟩=some (.int .u64 x.aF))) ?_ fun hS=> ?_
   ·exact⟨c3,z6⟩
   refine aC 0 hS ?_;refine aC 1 hS ?_;refine aC 2 hS ?_;refine aC 3 hS ?_;refine aC 4 hS ?_;refine aC 5 hS ?_;refine aC 6 hS ?_;refine bU 7 fun K hK=> ?_;go_simp;refine iW.o.mono ?_;rintro e w8 ⟨rfl,o4,hs4,kK⟩;obtain⟨hr4,Fg⟩:=VA.o _ _ _ hs4 kK;have D9:=acr hr4;have HZ8:=acr ((HZ7.o.grow acv.drew).step (by simp) hs4);have Lc:acs (w8.cell? ⟨p,0,none⟩=some (ptr t3)∧w8.cell? ⟨w.heap.size,6,none⟩=some (.int .u64 x.aF)):=by
    refine⟨?_,HZ8.o.cells.2.2.2.2.2.2.1⟩;have:w8.heap[p]? =w7.heap[p]? :=Fg;simp only[World.cell?,this]at c3⊢;exact c3
   clear hr4 Fg hs4 kK iW VA;go_wp2_with fail;refine bV hK (Lc.o) fun hS=> ?_;clear hK K;refine bU 8 fun K hK=> ?_;go_simp;refine(dI _ _).mono ?_;rintro e w9 ⟨rfl,eH⟩;unfold pz;have gQ:=acr (D9.o.grow eH);have HS9:=acr (And.intro ((eH.cell (aaj w8 _ Lc.o.1)).trans Lc.o.1) ((eH.cell (aaj w8 _ Lc.o.2)).trans Lc.o.2));clear eH;go_wp2_with fail;refine bV hK (HS9.o) fun hS=> ?_;clear hK K;refine bU 9 fun K hK=> ?_;refine gQ.o.srep (dR mm.1) none none 0 0 ?_;intro Oq eU;refine nk hK ?_;clear hS hK K;go_wp2_with fail;exact gQ.o.je eU qF.o
 ·have BQ:=acr hz;have hz2:(ke !=0)=true:=by simpa using hz
  have qF:acs (f_ M x ls []=(dR ke,M)):=by
   show _=_;rw[kG.o];by_cases hk:x.kind=8
   ·rw[if_pos hk,Ng (by rw[←El.o];exact hz),←El.o]
   ·rw[if_neg hk,Gy jO.o.t.1,if_pos (by rw[←El.o];exact hz),←El.o]
  clear hz;go_wp2_with fail;refine(dI _ _).mono ?_;rintro e w9 ⟨rfl,eH⟩;unfold pz;have gQ:=acr (oM.o.grow eH);clear eH;go_wp2_with (refine gQ.o.rep (dR ke) none none 0 0 ?_;intro w5 eU);exact gQ.o.je eU (qF.o)
end
section
variable{W w:World}{o:Mark}{i p:Nat}{M:dQ}{cc:Int}
theorem RQ(x:jK)(hx:nN x)(hk:x.kind=1∨x.kind=2∨x.kind=3∨x.kind=8∨x.kind=9∨x.kind=11∨x.kind=12∨x.kind=13)(hi:0<i)(hS:j_ o i w p M)(hM:Marks W o w)(hok:fQ cc M)(hcc:cc≤1000000000)(da:Option Addr)(dc:Nat)(hda:ah (Free o w) w da x.data.length (x.data.map bv))(hdl:x.data.length≤1000000):
  Calls Tryz.prog 14 #[ptr p,.agg (opC x da dc)] w (uV o i (i+4) w p (fE M x)):=by
 obtain⟨o1,w2,hw2,hr,hz,hb⟩:=jV hi (n:=i+4) ⟨by omega,by omega⟩ hS hM x da dc;have HW:=acr hw2;unfold opC jd dR at HW;dsimp only[List.length_nil]at HW;have HR:=acr hr;have HZ:=acr hz;have HB:=acr hb;have HI:=acr hi;have HX:=acr hx;have uW:=acr hk;have jO:=acr hok;have Ow:=acr hcc;have uT:=acr hda;have vC:=acr hdl;clear hx hk hok hcc hda hdl;clear hw2 hr hz hb hS hM hi;unfold opC;go_enter abZ,abT;go_upto_region 1 with(fail);rw[←HW.o];clear HW;have HTX:acs (gu x=gy [x.path]):=by
  show _=_;unfold gu zi;rw[if_pos (by have:=uW.o;omega),if_neg (by have:=uW.o;omega),if_pos (by have:=uW.o;omega)]
 have kG:acs ((ak x.path).2=0→fE M x=f_ M x (ak x.path).1 []):=fun h=>by
  have e:gy [x.path]=([(ak x.path).1],0):=tL [x.path] fun t ht=>by rw[List.mem_singleton.1 ht];exact h
  unfold fE;rw[HTX.o,e];rfl
 have FU:acs ((ak x.path).2≠0→fE M x=(dR (ak x.path).2,M)):=fun h=>by
  have e:=lZ [x.path] 0 x.path rfl (fun x hx=>by simp at hx) h;unfold fE;rw[HTX.o,e,if_pos h]
 obtain⟨z0,-,-,-,-,-,-,-,-⟩:=HZ.o.cells;rcases uW.o with hk|hk|hk|hk|hk|hk|hk|hk
 all_goals as_aux_lemma=>
  rw[hk]at z0;go_wp2_with fail;refine(KA _ (by decide) _).mono ?_;rintro e w3 ⟨rfl,hb3⟩;have HR3:=acr (HR.o.grow hb3);have HZ3:=acr (HZ.o.grow hb3);have HB3:=acr (HB.o.trans (hb3.mono HB.o.size));clear HR HZ hb3;obtain⟨z0,z1,z2,z3,z4,z5,z6,z7,z8⟩:=HZ3.o.cells;rw[hk]at z0;go_wp2_with fail;refine(yu _ _ (by rw[fK];exact HX.o.wp)).mono ?_;rintro e w4 ⟨a0,n0,c0,ss0,rfl,VB,BN,Ms,hb0⟩;rw[show(strOf x.path).data.toList=x.path from rfl]at BN⊢;have HR4:=acr (HR3.o.grow hb0);have WV:=acr (HZ3.o.grow hb0);have eT:=acr (HB3.o.trans (hb0.mono HB3.o.size));have SQ:=acr (fun h=>Nj h VB BN Ms);obtain⟨q0,hq0⟩:∃q0,q0=(ak x.path).1:=⟨_,rfl⟩;obtain⟨er,her⟩:∃er,er=(ak x.path).2:=⟨_,rfl⟩;rw[←her,←hq0]at SQ kG;rw[←her]at FU⊢;clear VB BN Ms hb0 hq0 her HR3 HZ3;obtain⟨z0,z1,z2,z3,z4,z5,z6,z7,z8⟩:=WV.o.cells;rw[hk]at z0;by_cases hz:er=0
  ·have HN:=acr (SQ.o hz);have hz2:(er !=0)=false:=by simpa using hz
   have ko:=acr (kG.o hz);clear hz SQ kG FU
   first
   |(first
     |(have HC:=acr (YM x _ hk (by decide) HR4.o.hi HR4.o.st HR4.o.marks jO.o.t.1 a0 n0 c0 q0 HN.o.strs HN.o.cap (by have:=HN.o.few;omega));go_wp2_with fail;(with_reducible refine HC.o.mono ?_))
     |(have HC:=acr (YN x (by rw[hk];decide) HR4.o.hi HR4.o.st HR4.o.marks jO.o da dc a0 n0 c0 q0 HN.o.strs);unfold opC at HC;rw[hk]at HC;go_wp2_with fail;(with_reducible refine HC.o.mono ?_))
     |(have HC:=acr (YO x HX.o (by rw[hk];decide) HR4.o.hi HR4.o.st HR4.o.marks jO.o da dc a0 n0 c0 q0 HN.o.strs HN.o.cap (by have:=HN.o.few;omega));unfold opC at HC;rw[hk]at HC;go_wp2_with fail;(with_reducible refine HC.o.mono ?_))
     rintro e w5 ⟨o4,⟨v4,rfl,JN,JO,JQ,JR,rfl,k1,k2,k3,k4⟩,hs4,uH⟩;have oM:=acr (HR4.o.turn (fun m hm=>by omega) hs4 uH);have Dl:=acr (And.intro k1 (And.intro k2 (And.intro k3 k4)));clear hs4 uH k1 k2 k3 k4;go_wp2_with (refine oM.o.rep _ JN JO JQ JR ?_;intro w6 eU);exact oM.o.ret eU ko.o ⟨Dl.o.1,Dl.o.2.1,Dl.o.2.2.1,Dl.o.2.2.2⟩
    )
   |(obtain⟨t,c9,hT,htr⟩:=HR4.o.xg
     have uF:=acr htr;have HC:=acr (UQ hT HR4.o.marks jO.o.t.1 a0 n0 c0 q0 HN.o.strs HN.o.cap (by have:=HN.o.few;omega));have qF:acs (f_ M x q0 []=(dR (iC M.t q0).1,M.tr (iC M.t q0).2)):=by
      show _=_;unfold f_;simp[hk]
     obtain⟨mm,hmm⟩:∃mm,mm=iC M.t q0:=⟨_,rfl⟩;rw[←hmm]at HC qF;clear hmm hT htr;go_wp2_with fail;refine HC.o.mono ?_;rintro e w5 ⟨rfl,o4,hs4,kK⟩;have oM:=acr (uF.o _ _ _ hs4 kK).1;clear hs4 kK;go_wp2_with fail;refine(dI _ _).mono ?_;rintro e w9 ⟨rfl,eH⟩;unfold pz;have gQ:=acr (oM.o.grow eH);clear eH;go_wp2_with (refine gQ.o.rep (dR mm.1) none none 0 0 ?_;intro w5 eU);exact gQ.o.je eU (ko.o.trans qF.o)
    )
  ·have hz2:(er !=0)=true:=by simpa using hz
   have ko:=acr (FU.o hz);clear hz SQ kG FU;go_wp2_with fail;refine(dI _ _).mono ?_;rintro e w9 ⟨rfl,eH⟩;unfold pz;have gQ:=acr (HR4.o.grow eH);clear eH;go_wp2_with (refine gQ.o.rep (dR er) none none 0 0 ?_;intro w5 eU);exact gQ.o.je eU (ko.o)
end
section
variable{W w:World}{o:Mark}{i p:Nat}{M:dQ}{cc:Int}
theorem RS(x:jK)(hx:nN x)(hk:x.kind=7∨x.kind=10)(hi:0<i)(hS:j_ o i w p M)(hM:Marks W o w)(hok:fQ cc M)(hcc:cc≤1000000000)(da:Option Addr)(dc:Nat)(hda:ah (Free o w) w da x.data.length (x.data.map bv))(hdl:x.data.length≤1000000):
  Calls Tryz.prog 14 #[ptr p,.agg (opC x da dc)] w (uV o i (i+4) w p (fE M x)):=by
 obtain⟨o1,w2,hw2,hr,hz,hb⟩:=jV hi (n:=i+4) ⟨by omega,by omega⟩ hS hM x da dc;have HW:=acr hw2;unfold opC jd dR at HW;dsimp only[List.length_nil]at HW;have HR:=acr hr;have HZ:=acr hz;have HB:=acr hb;have HI:=acr hi;have HX:=acr hx;have uW:=acr hk;have jO:=acr hok;have Ow:=acr hcc;have uT:=acr hda;have vC:=acr hdl;clear hx hk hok hcc hda hdl;clear hw2 hr hz hb hS hM hi;unfold opC;go_enter abZ,abT;go_upto_region 1 with(fail);rw[←HW.o];clear HW;have HTX:acs (gu x=gy [x.path,x.ig]):=by
  show _=_;unfold gu zi;rw[if_pos (by have:=uW.o;omega),if_pos (by have:=uW.o;omega)]
 have kG:acs ((ak x.path).2=0→(ak x.ig).2=0→fE M x=f_ M x (ak x.path).1 (ak x.ig).1):=fun h h'=>by
  have e:gy [x.path,x.ig]=([(ak x.path).1,(ak x.ig).1],0):=tL [x.path,x.ig] fun t ht=>by
   simp only[aan,abh,or_false]at ht;rcases ht with rfl|rfl
   ·exact h
   ·exact h'
  unfold fE;rw[HTX.o,e];rfl
 have FU:acs ((ak x.path).2≠0→fE M x=(dR (ak x.path).2,M)):=fun h=>by
  have e:=lZ [x.path,x.ig] 0 x.path rfl (fun x hx=>by simp at hx) h;unfold fE;rw[HTX.o,e,if_pos h]
 have HSF:acs ((ak x.path).2=0→(ak x.ig).2≠0→fE M x=(dR (ak x.ig).2,M)):=fun h0 h=>by
  have e:=lZ [x.path,x.ig] 1 x.ig rfl (fun x hx=>by simp at hx;rw[hx];exact h0) h;unfold fE;rw[HTX.o,e,if_pos h]
 obtain⟨z0,-,-,-,-,-,-,-,-⟩:=HZ.o.cells;rcases uW.o with hk|hk
 all_goals as_aux_lemma=>
  rw[hk]at z0;go_wp2_with fail;refine(KA _ (by decide) _).mono ?_;rintro e w3 ⟨rfl,hb3⟩;have HR3:=acr (HR.o.grow hb3);have HZ3:=acr (HZ.o.grow hb3);have HB3:=acr (HB.o.trans (hb3.mono HB.o.size));clear HR HZ hb3;obtain⟨z0,z1,z2,z3,z4,z5,z6,z7,z8⟩:=HZ3.o.cells;rw[hk]at z0;go_wp2_with fail;refine(yu _ _ (by rw[fK];exact HX.o.wp)).mono ?_;rintro e w4 ⟨a0,n0,c0,ss0,rfl,VB,BN,Ms,hb0⟩;rw[show(strOf x.path).data.toList=x.path from rfl]at BN⊢;have HR4:=acr (HR3.o.grow hb0);have WV:=acr (HZ3.o.grow hb0);have SQ:=acr (fun h=>Nj h VB BN Ms);obtain⟨q0,hq0⟩:∃q0,q0=(ak x.path).1:=⟨_,rfl⟩;obtain⟨er,her⟩:∃er,er=(ak x.path).2:=⟨_,rfl⟩;rw[←her,←hq0]at SQ kG;rw[←her]at FU HSF⊢;clear VB BN Ms hb0 hq0 her HR3 HZ3;obtain⟨z0,z1,z2,z3,z4,z5,z6,z7,z8⟩:=WV.o.cells;rw[hk]at z0;by_cases hz:er=0
  ·have HN:=acr (SQ.o hz);have hz2:(er !=0)=false:=by simpa using hz
   have YP:=acr (kG.o hz);have YQ:=acr (HSF.o hz);clear hz SQ kG FU HSF;go_wp2_with fail;refine(yu _ _ (by rw[fK];exact HX.o.wq)).mono ?_;rintro e w5 ⟨a1,n1,c1,ss1,rfl,hlc1,Yt,hst1,hb1⟩;rw[show(strOf x.ig).data.toList=x.ig from rfl]at Yt⊢;have oM:=acr (HR4.o.grow hb1);have Vy:=acr (WV.o.grow hb1);have J6:=acr (NmS.below (B:=0) HN.o hb1);have HNT:=acr (fun h=>Nj h hlc1 Yt hst1);obtain⟨q1,hq1⟩:∃q1,q1=(ak x.ig).1:=⟨_,rfl⟩;obtain⟨es,hes⟩:∃es,es=(ak x.ig).2:=⟨_,rfl⟩;rw[←hes,←hq1]at HNT YP;rw[←hes]at YQ⊢;clear hlc1 Yt hst1 hb1 hq1 hes HR4 WV;obtain⟨z0,z1,z2,z3,z4,z5,z6,z7,z8⟩:=Vy.o.cells;rw[hk]at z0;by_cases hy:es=0
   ·have ES:=acr (HNT.o hy);have hy2:(es !=0)=false:=by simpa using hy
    have ko:=acr (YP.o hy);clear hy HNT YP YQ;obtain⟨t,c9,hT,htr⟩:=oM.o.xg;have uF:=acr htr;obtain⟨er2,T2,hsq,hcc⟩:∃er2 T2,f_ M x q0 q1=(dR er2,M.tr T2)∧((x.kind=7∧kW M.t q0 q1=(er2,T2))∨(x.kind=10∧eF M.t q0 q1=(er2,T2))):=by
     first
     |exact⟨_,_,by unfold f_;simp only[hk];rfl,.inl ⟨hk,rfl⟩⟩
     |exact⟨_,_,by unfold f_;simp only[hk];rfl,.inr ⟨hk,rfl⟩⟩
    have qF:=acr hsq;rcases hcc with⟨hk7,hc⟩|⟨hk10,hc⟩
    all_goals (
     first
     |(exfalso;omega)
     |(have HC:=acr (X8 hT oM.o.marks jO.o.t.1 a0 n0 c0 q0 a1 n1 c1 q1 J6.o.strs ES.o.strs ES.o.cap (by have:=ES.o.few;omega));rw[hc]at HC;clear hc hT htr hsq;go_wp2_with fail;(with_reducible refine HC.o.mono ?_))
     |(have HC:=acr (Rf hT oM.o.marks jO.o.t a0 n0 c0 q0 a1 n1 c1 q1 J6.o.strs ES.o.strs J6.o.cap (by have:=J6.o.few;omega) ES.o.cap (by have:=ES.o.few;omega));rw[hc]at HC;clear hc hT htr hsq;go_wp2_with fail;(with_reducible refine HC.o.mono ?_)))
    rintro e w6 ⟨rfl,o4,hs4,kK⟩;have HR6:=acr (uF.o _ _ _ hs4 kK).1;clear hs4 kK;go_wp2_with fail;refine(dI _ _).mono ?_;rintro e w9 ⟨rfl,eH⟩;unfold pz;have gQ:=acr (HR6.o.grow eH);clear eH;go_wp2_with (refine gQ.o.rep (dR er2) none none 0 0 ?_;intro w5 eU);exact gQ.o.je eU (ko.o.trans qF.o)
   ·have hy2:(es !=0)=true:=by simpa using hy
    have ko:=acr (YQ.o hy);clear hy HNT YP YQ;go_wp2_with fail;refine(dI _ _).mono ?_;rintro e w9 ⟨rfl,eH⟩;unfold pz;have gQ:=acr (oM.o.grow eH);clear eH;go_wp2_with (refine gQ.o.rep (dR es) none none 0 0 ?_;intro w5 eU);exact gQ.o.je eU (ko.o)
  ·have hz2:(er !=0)=true:=by simpa using hz
   have ko:=acr (FU.o hz);clear hz SQ kG FU HSF;go_wp2_with fail;refine(dI _ _).mono ?_;rintro e w9 ⟨rfl,eH⟩;unfold pz;have gQ:=acr (HR4.o.grow eH);clear eH;go_wp2_with (refine gQ.o.rep (dR er) none none 0 0 ?_;intro w5 eU);exact gQ.o.je eU (ko.o)
end
section
variable{W w:World}{o:Mark}{i p:Nat}{M:dQ}{cc:Int}
theorem Nl(x:jK)(hk:x.kind=4∨x.kind=5∨x.kind=6)(hi:0<i)(hS:j_ o i w p M)(hM:Marks W o w)(da:Option Addr)(dc:Nat)(hf:∀b,jF M x.fd b=none):
  Calls Tryz.prog 45 #[ptr p,.agg (opC x da dc)] w (uV o i (i+3) w p (f_ M x [] [])):=by
 have kG:=acr (RI hk hf);obtain⟨o1,w2,hw2,hr,hz,hb⟩:=jV hi (n:=i+3) ⟨by omega,by omega⟩ hS hM x da dc;have HW:=acr hw2;unfold opC jd dR at HW;dsimp only[List.length_nil]at HW;have HR:=acr hr;have HZ:=acr hz;have HB:=acr hb;have HI:=acr hi;have II:=acr hf;clear hk hf;clear hw2 hr hz hb hS hM hi;unfold opC;go_enter Tryz.func45,Tryz.ntmps45;go_upto_region 1 with(fail);rw[←HW.o];clear HW;obtain⟨-,-,-,z3,-,-,-,-,-⟩:=HZ.o.cells;have rz:=acr (HR.o.grow acv.drew);by_cases h0:x.fd<0
 ·have hd0:decide (x.fd<0)=true:=by simpa using h0
  go_wp2_with fail;refine BP ((fun w'=>w'.cell? ⟨w.heap.size,3,none⟩=some (.int .i64 x.fd))) ?_ fun hS=> ?_
  ·exact z3
  refine aX 0 hS ?_;refine aX 1 hS ?_;refine aX 2 hS ?_;refine aX 3 hS ?_;refine oq 4 hS ?_;refine oq 5 hS ?_;refine oq 6 hS ?_;refine aX 7 hS ?_;refine aX 8 hS ?_;refine oq 9 hS ?_;refine oq 10 hS ?_;refine oq 11 hS ?_;refine oq 12 hS ?_;refine oq 13 hS ?_;refine oq 14 hS ?_;refine oq 15 hS ?_;refine oq 16 hS ?_;refine oq 17 hS ?_;refine aX 18 hS ?_;refine Bn ?_;go_wp2_with fail;refine(dI _ _).mono ?_;rintro e w9 ⟨rfl,eH⟩;unfold pz;have gQ:=acr (rz.o.grow eH);clear eH;go_wp2_with (refine gQ.o.rep (dR 26) none none 0 0 ?_;intro w5 eU);exact gQ.o.je eU (kG.o)
 ·have hd0:decide (x.fd<0)=false:=by simpa using h0
  by_cases h8:8≤x.fd
  ·have hd8:decide (8≤x.fd)=true:=by simpa using h8
   go_wp2_with fail;refine BP ((fun w'=>w'.cell? ⟨w.heap.size,3,none⟩=some (.int .i64 x.fd))) ?_ fun hS=> ?_
   ·exact z3
   refine aX 0 hS ?_;refine aX 1 hS ?_;refine aX 2 hS ?_;refine aX 3 hS ?_;refine aX 4 hS ?_;refine aX 5 hS ?_;refine aX 6 hS ?_;refine aX 7 hS ?_;refine aX 8 hS ?_;refine oq 9 hS ?_;refine oq 10 hS ?_;refine oq 11 hS ?_;refine oq 12 hS ?_;refine oq 13 hS ?_;refine oq 14 hS ?_;refine oq 15 hS ?_;refine oq 16 hS ?_;refine oq 17 hS ?_;refine aX 18 hS ?_;refine Bn ?_;go_wp2_with fail;refine(dI _ _).mono ?_;rintro e w9 ⟨rfl,eH⟩;unfold pz;have gQ:=acr (rz.o.grow eH);clear eH;go_wp2_with (refine gQ.o.rep (dR 26) none none 0 0 ?_;intro w5 eU);exact gQ.o.je eU (kG.o)
  ·have hd8:decide (8≤x.fd)=false:=by simpa using h8
   obtain⟨k,hk⟩:∃k:Nat,x.fd=k:=⟨x.fd.toNat,by omega⟩;have hk8:k<8:=by omega
   obtain⟨t,s,v,h1,-,-,h4⟩:=HR.o.st.at_;obtain⟨-,-,-,c3,-⟩:=jZ h1;obtain⟨d0,-,-⟩:=c3 k hk8;have Zp:=h4 k hk8;have hnone:M.fds k=none:=by
    have h9:=fun b=>II.o b;cases hm:M.fds k with
    |none=>rfl
    |some f=>
     have h10:=h9 f.wr;rw[hk,Ku hk8,hm]at h10;simp at h10
   rw[hnone]at Zp;rw[Zp.1]at d0;rw[hk]at z3 hd0 hd8;have i0:(0:Int)≤k:=by omega
   have i1:(k:Int)<8:=by omega
   clear h1 h4 c3 Zp hnone h0 h8;go_wp2_with fail;refine BP ((fun w'=>w'.cell? ⟨w.heap.size,3,none⟩=some (.int .i64 k)∧w'.cell? ⟨p,3+k*3,none⟩=some (.int .i64 0))) ?_ fun hS=> ?_
   ·exact⟨z3,d0⟩
   refine aX 0 hS ?_;refine aX 1 hS ?_;refine aX 2 hS ?_;refine aX 3 hS ?_;refine aX 4 hS ?_;refine aX 5 hS ?_;refine aX 6 hS ?_;refine aX 7 hS ?_;refine aX 8 hS ?_;refine aX 9 hS ?_;refine aX 10 hS ?_;refine aX 11 hS ?_;refine aX 12 hS ?_;refine aX 13 hS ?_;refine aX 14 hS ?_;refine aX 15 hS ?_;refine aX 16 hS ?_;refine aX 17 hS ?_;refine aX 18 hS ?_;refine Bn ?_;go_wp2_with fail;refine(dI _ _).mono ?_;rintro e w9 ⟨rfl,eH⟩;unfold pz;have gQ:=acr (rz.o.grow eH);clear eH;go_wp2_with (refine gQ.o.rep (dR 26) none none 0 0 ?_;intro w5 eU);exact gQ.o.je eU (kG.o)
end
section
variable{W w:World}{o:Mark}{i p:Nat}{M:dQ}{cc:Int}
theorem YR(x:jK)(hx:nN x)(hk:x.kind=4∨x.kind=5∨x.kind=6)(hi:0<i)(hS:j_ o i w p M)(hM:Marks W o w)(hok:fQ cc M)(da:Option Addr)(dc:Nat)(hda:ah (Free o w) w da x.data.length (x.data.map bv))(hdl:x.data.length≤1000000):
  Calls Tryz.prog 45 #[ptr p,.agg (opC x da dc)] w (uV o i (i+3) w p (f_ M x [] [])):=by
 by_cases hno:∀b,jF M x.fd b=none
 ·exact Nl x hk hi hS hM da dc hno
 obtain⟨k,hk8,yM,f,hf⟩:∃k:Nat,k<8∧x.fd=k∧∃f,M.fds k=some f:=by
  refine abw fun hn=>hno fun b=> ?_;unfold jF;split
  ·rename_i h;cases hm:M.fds x.fd.toNat with
   |none=>rfl
   |some f=>exact absurd ⟨x.fd.toNat,by omega,by omega,f,hm⟩ hn
  ·rfl
 have hg:∀b,jF M x.fd b=if f.wr=b then some f else none:=fun b=>by rw[yM,Ku hk8,hf]
 have HG:=acr hg;have vC:=acr hdl;clear hno hg hdl;obtain⟨o1,w2,hw2,hr,hz,hb⟩:=jV hi (n:=i+3) ⟨by omega,by omega⟩ hS hM x da dc;have HW:=acr hw2;unfold opC jd dR at HW;dsimp only[List.length_nil]at HW;have HR:=acr hr;have HZ:=acr hz;have HB:=acr hb;have HI:=acr hi;have HX:=acr hx;have uW:=acr hk;have jO:=acr hok;have uT:=acr hda;have HFK:=acr hf;have II:=acr yM;clear hx hk hok hda hf yM;clear hw2 hr hz hb hS hM hi;unfold opC;go_enter Tryz.func45,Tryz.ntmps45;go_upto_region 1 with(fail);rw[←HW.o];clear HW;obtain⟨-,-,-,z3,-,-,-,-,-⟩:=HZ.o.cells;rw[II.o]at z3;obtain⟨t,s,v,h1,-,-,h4⟩:=HR.o.st.at_;obtain⟨-,-,-,c3,-⟩:=jZ h1;obtain⟨d0,d1,d2⟩:=c3 k hk8;have Zp:=h4 k hk8;rw[HFK.o]at Zp;obtain⟨e0,e1,fa,fc,e2,hfc,hfr⟩:=Zp;rw[e0]at d0;rw[e1]at d1;rw[e2]at d2;have HFR:=acr hfr;have HFC:=acr hfc;obtain⟨fl,hfl⟩:∃fl,fl=f.b.length:=⟨_,rfl⟩;rw[←hfl]at d2;have E5:=acr hfl;have hnz:(cond f.wr (1:Int) 2==0)=false:=by cases f.wr<;>rfl
 have hd0:decide ((k:Int)<0)=false:=by simp
 have hd8:decide (8≤(k:Int))=false:=by simp;omega
 have i0:(0:Int)≤k:=by omega
 have i1:(k:Int)<8:=by omega
 clear h1 h4 c3 e0 e1 e2 hfc hfr hfl;go_wp2_with fail;refine BP ((fun w'=>w'.cell? ⟨w.heap.size,3,none⟩=some (.int .i64 k)∧w'.cell? ⟨p,3+k*3,none⟩=some (.int .i64 (cond f.wr 1 2)))) ?_ fun hS=> ?_
 ·exact⟨z3,d0⟩
 refine aX 0 hS ?_;refine aX 1 hS ?_;refine aX 2 hS ?_;refine aX 3 hS ?_;refine aX 4 hS ?_;refine aX 5 hS ?_;refine aX 6 hS ?_;refine aX 7 hS ?_;refine aX 8 hS ?_;refine aX 9 hS ?_;refine aX 10 hS ?_;refine aX 11 hS ?_;refine aX 12 hS ?_;refine aX 13 hS ?_;refine aX 14 hS ?_;refine aX 15 hS ?_;refine aX 16 hS ?_;refine aX 17 hS ?_;refine aX 18 hS ?_;refine Bn ?_;have hfld:∀w':World,w'.cell? ⟨p,3+k*3,none⟩=some (.int .i64 (cond f.wr 1 2))→w'.cell? ⟨p,3+k*3+1,none⟩=some (.int .i64 f.id)→w'.cell? ⟨p,3+k*3+2,none⟩=some (.slice fa fl fc)→(Instr.loadAt 63 (.pointer (some ⟨p,3+k*3,none⟩))).run Tryz.prog w'= .ok (.agg #[.int .i64 (cond f.wr 1 2),.int .i64 f.id,.slice fa fl fc]) w':=fun w' q0 q1 q2=>YL q0 q1 q2;have Lj:acs (Below w2.heap.size w2 w2.drew.drew):=acv.drew.trans acv.drew;go_wp2_with fail;refine wQ 8 ((fun w'=>w'.cell? ⟨w.heap.size,3,none⟩=some (.int .i64 k)∧w'.cell? ⟨p,3+k*3,none⟩=some (.int .i64 (cond f.wr 1 2))∧w'.cell? ⟨p,3+k*3+1,none⟩=some (.int .i64 f.id)∧w'.cell? ⟨p,3+k*3+2,none⟩=some (.slice fa fl fc))) ?_ fun hS=> ?_
 ·exact⟨z3,d0,d1,d2⟩
 refine aC 0 hS ?_;refine aC 1 hS ?_;refine aC 2 hS ?_;refine aC 3 hS ?_;refine aC 4 hS ?_;refine aC 5 hS ?_;refine aC 6 hS ?_;refine bU 7 fun K hK=> ?_;go_simp;have Om:=wall w2.drew.drew (.cells #[.int .i64 0,.int .i64 0,.slice none 0 0] 63);have hga:=(MapKept.heap_alloc w2.drew.drew (.cells #[.int .i64 0,.int .i64 0,.slice none 0 0] 63)).1;have HWA:=acr Om;have HGA:=acr hga;have Bb:acs ((w2.drew.drew.alloc (.cells #[.int .i64 0,.int .i64 0,.slice none 0 0] 63)).cell? ⟨w.heap.size,3,none⟩=some (.int .i64 k)∧(w2.drew.drew.alloc (.cells #[.int .i64 0,.int .i64 0,.slice none 0 0] 63)).cell? ⟨p,3+k*3,none⟩=some (.int .i64 (cond f.wr 1 2))∧(w2.drew.drew.alloc (.cells #[.int .i64 0,.int .i64 0,.slice none 0 0] 63)).cell? ⟨p,3+k*3+1,none⟩=some (.int .i64 f.id)∧(w2.drew.drew.alloc (.cells #[.int .i64 0,.int .i64 0,.slice none 0 0] 63)).cell? ⟨p,3+k*3+2,none⟩=some (.slice fa fl fc)):=⟨(Om.cell (aaj w2 _ z3)).trans z3,(Om.cell (aaj w2 _ d0)).trans d0,(Om.cell (aaj w2 _ d1)).trans d1,(Om.cell (aaj w2 _ d2)).trans d2⟩;clear Om hga z3 d0 d1 d2;refine bV hK (Bb.o) fun hS=> ?_;clear hK K;refine bU 8 fun K hK=> ?_;refine qy rfl 63 _ _ rfl w2.heap.size #[.int .i64 (cond f.wr 1 2),.int .i64 f.id,.slice fa fl fc] rfl rfl _ HGA.o Ij rfl (by simp[Value.oneCell']) ?_;intro w3 hs3;have hb3:Below w2.heap.size w2 w3:=hs3.below (Lj.o.trans HWA.o) acu;have hg3:=hs3.1;have HR3:=acr (HR.o.grow hb3);have HZ3:=acr (HZ.o.grow hb3);obtain⟨g5,hg5⟩:∃g5,g5=w2.heap.size:=⟨_,rfl⟩;rw[←hg5]at hg3;have HG5:acs (o1 g5=0∧g5<w3.heap.size):=⟨Decidable.byContradiction fun h0=>by have:=(HR.o.marks.new g5 h0).2;omega,(iL.1 hg3).1⟩;have HFR3:=acr (HFR.o.wM hb3);have Fp:acs (ah (Free o1 w3) w3 da x.data.length (x.data.map bv)):=acr (uT.o.move (aax HB.o.size hb3.size) fun b hb hbw=>⟨⟨(HR.o.step.old b hbw).trans hb.1,Nat.lt_of_lt_of_le hbw (aax HB.o.size hb3.size)⟩,(hb3.block b (Nat.lt_of_lt_of_le hbw HB.o.size)).trans (HB.o.block b hbw)⟩);clear hs3 hb3 Bb HWA HGA Lj HR HZ HFR uT hfld;refine nk hK ?_;clear hS hK K;rw[←hg5];clear hg5;have n0:w3.cell? ⟨g5,0,none⟩=some (.int .i64 (cond f.wr 1 2)):=by simp[World.cell?,hg3]
 have n1:w3.cell? ⟨g5,1,none⟩=some (.int .i64 f.id):=by simp[World.cell?,hg3]
 have n2:w3.cell? ⟨g5,2,none⟩=some (.slice fa fl fc):=by simp[World.cell?,hg3]
 obtain⟨z0,-,-,z3,z4,z5,z6,-,z8⟩:=HZ3.o.cells;rw[II.o]at z3;obtain⟨t,c0,hT,htr⟩:=HR3.o.xg;have uF:=acr htr;have HT:=acr hT;have kG:=acr (OX (M:=M) uW.o);clear hg3 hT htr;rcases uW.o with hk|hk|hk
 ·as_aux_lemma=>
  rw[hk]at z0;have hs4:f_ M x [] []=(Dz M x,M):=by rw[kG.o,if_pos hk]
  unfold Dz at hs4;rw[HG.o]at hs4;cases hw:f.wr with
  |true=>
   rw[hw,if_neg (by simp)]at hs4;rw[hw]at n0;have n0':w3.cell? ⟨g5,0,none⟩=some (.int .i64 1):=n0;have qM:=acr hs4;clear hs4 n0 hk hw;go_wp2_with fail;refine(dI _ _).mono ?_;rintro e w9 ⟨rfl,eH⟩;unfold pz;have gQ:=acr (HR3.o.grow eH);clear eH;go_wp2_with (refine gQ.o.rep (dR 26) none none 0 0 ?_;intro w5 eU);exact gQ.o.je eU (qM.o)
  |false=>
   rw[hw,if_pos rfl]at hs4;rw[hw]at n0;have n0':w3.cell? ⟨g5,0,none⟩=some (.int .i64 2):=n0;have qM:acs (f_ M x [] []=(⟨A_ x.at_ x.n,(qV f.b x.at_ x.n).length,qV f.b x.at_ x.n,[],none⟩,M)):=acr hs4;clear hs4 n0 hk hw;by_cases hA:x.at_<0
   ·have hA2:decide (x.at_<0)=true:=by simpa using hA
    have qF:acs (f_ M x [] []=(dR 1,M)):=by
     show _=_;rw[qM.o];unfold A_ qV;rw[if_pos (.inl hA),if_pos (.inl hA)];rfl
    clear hA;go_wp2_with fail;refine(dI _ _).mono ?_;rintro e w9 ⟨rfl,eH⟩;unfold pz;have gQ:=acr (HR3.o.grow eH);clear eH;go_wp2_with (refine gQ.o.rep (dR 1) none none 0 0 ?_;intro w5 eU);exact gQ.o.je eU (qF.o)
   ·have hA2:decide (x.at_<0)=false:=by simpa using hA
    by_cases hN:x.n<0
    ·have hN2:decide (x.n<0)=true:=by simpa using hN
     have qF:acs (f_ M x [] []=(dR 1,M)):=by
      show _=_;rw[qM.o];unfold A_ qV;rw[if_pos (.inr hN),if_pos (.inr hN)];rfl
     clear hA hN;go_wp2_with fail;refine(dI _ _).mono ?_;rintro e w9 ⟨rfl,eH⟩;unfold pz;have gQ:=acr (HR3.o.grow eH);clear eH;go_wp2_with (refine gQ.o.rep (dR 1) none none 0 0 ?_;intro w5 eU);exact gQ.o.je eU (qF.o)
    ·have hN2:decide (x.n<0)=false:=by simpa using hN
     obtain⟨A,hAe⟩:∃A:Nat,x.at_=A:=⟨x.at_.toNat,by omega⟩;obtain⟨N,hNe⟩:∃N:Nat,x.n=N:=⟨x.n.toNat,by omega⟩;have qF:acs (f_ M x [] []=(⟨0,((f.b.drop A).take N).length,(f.b.drop A).take N,[],none⟩,M)):=by
      show _=_;rw[qM.o];unfold A_ qV;rw[if_neg (by omega),if_neg (by omega),hAe,hNe,aa2,aa2]
     rw[hAe]at z4 hA2;rw[hNe]at z5 hN2;clear hA hN hAe hNe;by_cases hl:fl≤A
     ·have hl2:decide (fl≤A)=true:=by simpa using hl
      have hl3:decide ((fl:Int)≤(A:Int))=true:=by simp;omega
      have HE:acs ((f.b.drop A).take N=[]):=by
       show(f.b.drop A).take N=[];rw[aaC (by rw[←E5.o];exact hl),List.take_nil]
      clear hl;go_wp2_with (refine HR3.o.rep (dR 0) none none 0 0 ?_;intro w5 eU);exact HR3.o.je eU (qF.o.trans (by rw[HE.o];rfl))
     ·have hl2:decide (fl≤A)=false:=by simpa using hl
      have hl3:decide ((fl:Int)≤(A:Int))=false:=by simp;omega
      have hrow:=HFR3.o;rw[←E5.o]at hrow;have hcap:=HFC.o;rw[←E5.o]at hcap;obtain⟨b2,off2,rfl,-,-,-⟩:=hrow.at_ (by omega);have hca:¬fc=A:=by omega
      have j2:(0:Int)≤(A:Int):=by omega
      have j3:(A:Int)≤(fl:Int):=by omega
      have j4:(fl:Int)≤(fc:Int):=by omega
      have lg:=acr hrow;clear hl hrow;by_cases hn:N<fl-A
      ·have hn2:decide (N<fl-A)=true:=by simpa using hn
       have TL:decide ((N:Int)<((fl-A:Nat):Int))=true:=by simp;omega
       have j5:(0:Int)≤(N:Int):=by omega
       have j6:(N:Int)≤((fc-A:Nat):Int):=by omega
       have vC:acs (((f.b.drop A).take N).length=N):=by
        show _=_;rw[List.length_take,List.length_drop,←E5.o];omega
       have hNl:N≤fl-A:=by omega
       clear hn;go_wp2_with (refine HR3.o.rep ⟨0,N,(f.b.drop A).take N,[],none⟩ (some ⟨b2,off2+A,none⟩) none (fc-A) 0 ?_ (hy:=by unfold jd;rw[vC.o];rfl);intro w5 eU);exact HR3.o.ret eU (qF.o.trans (by rw[vC.o])) ⟨by rw[vC.o];omega,Nat.le_refl _,by
        rw[vC.o,aa3,abW];have:=(lg.o.drop A).take N
        rwa [show min (fl-A) N=N by omega]at this,mV _ _⟩
      ·have hn2:decide (N<fl-A)=false:=by simpa using hn
       have TL:decide ((N:Int)<((fl-A:Nat):Int))=false:=by simp;omega
       have HDE:acs ((f.b.drop A).take N=f.b.drop A):=by
        show _=_;rw[List.take_of_length_le (by rw[List.length_drop,←E5.o];omega)]
       have vC:acs ((f.b.drop A).length=fl-A):=by
        show _=_;rw[List.length_drop,←E5.o]
       clear hn;go_wp2_with (refine HR3.o.rep ⟨0,(fl-A:Nat),f.b.drop A,[],none⟩ (some ⟨b2,off2+A,none⟩) none (fc-A) 0 ?_ (hy:=by unfold jd;rw[vC.o];rfl);intro w5 eU);exact HR3.o.ret eU (qF.o.trans (by rw[HDE.o,vC.o])) ⟨by rw[vC.o];omega,Nat.le_refl _,by
        rw[vC.o,abW];exact lg.o.drop A,mV _ _⟩
 ·as_aux_lemma=>
  rw[hk]at z0;have hs4:f_ M x [] []=iY M x:=by rw[kG.o,if_neg (by omega),if_pos hk]
  unfold iY at hs4;rw[HG.o]at hs4;cases hw:f.wr with
  |false=>
   rw[hw,if_neg (by simp)]at hs4;rw[hw]at n0;have n0':w3.cell? ⟨g5,0,none⟩=some (.int .i64 2):=n0;have qM:=acr hs4;clear hs4 n0 hk hw;go_wp2_with fail;refine(dI _ _).mono ?_;rintro e w9 ⟨rfl,eH⟩;unfold pz;have gQ:=acr (HR3.o.grow eH);clear eH;go_wp2_with (refine gQ.o.rep (dR 26) none none 0 0 ?_;intro w5 eU);exact gQ.o.je eU (qM.o)
  |true=>
   rw[hw,if_pos rfl]at hs4;rw[hw]at n0;have n0':w3.cell? ⟨g5,0,none⟩=some (.int .i64 1):=n0;have HSW:=acr hs4;clear hs4 n0 hk hw;obtain⟨dl,hdl⟩:∃dl,dl=x.data.length:=⟨_,rfl⟩;rw[←hdl]at z8;have HDE:=acr hdl;clear hdl;by_cases h6:600<dl
   ·have h62:decide (600<dl)=true:=by simpa using h6
    have h63:decide ((600:Int)<(dl:Int))=true:=by simp;omega
    have qF:=acr (HSW.o.trans (if_pos (by rw[←HDE.o];exact h6)));clear h6;go_wp2_with fail;refine(dI _ _).mono ?_;rintro e w9 ⟨rfl,eH⟩;unfold pz;have gQ:=acr (HR3.o.grow eH);clear eH;go_wp2_with (refine gQ.o.rep (dR 3) none none 0 0 ?_;intro w5 eU);exact gQ.o.je eU (qF.o)
   ·have h62:decide (600<dl)=false:=by simpa using h6
    have h63:decide ((600:Int)<(dl:Int))=false:=by simp;omega
    have qF:=acr (HSW.o.trans (if_neg (by rw[←HDE.o];exact h6)));have rz:=acr (HR3.o.grow acv.drew);have HZD:=acr (HZ3.o.grow acv.drew);obtain⟨t',c0',hT',VD⟩:=rz.o.xg;obtain rfl:t=t':=by
     have e:w3.cell? ⟨p,0,none⟩=some (ptr t'):=c0';rw[c0]at e;simpa[ptr]using e
    have HC:=acr (Rh (S:=Free o1 w3.drew) hT' rz.o.marks (by omega) jO.o.t.1 f.id da dl dc x.data (by rw[HDE.o];exact Fp.o.wM acv.drew) (fun b hb=>hb.1) (by rw[HDE.o];exact vC.o));obtain⟨mm,hmm⟩:∃mm,mm=cK M.t f.id x.data:=⟨_,rfl⟩;rw[←hmm]at HC qF;replace uF:=acr VD;clear h6 hmm hT' VD c0';go_wp2_with fail;refine BP ((fun w'=>w'.cell? ⟨p,0,none⟩=some (ptr t)∧w'.cell? ⟨g5,1,none⟩=some (.int .i64 f.id)∧w'.cell? ⟨w.heap.size,8,none⟩=some (.slice da dl dc))) ?_ fun hS=> ?_
    ·exact⟨c0,n1,z8⟩
    refine aX 0 hS ?_;refine aX 1 hS ?_;refine aX 2 hS ?_;refine aX 3 hS ?_;refine aX 4 hS ?_;refine aX 5 hS ?_;refine aX 6 hS ?_;refine aX 7 hS ?_;refine Bl 8 fun K hK=> ?_;go_simp;refine HC.o.mono ?_;rintro e w4 ⟨rfl,o4,hs4,kK⟩;obtain⟨hr4,Fg⟩:=uF.o _ _ _ hs4 kK;have HR4:=acr hr4;have WV:=acr (HZD.o.step (by simp) hs4);have hg5:w4.heap[g5]? =w3.heap[g5]? :=hs4.block HG5.o.2 (by rw[HG5.o.1];omega);have qM:acs (w4.cell? ⟨p,0,none⟩=some (ptr t)∧w4.cell? ⟨g5,1,none⟩=some (.int .i64 f.id)∧w4.cell? ⟨w.heap.size,8,none⟩=some (.slice da dl dc)):=by
     refine⟨?_,?_,?_⟩
     ·have:w4.heap[p]? =w3.heap[p]? :=Fg;simp only[World.cell?,this]at c0⊢;exact c0
     ·simp only[World.cell?,hg5]at n1⊢;exact n1
     ·obtain⟨y0,y1,y2,y3,y4,y5,y6,y7,y8⟩:=WV.o.cells;rw[←HDE.o]at y8;exact y8
    clear hr4 Fg hs4 kK hg5 HC uF;go_wp2_with fail;refine Ag hK (qM.o) fun hS=> ?_;clear hK K;refine aX 9 hS ?_;refine Bn ?_;by_cases hz:mm.1=0
    ·have BQ:=acr hz;have hz2:(mm.1 !=0)=false:=by simpa using hz
     clear hz;go_wp2_with (refine HR4.o.rep ⟨0,dl,[],[],none⟩ none none 0 0 ?_;intro w5 eU);exact HR4.o.je eU (qF.o.trans (by rw[if_neg (fun h=>h BQ.o),←HDE.o];rfl))
    ·have BQ:=acr hz;have hz2:(mm.1 !=0)=true:=by simpa using hz
     clear hz;go_wp2_with fail;refine(dI _ _).mono ?_;rintro e w9 ⟨rfl,eH⟩;unfold pz;have gQ:=acr (HR4.o.grow eH);clear eH;go_wp2_with (refine gQ.o.rep (dR mm.1) none none 0 0 ?_;intro w5 eU);exact gQ.o.je eU (qF.o.trans (by rw[if_pos BQ.o];rfl))
 ·as_aux_lemma=>
  rw[hk]at z0;have hs4:f_ M x [] []=tJ (iZ M x):=by rw[kG.o,if_neg (by omega),if_neg (by omega)]
  unfold iZ at hs4;rw[HG.o,HG.o]at hs4;have hPUT:∀(o4:Mark) (w4:World) (M':dQ),sM W o i (i+3) w p (w.heap.size+1) o4 w4 M'→w4.there p (3+k*3) 3∧sM W o i (i+3) w p (w.heap.size+1) o4 (w4.setCells p (3+k*3) [.int .i64 0,.int .i64 0,.slice none 0 0]) (M'.put k none):=fun o4 w4 M' h=>h.put k hk8 _ _ _ none ⟨rfl,rfl,rfl⟩;have og:=acr hPUT;clear hPUT;cases hw:f.wr with
  |false=>
   rw[hw,if_neg (by simp),if_pos rfl]at hs4;rw[hw]at n0;have n0':w3.cell? ⟨g5,0,none⟩=some (.int .i64 2):=n0;have qM:acs (f_ M x [] []=(dR 0,M.put k none)):=acr (hs4.trans (by rw[II.o];rfl));have HP5:=acr (og.o _ _ _ (HR3.o.grow acv.drew));clear hs4 n0 hk hw;go_wp2_with fail;refine wQ 7 ((fun w'=>w'.cell? ⟨w.heap.size,3,none⟩=some (.int .i64 k))) ?_ fun hS=> ?_
   ·exact z3
   refine aC 0 hS ?_;refine aC 1 hS ?_;refine aC 2 hS ?_;refine aC 3 hS ?_;refine aC 4 hS ?_;refine aC 5 hS ?_;refine aC 6 hS ?_;refine bU 7 fun K hK=> ?_;refine vS rfl 63 _ _ rfl p (3+k*3) #[.int .i64 0,.int .i64 0,.slice none 0 0] rfl rfl HP5.o.1 Ij (by simp[Value.oneCell']) ?_;refine nk hK ?_;clear hS hK K;go_wp2_with (refine HP5.o.2.rep (dR 0) none none 0 0 ?_;intro w5 eU);exact HP5.o.2.je eU qM.o
  |true=>
   rw[hw,if_pos rfl]at hs4;rw[hw]at n0;have n0':w3.cell? ⟨g5,0,none⟩=some (.int .i64 1):=n0;have qF:acs (f_ M x [] []=tJ (if (dY M.t f.id x.aF).1≠0 then((dY M.t f.id x.aF).1,M.tr (dY M.t f.id x.aF).2)else(0,dQ.put (M.tr (dY M.t f.id x.aF).2) x.fd.toNat none))):=acr hs4;have rz:=acr (HR3.o.grow acv.drew);have HZD:=acr (HZ3.o.grow acv.drew);obtain⟨t',c0',hT',VD⟩:=rz.o.xg;obtain rfl:t=t':=by
    have e:w3.cell? ⟨p,0,none⟩=some (ptr t'):=c0';rw[c0]at e;simpa[ptr]using e
   have HC:=acr (X9 hT' rz.o.marks jO.o.t.1 f.id x.aF HX.o.wt);obtain⟨mm,hmm⟩:∃mm,mm=dY M.t f.id x.aF:=⟨_,rfl⟩;rw[←hmm]at HC qF;replace uF:=acr VD;clear hs4 n0 hk hw hmm hT' VD c0';go_wp2_with fail;refine BP ((fun w'=>w'.cell? ⟨p,0,none⟩=some (ptr t)∧w'.cell? ⟨g5,1,none⟩=some (.int .i64 f.id)∧w'.cell? ⟨w.heap.size,6,none⟩=some (.int .u64 x.aF))) ?_ fun hS=> ?_
   ·exact⟨c0,n1,z6⟩
   refine aX 0 hS ?_;refine aX 1 hS ?_;refine aX 2 hS ?_;refine aX 3 hS ?_;refine aX 4 hS ?_;refine aX 5 hS ?_;refine aX 6 hS ?_;refine aX 7 hS ?_;refine Bl 8 fun K hK=> ?_;go_simp;refine HC.o.mono ?_;rintro e w4 ⟨rfl,o4,hs4,kK⟩;obtain⟨hr4,Fg⟩:=uF.o _ _ _ hs4 kK;have HR4:=acr hr4;have WV:=acr (HZD.o.step (by simp) hs4);have hg5:w4.heap[g5]? =w3.heap[g5]? :=hs4.block HG5.o.2 (by rw[HG5.o.1];omega);have qM:acs (w4.cell? ⟨p,0,none⟩=some (ptr t)∧w4.cell? ⟨g5,1,none⟩=some (.int .i64 f.id)∧w4.cell? ⟨w.heap.size,6,none⟩=some (.int .u64 x.aF)):=by
    refine⟨?_,?_,?_⟩
    ·have:w4.heap[p]? =w3.heap[p]? :=Fg;simp only[World.cell?,this]at c0⊢;exact c0
    ·simp only[World.cell?,hg5]at n1⊢;exact n1
    ·obtain⟨y0,y1,y2,y3,y4,y5,y6,y7,y8⟩:=WV.o.cells;exact y6
   clear hr4 Fg hs4 kK hg5 HC uF;go_wp2_with fail;refine Ag hK (qM.o) fun hS=> ?_;clear hK K;refine aX 9 hS ?_;refine Bn ?_;by_cases hz:mm.1=0
   ·have BQ:=acr hz;have hz2:(mm.1 !=0)=false:=by simpa using hz
    clear hz;have HP5:=acr (og.o _ _ _ (HR4.o.grow acv.drew));obtain⟨-,-,-,y3,-,-,-,-,-⟩:=WV.o.cells;rw[II.o]at y3;go_wp2_with fail;refine wQ 7 ((fun w'=>w'.cell? ⟨w.heap.size,3,none⟩=some (.int .i64 k))) ?_ fun hS=> ?_
    ·exact y3
    refine aC 0 hS ?_;refine aC 1 hS ?_;refine aC 2 hS ?_;refine aC 3 hS ?_;refine aC 4 hS ?_;refine aC 5 hS ?_;refine aC 6 hS ?_;refine bU 7 fun K hK=> ?_;refine vS rfl 63 _ _ rfl p (3+k*3) #[.int .i64 0,.int .i64 0,.slice none 0 0] rfl rfl HP5.o.1 Ij (by simp[Value.oneCell']) ?_;refine nk hK ?_;clear hS hK K;go_wp2_with (refine HP5.o.2.rep (dR 0) none none 0 0 ?_;intro w5 eU);exact HP5.o.2.je eU (qF.o.trans (by rw[if_neg (fun h=>h BQ.o),II.o];rfl))
   ·have BQ:=acr hz;have hz2:(mm.1 !=0)=true:=by simpa using hz
    clear hz;go_wp2_with fail;refine(dI _ _).mono ?_;rintro e w9 ⟨rfl,eH⟩;unfold pz;have gQ:=acr (HR4.o.grow eH);clear eH;go_wp2_with (refine gQ.o.rep (dR mm.1) none none 0 0 ?_;intro w5 eU);exact gQ.o.je eU (qF.o.trans (by rw[if_pos BQ.o];rfl))
end
end Go.Proofs.YtjnhnlabpccgjaaGreatDoor
