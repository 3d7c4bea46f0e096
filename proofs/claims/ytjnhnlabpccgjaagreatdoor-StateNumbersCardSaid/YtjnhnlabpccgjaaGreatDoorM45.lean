/-  -/
import Derived.Test.YtjnhnlabpccgjaaGreatDoorM44
set_option maxRecDepth 100000
set_option maxHeartbeats 64000000
set_option linter.all false
namespace Go.Proofs.YtjnhnlabpccgjaaGreatDoor
open Go.ChangeShapes Go.WideShapes Go.ChangeAt Go.RowKit
section
variable{W w:World}{o:Mark}{i p:Nat}{M:dS}{cc:Int}
theorem YG{S:Nat→Prop}(x:jD)(hx:lY x)(hk:x.kind=8∨x.kind=13)(hi:0<i)(hS:kT o i w p M)(hM:Marks W o w)(hok:gK cc M)(da:Option Addr)(dc:Nat)(a:Option Addr)(n c:Nat)(ls:List Nm)(hls:aK S w a n (ls.map strOf))(hnc:n≤c)(lF:n≤1000000):
  Calls Tryz.prog 49 #[ptr p,.agg (opC x da dc),.slice a n c] w (uZ o i (i+3) w p (gH M x ls [])):=by
 obtain⟨o1,w2,hw2,hr,hz,hb⟩:=kN hi (n:=i+3) ⟨by omega,by omega⟩ hS hM x da dc;have HW:=acA hw2;unfold opC eu bR at HW;dsimp only[List.length_nil]at HW;have HR:=acA hr;have HZ:=acA hz;have HB:=acA hb;have HI:=acA hi;have K5:=acA (hls.below hb acC);have iM:=acA hok;have u_:=acA hk;have HX:=acA hx;have HN:=acA (And.intro hnc lF);clear hls hok hk hx hnc lF;clear hw2 hr hz hb hS hM hi;unfold opC;go_enter Tryz.func49,Tryz.ntmps49;go_upto_region 1 with(fail);rw[←HW.o];clear HW;have fq:=acA (QV (M:=M) (ls:=ls) u_.o);obtain⟨t,c0,hT,-⟩:=HR.o.qQ;have tY:=acA (hT.tree iM.o.t.1);obtain⟨ki,hki⟩:∃ki,ki=(aQ M.t ls).1:=⟨_,rfl⟩;obtain⟨ke,hke⟩:∃ke,ke=(aQ M.t ls).2:=⟨_,rfl⟩;have mg:=acA (tY.o.look a n c ls K5.o);rw[←hki,←hke]at mg;have Yq:=acA hki;have YF:=acA hke;clear hki hke hT;go_wp2_with fail;refine mg.o.mono ?_;rintro e w5 ⟨rfl,hb5⟩;have mP:=acA (HR.o.grow hb5);have JM:=acA (HZ.o.grow hb5);have zK:=acA (tY.o.grow hb5);have HLS5:=acA (K5.o.below hb5 acC);replace c0:=(hb5.cell (aag w2 _ c0)).trans c0;clear hb5 mg;by_cases hz:ke=0
 ·have BQ:=acA hz;have hz2:(ke !=0)=false:=by simpa using hz
  have hl0:(aQ M.t ls).2=0:=YF.o.symm.trans hz;obtain⟨y,hy,hyk⟩:=Ef iM.o.t.1 hl0;have uT:=acA (zK.o.node ki);obtain⟨x0,x1,x2,x3,x4,x5,hnm,-,hcase⟩:=AV M.t ki;rw[hnm]at uT;have hcs:x1=y.kind∧x2=y.links∧x4=y.aA∧x5=y.closed:=by
   rcases hcase with⟨e1,-⟩|⟨y',e1,e2,e3,-,e5,e6⟩
   ·rw[Yq.o,hy]at e1;cases e1
   ·rw[Yq.o,hy]at e1;obtain rfl:y=y':=aaK e1;exact⟨e2,e3,e5,e6⟩
  have HSK:=acA (Gi (ls:=ls) (aA:=x.aA) iM.o.t.1);have HSU:=acA (KE iM.o.t.1 hl0 hy);obtain⟨q1,q2,q4,q5⟩:=hcs;rw[←q1,←q2,←q4,←q5]at HSU;rw[←Yq.o,←YF.o]at HSK;clear hz hnm hcase hl0 hy hyk q1 q2 q4 q5 y;go_wp2_with fail;refine uT.o.mono ?_;rintro e w6 ⟨rfl,hb6⟩;have vY:Below w5.heap.size w5 (w6.alloc (.cells #[.int .i64 x0,.int .i64 x1,.int .i64 x2,.int .i64 x3,.int .u64 x4,.bool x5] 39)):=hb6.trans ((wall w6 _).mono hb6.size);have Gj:=(MapKept.heap_alloc w6 (.cells #[.int .i64 x0,.int .i64 x1,.int .i64 x2,.int .i64 x3,.int .u64 x4,.bool x5] 39)).1;go_upto_region 5 with(fail);generalize w6.alloc (.cells #[.int .i64 x0,.int .i64 x1,.int .i64 x2,.int .i64 x3,.int .u64 x4,.bool x5] 39)=w7 at*;obtain⟨g7,KJ⟩:∃g7,g7=w6.heap.size:=⟨_,rfl⟩;rw[←KJ]at Gj⊢;clear KJ;have Gd:=acA (mP.o.grow vY);have HLS7:=acA (HLS5.o.below vY acC);obtain⟨z0,-,-,-,-,-,z6,-,-⟩:=(JM.o.grow vY).cells;have HZ7:=acA (JM.o.grow vY);have HG7:=acA Gj;clear hb6 vY uT mP JM zK HLS5 tY c0;rcases u_.o with hk|hk
  ·as_aux_lemma=>
   rw[hk]at z0;have hsd:gH M x ls []=if x1=2 then(bR 22,M)else if x5=true∧x2≤1∧M.now<x4 then(bR 28,M)else(bR (bC M.t ls).1,M.tr (bC M.t ls).2):=by rw[fq.o,if_pos hk,HSU.o]
   have n1:w7.cell? ⟨g7,1,none⟩=some (.int .i64 x1):=by simp[World.cell?,Gj]
   have n2:w7.cell? ⟨g7,2,none⟩=some (.int .i64 x2):=by simp[World.cell?,Gj]
   have n4:w7.cell? ⟨g7,4,none⟩=some (.int .u64 x4):=by simp[World.cell?,Gj]
   have n5:w7.cell? ⟨g7,5,none⟩=some (.bool x5):=by simp[World.cell?,Gj]
   have qZ:=acA hsd;clear hk hsd HSK HSU Gj;by_cases hd:x1=2
   ·have hd2:(x1==2)=true:=by simpa using hd
    have HD:=acA hd;clear hd;go_wp2_with fail;refine(dR _ _).mono ?_;rintro e w9 ⟨rfl,cO⟩;unfold mG;have fQ:=acA (Gd.o.grow cO);clear cO;go_wp2_with (refine fQ.o.rep (bR 22) none none 0 0 ?_;intro w5 dB);exact fQ.o.jF dB (qZ.o.trans (if_pos HD.o))
   ·have hd2:(x1==2)=false:=by simpa using hd
    have El:=acA (qZ.o.trans (if_neg hd));have uY:=acA (Gd.o.grow acD.drew);obtain⟨t2,s2,y0,-,y2,OW,-,-⟩:=uY.o.DK;have c2:w7.cell? ⟨p,2,none⟩=some (.int .u64 M.now):=y2;obtain⟨t3,y3,wJ,Vq⟩:=uY.o.qQ;have Vr:=acA Vq;have HUL:=acA (Qx wJ uY.o.marks iM.o.t.1 a n c ls (HLS7.o.below acD.drew acC) HN.o.1 HN.o.2);obtain⟨mm,hmm⟩:∃mm,mm=bC M.t ls:=⟨_,rfl⟩;rw[←hmm]at HUL El;have nD:acB (∀(o4:Mark) (w4:World),Step o1 (fun m=>m=i+1) w7.drew o4 w4→iJ o4 (i+1) w4 t3 mm.2→tH W o i (i+3) w p (w.heap.size+1) o4 w4 (M.tr mm.2)):=fun o4 w4 hs hT=>(Vr.o o4 w4 mm.2 hs hT).1;clear hd hmm OW wJ Vq Vr y0 y2;cases x5 with
    |false=>
     have M7:=acA (El.o.trans (if_neg (by simp)));go_wp2_with fail;refine yG ((fun w'=>w'.cell? ⟨g7,5,none⟩=some (.bool false))) ?_ fun hS=> ?_
     ·exact n5
     refine aP 0 hS ?_;refine aP 1 hS ?_;refine aP 2 hS ?_;refine rJ 3 hS ?_;refine rJ 4 hS ?_;refine rJ 5 hS ?_;refine aP 6 hS ?_;refine aP 7 hS ?_;refine rJ 8 hS ?_;refine rJ 9 hS ?_;refine rJ 10 hS ?_;refine rJ 11 hS ?_;refine rJ 12 hS ?_;refine rJ 13 hS ?_;refine rJ 14 hS ?_;refine aP 15 hS ?_;refine xW ?_;go_wp2_with fail;refine HUL.o.mono ?_;rintro e w8 ⟨rfl,o4,hs4,kV⟩;have BP:=acA (nD.o _ _ hs4 kV);clear hs4 kV HUL nD;go_wp2_with fail;refine(dR _ _).mono ?_;rintro e w9 ⟨rfl,cO⟩;unfold mG;have fQ:=acA (BP.o.grow cO);clear cO;go_wp2_with (refine fQ.o.rep (bR mm.1) none none 0 0 ?_;intro w5 dB);exact fQ.o.jF dB (M7.o)
    |true=>
     by_cases hl:x2≤1
     ·have hl2:decide (x2≤1)=true:=by simpa using hl
      by_cases ht:M.now<x4
      ·have ht2:decide (M.now<x4)=true:=by simpa using ht
       have M7:=acA (El.o.trans (if_pos ⟨rfl,hl,ht⟩));clear hl ht;go_wp2_with fail;refine yG ((fun w'=>w'.cell? ⟨g7,5,none⟩=some (.bool true)∧w'.cell? ⟨g7,2,none⟩=some (.int .i64 x2)∧w'.cell? ⟨g7,4,none⟩=some (.int .u64 x4)∧w'.cell? ⟨p,2,none⟩=some (.int .u64 M.now))) ?_ fun hS=> ?_
       ·exact⟨n5,n2,n4,c2⟩
       refine aP 0 hS ?_;refine aP 1 hS ?_;refine aP 2 hS ?_;refine aP 3 hS ?_;refine aP 4 hS ?_;refine aP 5 hS ?_;refine aP 6 hS ?_;refine aP 7 hS ?_;refine aP 8 hS ?_;refine aP 9 hS ?_;refine aP 10 hS ?_;refine aP 11 hS ?_;refine aP 12 hS ?_;refine aP 13 hS ?_;refine aP 14 hS ?_;refine aP 15 hS ?_;refine xW ?_;go_wp2_with fail;refine(dR _ _).mono ?_;rintro e w9 ⟨rfl,cO⟩;unfold mG;have fQ:=acA (uY.o.grow cO);clear cO;go_wp2_with (refine fQ.o.rep (bR 28) none none 0 0 ?_;intro w5 dB);exact fQ.o.jF dB (M7.o)
      ·have ht2:decide (M.now<x4)=false:=by simpa using ht
       have M7:=acA (El.o.trans (if_neg (fun h=>ht h.2.2)));clear hl ht;go_wp2_with fail;refine yG ((fun w'=>w'.cell? ⟨g7,5,none⟩=some (.bool true)∧w'.cell? ⟨g7,2,none⟩=some (.int .i64 x2)∧w'.cell? ⟨g7,4,none⟩=some (.int .u64 x4)∧w'.cell? ⟨p,2,none⟩=some (.int .u64 M.now))) ?_ fun hS=> ?_
       ·exact⟨n5,n2,n4,c2⟩
       refine aP 0 hS ?_;refine aP 1 hS ?_;refine aP 2 hS ?_;refine aP 3 hS ?_;refine aP 4 hS ?_;refine aP 5 hS ?_;refine aP 6 hS ?_;refine aP 7 hS ?_;refine aP 8 hS ?_;refine aP 9 hS ?_;refine aP 10 hS ?_;refine aP 11 hS ?_;refine aP 12 hS ?_;refine aP 13 hS ?_;refine aP 14 hS ?_;refine aP 15 hS ?_;refine xW ?_;go_wp2_with fail;refine HUL.o.mono ?_;rintro e w8 ⟨rfl,o4,hs4,kV⟩;have BP:=acA (nD.o _ _ hs4 kV);clear hs4 kV HUL nD;go_wp2_with fail;refine(dR _ _).mono ?_;rintro e w9 ⟨rfl,cO⟩;unfold mG;have fQ:=acA (BP.o.grow cO);clear cO;go_wp2_with (refine fQ.o.rep (bR mm.1) none none 0 0 ?_;intro w5 dB);exact fQ.o.jF dB (M7.o)
     ·have hl2:decide (x2≤1)=false:=by simpa using hl
      have M7:=acA (El.o.trans (if_neg (fun h=>hl h.2.1)));clear hl;go_wp2_with fail;refine yG ((fun w'=>w'.cell? ⟨g7,5,none⟩=some (.bool true)∧w'.cell? ⟨g7,2,none⟩=some (.int .i64 x2))) ?_ fun hS=> ?_
      ·exact⟨n5,n2⟩
      refine aP 0 hS ?_;refine aP 1 hS ?_;refine aP 2 hS ?_;refine aP 3 hS ?_;refine aP 4 hS ?_;refine aP 5 hS ?_;refine aP 6 hS ?_;refine aP 7 hS ?_;refine rJ 8 hS ?_;refine rJ 9 hS ?_;refine rJ 10 hS ?_;refine rJ 11 hS ?_;refine rJ 12 hS ?_;refine rJ 13 hS ?_;refine rJ 14 hS ?_;refine aP 15 hS ?_;refine xW ?_;go_wp2_with fail;refine HUL.o.mono ?_;rintro e w8 ⟨rfl,o4,hs4,kV⟩;have BP:=acA (nD.o _ _ hs4 kV);clear hs4 kV HUL nD;go_wp2_with fail;refine(dR _ _).mono ?_;rintro e w9 ⟨rfl,cO⟩;unfold mG;have fQ:=acA (BP.o.grow cO);clear cO;go_wp2_with (refine fQ.o.rep (bR mm.1) none none 0 0 ?_;intro w5 dB);exact fQ.o.jF dB (M7.o)
  ·as_aux_lemma=>
   rw[hk]at z0;have hsd:gH M x ls []=(bR (eX M.t ki x.aA).1,M.tr (eX M.t ki x.aA).2):=by rw[fq.o,if_neg (by omega),HSK.o,if_neg (by rw[BQ.o];simp)]
   have uY:=acA (Gd.o.grow acD.drew);obtain⟨t3,y3,wJ,Vq⟩:=uY.o.qQ;have c3:w7.cell? ⟨p,0,none⟩=some (ptr t3):=y3;have Vr:=acA Vq;have ji:=acA (X6 wJ uY.o.marks iM.o.t.1 ki x.aA HX.o.wt);obtain⟨mm,hmm⟩:∃mm,mm=eX M.t ki x.aA:=⟨_,rfl⟩;rw[←hmm]at ji hsd;have qZ:=acA hsd;clear hk hsd hmm HSK HSU Gj wJ Vq y3;go_wp2_with fail;refine qA 9 ((fun w'=>w'.cell? ⟨p,0,none⟩=some (ptr t3)∧w'.cell? ⟨w.heap.size,6,none⟩=some (.int .u64 x.aA))) ?_ fun hS=> ?_
   ·exact⟨c3,z6⟩
   refine au 0 hS ?_;refine au 1 hS ?_;refine au 2 hS ?_;refine au 3 hS ?_;refine au 4 hS ?_;refine au 5 hS ?_;refine au 6 hS ?_;refine bB 7 fun K hK=> ?_;go_simp;refine ji.o.mono ?_;rintro e w8 ⟨rfl,o4,hs4,kV⟩;obtain⟨hr4,t_⟩:=Vr.o _ _ _ hs4 kV;have BP:=acA hr4;have HZ8:=acA ((HZ7.o.grow acD.drew).step (by simp) hs4);have NT:acB (w8.cell? ⟨p,0,none⟩=some (ptr t3)∧w8.cell? ⟨w.heap.size,6,none⟩=some (.int .u64 x.aA)):=by
    refine⟨?_,HZ8.o.cells.2.2.2.2.2.2.1⟩;have:w8.heap[p]? =w7.heap[p]? :=t_;simp only[World.cell?,this]at c3⊢;exact c3
   clear hr4 t_ hs4 kV ji Vr;go_wp2_with fail;refine bK hK (NT.o) fun hS=> ?_;clear hK K;refine bB 8 fun K hK=> ?_;go_simp;refine(dR _ _).mono ?_;rintro e w9 ⟨rfl,cO⟩;unfold mG;have fQ:=acA (BP.o.grow cO);have Qe:=acA (And.intro ((cO.cell (aag w8 _ NT.o.1)).trans NT.o.1) ((cO.cell (aag w8 _ NT.o.2)).trans NT.o.2));clear cO;go_wp2_with fail;refine bK hK (Qe.o) fun hS=> ?_;clear hK K;refine bB 9 fun K hK=> ?_;refine fQ.o.srep (bR mm.1) none none 0 0 ?_;intro Dj dB;refine kX hK ?_;clear hS hK K;go_wp2_with fail;exact fQ.o.jF dB qZ.o
 ·have BQ:=acA hz;have hz2:(ke !=0)=true:=by simpa using hz
  have qZ:acB (gH M x ls []=(bR ke,M)):=by
   show _=_;rw[fq.o];by_cases hk:x.kind=8
   ·rw[if_pos hk,M4 (by rw[←YF.o];exact hz),←YF.o]
   ·rw[if_neg hk,Gi iM.o.t.1,if_pos (by rw[←YF.o];exact hz),←YF.o]
  clear hz;go_wp2_with fail;refine(dR _ _).mono ?_;rintro e w9 ⟨rfl,cO⟩;unfold mG;have fQ:=acA (mP.o.grow cO);clear cO;go_wp2_with (refine fQ.o.rep (bR ke) none none 0 0 ?_;intro w5 dB);exact fQ.o.jF dB (qZ.o)
end
section
variable{W w:World}{o:Mark}{i p:Nat}{M:dS}{cc:Int}
theorem Q5(x:jD)(hx:lY x)(hk:x.kind=1∨x.kind=2∨x.kind=3∨x.kind=8∨x.kind=9∨x.kind=11∨x.kind=12∨x.kind=13)(hi:0<i)(hS:kT o i w p M)(hM:Marks W o w)(hok:gK cc M)(hcc:cc≤1000000000)(da:Option Addr)(dc:Nat)(hda:ah (Free o w) w da x.data.length (x.data.map bv))(hdl:x.data.length≤1000000):
  Calls Tryz.prog 14 #[ptr p,.agg (opC x da dc)] w (uZ o i (i+4) w p (dH M x)):=by
 obtain⟨o1,w2,hw2,hr,hz,hb⟩:=kN hi (n:=i+4) ⟨by omega,by omega⟩ hS hM x da dc;have HW:=acA hw2;unfold opC eu bR at HW;dsimp only[List.length_nil]at HW;have HR:=acA hr;have HZ:=acA hz;have HB:=acA hb;have HI:=acA hi;have HX:=acA hx;have u_:=acA hk;have iM:=acA hok;have Ez:=acA hcc;have jE:=acA hda;have xS:=acA hdl;clear hx hk hok hcc hda hdl;clear hw2 hr hz hb hS hM hi;unfold opC;go_enter ab1,abV;go_upto_region 1 with(fail);rw[←HW.o];clear HW;have HTX:acB (eO x=fK [x.path]):=by
  show _=_;unfold eO zq;rw[if_pos (by have:=u_.o;omega),if_neg (by have:=u_.o;omega),if_pos (by have:=u_.o;omega)]
 have fq:acB ((aC x.path).2=0→dH M x=gH M x (aC x.path).1 []):=fun h=>by
  have e:fK [x.path]=([(aC x.path).1],0):=qP [x.path] fun t ht=>by rw[List.mem_singleton.1 ht];exact h
  unfold dH;rw[HTX.o,e];rfl
 have II:acB ((aC x.path).2≠0→dH M x=(bR (aC x.path).2,M)):=fun h=>by
  have e:=kF [x.path] 0 x.path rfl (fun x hx=>by simp at hx) h;unfold dH;rw[HTX.o,e,if_pos h]
 obtain⟨z0,-,-,-,-,-,-,-,-⟩:=HZ.o.cells;rcases u_.o with hk|hk|hk|hk|hk|hk|hk|hk
 all_goals as_aux_lemma=>
  rw[hk]at z0;go_wp2_with fail;refine(KI _ (by decide) _).mono ?_;rintro e w3 ⟨rfl,hb3⟩;have HR3:=acA (HR.o.grow hb3);have HZ3:=acA (HZ.o.grow hb3);have HB3:=acA (HB.o.trans (hb3.mono HB.o.size));clear HR HZ hb3;obtain⟨z0,z1,z2,z3,z4,z5,z6,z7,z8⟩:=HZ3.o.cells;rw[hk]at z0;go_wp2_with fail;refine(yD _ _ (by rw[fu];exact HX.o.wp)).mono ?_;rintro e w4 ⟨a0,n0,c0,ss0,rfl,Vs,BN,Mf,hb0⟩;rw[show(strOf x.path).data.toList=x.path from rfl]at BN⊢;have HR4:=acA (HR3.o.grow hb0);have Oq:=acA (HZ3.o.grow hb0);have dY:=acA (HB3.o.trans (hb0.mono HB3.o.size));have RL:=acA (fun h=>M6 h Vs BN Mf);obtain⟨q0,hq0⟩:∃q0,q0=(aC x.path).1:=⟨_,rfl⟩;obtain⟨er,her⟩:∃er,er=(aC x.path).2:=⟨_,rfl⟩;rw[←her,←hq0]at RL fq;rw[←her]at II⊢;clear Vs BN Mf hb0 hq0 her HR3 HZ3;obtain⟨z0,z1,z2,z3,z4,z5,z6,z7,z8⟩:=Oq.o.cells;rw[hk]at z0;by_cases hz:er=0
  ·have HN:=acA (RL.o hz);have hz2:(er !=0)=false:=by simpa using hz
   have jI:=acA (fq.o hz);clear hz RL fq II
   first
   |(first
     |(have HC:=acA (YD x _ hk (by decide) HR4.o.hi HR4.o.st HR4.o.marks iM.o.t.1 a0 n0 c0 q0 HN.o.strs HN.o.cap (by have:=HN.o.few;omega));go_wp2_with fail;(with_reducible refine HC.o.mono ?_))
     |(have HC:=acA (YE x (by rw[hk];decide) HR4.o.hi HR4.o.st HR4.o.marks iM.o da dc a0 n0 c0 q0 HN.o.strs);unfold opC at HC;rw[hk]at HC;go_wp2_with fail;(with_reducible refine HC.o.mono ?_))
     |(have HC:=acA (YG x HX.o (by rw[hk];decide) HR4.o.hi HR4.o.st HR4.o.marks iM.o da dc a0 n0 c0 q0 HN.o.strs HN.o.cap (by have:=HN.o.few;omega));unfold opC at HC;rw[hk]at HC;go_wp2_with fail;(with_reducible refine HC.o.mono ?_))
     rintro e w5 ⟨o4,⟨v4,rfl,Av,Aw,Ay,Az,rfl,k1,k2,k3,k4⟩,hs4,oh⟩;have mP:=acA (HR4.o.turn (fun m hm=>by omega) hs4 oh);have Lu:=acA (And.intro k1 (And.intro k2 (And.intro k3 k4)));clear hs4 oh k1 k2 k3 k4;go_wp2_with (refine mP.o.rep _ Av Aw Ay Az ?_;intro w6 dB);exact mP.o.ret dB jI.o ⟨Lu.o.1,Lu.o.2.1,Lu.o.2.2.1,Lu.o.2.2.2⟩
    )
   |(obtain⟨t,c9,hT,htr⟩:=HR4.o.qQ
     have tY:=acA htr;have HC:=acA (UK hT HR4.o.marks iM.o.t.1 a0 n0 c0 q0 HN.o.strs HN.o.cap (by have:=HN.o.few;omega));have qZ:acB (gH M x q0 []=(bR (dP M.t q0).1,M.tr (dP M.t q0).2)):=by
      show _=_;unfold gH;simp[hk]
     obtain⟨mm,hmm⟩:∃mm,mm=dP M.t q0:=⟨_,rfl⟩;rw[←hmm]at HC qZ;clear hmm hT htr;go_wp2_with fail;refine HC.o.mono ?_;rintro e w5 ⟨rfl,o4,hs4,kV⟩;have mP:=acA (tY.o _ _ _ hs4 kV).1;clear hs4 kV;go_wp2_with fail;refine(dR _ _).mono ?_;rintro e w9 ⟨rfl,cO⟩;unfold mG;have fQ:=acA (mP.o.grow cO);clear cO;go_wp2_with (refine fQ.o.rep (bR mm.1) none none 0 0 ?_;intro w5 dB);exact fQ.o.jF dB (jI.o.trans qZ.o)
    )
  ·have hz2:(er !=0)=true:=by simpa using hz
   have jI:=acA (II.o hz);clear hz RL fq II;go_wp2_with fail;refine(dR _ _).mono ?_;rintro e w9 ⟨rfl,cO⟩;unfold mG;have fQ:=acA (HR4.o.grow cO);clear cO;go_wp2_with (refine fQ.o.rep (bR er) none none 0 0 ?_;intro w5 dB);exact fQ.o.jF dB (jI.o)
end
section
variable{W w:World}{o:Mark}{i p:Nat}{M:dS}{cc:Int}
theorem Q6(x:jD)(hx:lY x)(hk:x.kind=7∨x.kind=10)(hi:0<i)(hS:kT o i w p M)(hM:Marks W o w)(hok:gK cc M)(hcc:cc≤1000000000)(da:Option Addr)(dc:Nat)(hda:ah (Free o w) w da x.data.length (x.data.map bv))(hdl:x.data.length≤1000000):
  Calls Tryz.prog 14 #[ptr p,.agg (opC x da dc)] w (uZ o i (i+4) w p (dH M x)):=by
 obtain⟨o1,w2,hw2,hr,hz,hb⟩:=kN hi (n:=i+4) ⟨by omega,by omega⟩ hS hM x da dc;have HW:=acA hw2;unfold opC eu bR at HW;dsimp only[List.length_nil]at HW;have HR:=acA hr;have HZ:=acA hz;have HB:=acA hb;have HI:=acA hi;have HX:=acA hx;have u_:=acA hk;have iM:=acA hok;have Ez:=acA hcc;have jE:=acA hda;have xS:=acA hdl;clear hx hk hok hcc hda hdl;clear hw2 hr hz hb hS hM hi;unfold opC;go_enter ab1,abV;go_upto_region 1 with(fail);rw[←HW.o];clear HW;have HTX:acB (eO x=fK [x.path,x.dD]):=by
  show _=_;unfold eO zq;rw[if_pos (by have:=u_.o;omega),if_pos (by have:=u_.o;omega)]
 have fq:acB ((aC x.path).2=0→(aC x.dD).2=0→dH M x=gH M x (aC x.path).1 (aC x.dD).1):=fun h h'=>by
  have e:fK [x.path,x.dD]=([(aC x.path).1,(aC x.dD).1],0):=qP [x.path,x.dD] fun t ht=>by
   simp only[aay,aaW,abT]at ht;rcases ht with rfl|rfl
   ·exact h
   ·exact h'
  unfold dH;rw[HTX.o,e];rfl
 have II:acB ((aC x.path).2≠0→dH M x=(bR (aC x.path).2,M)):=fun h=>by
  have e:=kF [x.path,x.dD] 0 x.path rfl (fun x hx=>by simp at hx) h;unfold dH;rw[HTX.o,e,if_pos h]
 have HSF:acB ((aC x.path).2=0→(aC x.dD).2≠0→dH M x=(bR (aC x.dD).2,M)):=fun h0 h=>by
  have e:=kF [x.path,x.dD] 1 x.dD rfl (fun x hx=>by simp at hx;rw[hx];exact h0) h;unfold dH;rw[HTX.o,e,if_pos h]
 obtain⟨z0,-,-,-,-,-,-,-,-⟩:=HZ.o.cells;rcases u_.o with hk|hk
 all_goals as_aux_lemma=>
  rw[hk]at z0;go_wp2_with fail;refine(KI _ (by decide) _).mono ?_;rintro e w3 ⟨rfl,hb3⟩;have HR3:=acA (HR.o.grow hb3);have HZ3:=acA (HZ.o.grow hb3);have HB3:=acA (HB.o.trans (hb3.mono HB.o.size));clear HR HZ hb3;obtain⟨z0,z1,z2,z3,z4,z5,z6,z7,z8⟩:=HZ3.o.cells;rw[hk]at z0;go_wp2_with fail;refine(yD _ _ (by rw[fu];exact HX.o.wp)).mono ?_;rintro e w4 ⟨a0,n0,c0,ss0,rfl,Vs,BN,Mf,hb0⟩;rw[show(strOf x.path).data.toList=x.path from rfl]at BN⊢;have HR4:=acA (HR3.o.grow hb0);have Oq:=acA (HZ3.o.grow hb0);have RL:=acA (fun h=>M6 h Vs BN Mf);obtain⟨q0,hq0⟩:∃q0,q0=(aC x.path).1:=⟨_,rfl⟩;obtain⟨er,her⟩:∃er,er=(aC x.path).2:=⟨_,rfl⟩;rw[←her,←hq0]at RL fq;rw[←her]at II HSF⊢;clear Vs BN Mf hb0 hq0 her HR3 HZ3;obtain⟨z0,z1,z2,z3,z4,z5,z6,z7,z8⟩:=Oq.o.cells;rw[hk]at z0;by_cases hz:er=0
  ·have HN:=acA (RL.o hz);have hz2:(er !=0)=false:=by simpa using hz
   have YH:=acA (fq.o hz);have YI:=acA (HSF.o hz);clear hz RL fq II HSF;go_wp2_with fail;refine(yD _ _ (by rw[fu];exact HX.o.wq)).mono ?_;rintro e w5 ⟨a1,n1,c1,ss1,rfl,hlc1,Yn,hst1,hb1⟩;rw[show(strOf x.dD).data.toList=x.dD from rfl]at Yn⊢;have mP:=acA (HR4.o.grow hb1);have JM:=acA (Oq.o.grow hb1);have Hr:=acA (NmS.below (B:=0) HN.o hb1);have Z6:=acA (fun h=>M6 h hlc1 Yn hst1);obtain⟨q1,hq1⟩:∃q1,q1=(aC x.dD).1:=⟨_,rfl⟩;obtain⟨es,hes⟩:∃es,es=(aC x.dD).2:=⟨_,rfl⟩;rw[←hes,←hq1]at Z6 YH;rw[←hes]at YI⊢;clear hlc1 Yn hst1 hb1 hq1 hes HR4 Oq;obtain⟨z0,z1,z2,z3,z4,z5,z6,z7,z8⟩:=JM.o.cells;rw[hk]at z0;by_cases hy:es=0
   ·have IL:=acA (Z6.o hy);have hy2:(es !=0)=false:=by simpa using hy
    have jI:=acA (YH.o hy);clear hy Z6 YH YI;obtain⟨t,c9,hT,htr⟩:=mP.o.qQ;have tY:=acA htr;obtain⟨er2,T2,hsq,hcc⟩:∃er2 T2,gH M x q0 q1=(bR er2,M.tr T2)∧((x.kind=7∧fM M.t q0 q1=(er2,T2))∨(x.kind=10∧bf M.t q0 q1=(er2,T2))):=by
     first
     |exact⟨_,_,by unfold gH;simp only[hk];rfl,.inl ⟨hk,rfl⟩⟩
     |exact⟨_,_,by unfold gH;simp only[hk];rfl,.inr ⟨hk,rfl⟩⟩
    have qZ:=acA hsq;rcases hcc with⟨hk7,hc⟩|⟨hk10,hc⟩
    all_goals (
     first
     |(exfalso;omega)
     |(have HC:=acA (X4 hT mP.o.marks iM.o.t.1 a0 n0 c0 q0 a1 n1 c1 q1 Hr.o.strs IL.o.strs IL.o.cap (by have:=IL.o.few;omega));rw[hc]at HC;clear hc hT htr hsq;go_wp2_with fail;(with_reducible refine HC.o.mono ?_))
     |(have HC:=acA (Qy hT mP.o.marks iM.o.t a0 n0 c0 q0 a1 n1 c1 q1 Hr.o.strs IL.o.strs Hr.o.cap (by have:=Hr.o.few;omega) IL.o.cap (by have:=IL.o.few;omega));rw[hc]at HC;clear hc hT htr hsq;go_wp2_with fail;(with_reducible refine HC.o.mono ?_)))
    rintro e w6 ⟨rfl,o4,hs4,kV⟩;have Dv:=acA (tY.o _ _ _ hs4 kV).1;clear hs4 kV;go_wp2_with fail;refine(dR _ _).mono ?_;rintro e w9 ⟨rfl,cO⟩;unfold mG;have fQ:=acA (Dv.o.grow cO);clear cO;go_wp2_with (refine fQ.o.rep (bR er2) none none 0 0 ?_;intro w5 dB);exact fQ.o.jF dB (jI.o.trans qZ.o)
   ·have hy2:(es !=0)=true:=by simpa using hy
    have jI:=acA (YI.o hy);clear hy Z6 YH YI;go_wp2_with fail;refine(dR _ _).mono ?_;rintro e w9 ⟨rfl,cO⟩;unfold mG;have fQ:=acA (mP.o.grow cO);clear cO;go_wp2_with (refine fQ.o.rep (bR es) none none 0 0 ?_;intro w5 dB);exact fQ.o.jF dB (jI.o)
  ·have hz2:(er !=0)=true:=by simpa using hz
   have jI:=acA (II.o hz);clear hz RL fq II HSF;go_wp2_with fail;refine(dR _ _).mono ?_;rintro e w9 ⟨rfl,cO⟩;unfold mG;have fQ:=acA (HR4.o.grow cO);clear cO;go_wp2_with (refine fQ.o.rep (bR er) none none 0 0 ?_;intro w5 dB);exact fQ.o.jF dB (jI.o)
end
section
variable{W w:World}{o:Mark}{i p:Nat}{M:dS}{cc:Int}
theorem M8(x:jD)(hk:x.kind=4∨x.kind=5∨x.kind=6)(hi:0<i)(hS:kT o i w p M)(hM:Marks W o w)(da:Option Addr)(dc:Nat)(hf:∀b,jV M x.fd b=none):
  Calls Tryz.prog 45 #[ptr p,.agg (opC x da dc)] w (uZ o i (i+3) w p (gH M x [] [])):=by
 have fq:=acA (QW hk hf);obtain⟨o1,w2,hw2,hr,hz,hb⟩:=kN hi (n:=i+3) ⟨by omega,by omega⟩ hS hM x da dc;have HW:=acA hw2;unfold opC eu bR at HW;dsimp only[List.length_nil]at HW;have HR:=acA hr;have HZ:=acA hz;have HB:=acA hb;have HI:=acA hi;have Fe:=acA hf;clear hk hf;clear hw2 hr hz hb hS hM hi;unfold opC;go_enter Tryz.func45,Tryz.ntmps45;go_upto_region 1 with(fail);rw[←HW.o];clear HW;obtain⟨-,-,-,z3,-,-,-,-,-⟩:=HZ.o.cells;have uY:=acA (HR.o.grow acD.drew);by_cases h0:x.fd<0
 ·have hd0:decide (x.fd<0)=true:=by simpa using h0
  go_wp2_with fail;refine yG ((fun w'=>w'.cell? ⟨w.heap.size,3,none⟩=some (.int .i64 x.fd))) ?_ fun hS=> ?_
  ·exact z3
  refine aP 0 hS ?_;refine aP 1 hS ?_;refine aP 2 hS ?_;refine aP 3 hS ?_;refine rJ 4 hS ?_;refine rJ 5 hS ?_;refine rJ 6 hS ?_;refine aP 7 hS ?_;refine aP 8 hS ?_;refine rJ 9 hS ?_;refine rJ 10 hS ?_;refine rJ 11 hS ?_;refine rJ 12 hS ?_;refine rJ 13 hS ?_;refine rJ 14 hS ?_;refine rJ 15 hS ?_;refine rJ 16 hS ?_;refine rJ 17 hS ?_;refine aP 18 hS ?_;refine xW ?_;go_wp2_with fail;refine(dR _ _).mono ?_;rintro e w9 ⟨rfl,cO⟩;unfold mG;have fQ:=acA (uY.o.grow cO);clear cO;go_wp2_with (refine fQ.o.rep (bR 26) none none 0 0 ?_;intro w5 dB);exact fQ.o.jF dB (fq.o)
 ·have hd0:decide (x.fd<0)=false:=by simpa using h0
  by_cases h8:8≤x.fd
  ·have hd8:decide (8≤x.fd)=true:=by simpa using h8
   go_wp2_with fail;refine yG ((fun w'=>w'.cell? ⟨w.heap.size,3,none⟩=some (.int .i64 x.fd))) ?_ fun hS=> ?_
   ·exact z3
   refine aP 0 hS ?_;refine aP 1 hS ?_;refine aP 2 hS ?_;refine aP 3 hS ?_;refine aP 4 hS ?_;refine aP 5 hS ?_;refine aP 6 hS ?_;refine aP 7 hS ?_;refine aP 8 hS ?_;refine rJ 9 hS ?_;refine rJ 10 hS ?_;refine rJ 11 hS ?_;refine rJ 12 hS ?_;refine rJ 13 hS ?_;refine rJ 14 hS ?_;refine rJ 15 hS ?_;refine rJ 16 hS ?_;refine rJ 17 hS ?_;refine aP 18 hS ?_;refine xW ?_;go_wp2_with fail;refine(dR _ _).mono ?_;rintro e w9 ⟨rfl,cO⟩;unfold mG;have fQ:=acA (uY.o.grow cO);clear cO;go_wp2_with (refine fQ.o.rep (bR 26) none none 0 0 ?_;intro w5 dB);exact fQ.o.jF dB (fq.o)
  ·have hd8:decide (8≤x.fd)=false:=by simpa using h8
   obtain⟨k,hk⟩:∃k:Nat,x.fd=k:=⟨x.fd.toNat,by omega⟩;have Pv:k<8:=by omega
   obtain⟨t,s,v,h1,-,-,h4⟩:=HR.o.st.at_;obtain⟨-,-,-,c3,-⟩:=jK h1;obtain⟨d0,-,-⟩:=c3 k Pv;have YT:=h4 k Pv;have hnone:M.fds k=none:=by
    have h9:=fun b=>Fe.o b;cases hm:M.fds k with
    |none=>rfl
    |some f=>
     have h10:=h9 f.wr;rw[hk,KD Pv,hm]at h10;simp at h10
   rw[hnone]at YT;rw[YT.1]at d0;rw[hk]at z3 hd0 hd8;have i0:(0:Int)≤k:=by omega
   have i1:(k:Int)<8:=by omega
   clear h1 h4 c3 YT hnone h0 h8;go_wp2_with fail;refine yG ((fun w'=>w'.cell? ⟨w.heap.size,3,none⟩=some (.int .i64 k)∧w'.cell? ⟨p,3+k*3,none⟩=some (.int .i64 0))) ?_ fun hS=> ?_
   ·exact⟨z3,d0⟩
   refine aP 0 hS ?_;refine aP 1 hS ?_;refine aP 2 hS ?_;refine aP 3 hS ?_;refine aP 4 hS ?_;refine aP 5 hS ?_;refine aP 6 hS ?_;refine aP 7 hS ?_;refine aP 8 hS ?_;refine aP 9 hS ?_;refine aP 10 hS ?_;refine aP 11 hS ?_;refine aP 12 hS ?_;refine aP 13 hS ?_;refine aP 14 hS ?_;refine aP 15 hS ?_;refine aP 16 hS ?_;refine aP 17 hS ?_;refine aP 18 hS ?_;refine xW ?_;go_wp2_with fail;refine(dR _ _).mono ?_;rintro e w9 ⟨rfl,cO⟩;unfold mG;have fQ:=acA (uY.o.grow cO);clear cO;go_wp2_with (refine fQ.o.rep (bR 26) none none 0 0 ?_;intro w5 dB);exact fQ.o.jF dB (fq.o)
end
section
variable{W w:World}{o:Mark}{i p:Nat}{M:dS}{cc:Int}
theorem YJ(x:jD)(hx:lY x)(hk:x.kind=4∨x.kind=5∨x.kind=6)(hi:0<i)(hS:kT o i w p M)(hM:Marks W o w)(hok:gK cc M)(da:Option Addr)(dc:Nat)(hda:ah (Free o w) w da x.data.length (x.data.map bv))(hdl:x.data.length≤1000000):
  Calls Tryz.prog 45 #[ptr p,.agg (opC x da dc)] w (uZ o i (i+3) w p (gH M x [] [])):=by
 by_cases hno:∀b,jV M x.fd b=none
 ·exact M8 x hk hi hS hM da dc hno
 obtain⟨k,Pv,qz,f,hf⟩:∃k:Nat,k<8∧x.fd=k∧∃f,M.fds k=some f:=by
  refine Classical.byContradiction fun hn=>hno fun b=> ?_;unfold jV;split
  ·rename_i h;cases hm:M.fds x.fd.toNat with
   |none=>rfl
   |some f=>exact absurd ⟨x.fd.toNat,by omega,by omega,f,hm⟩ hn
  ·rfl
 have hg:∀b,jV M x.fd b=if f.wr=b then some f else none:=fun b=>by rw[qz,KD Pv,hf]
 have HG:=acA hg;have xS:=acA hdl;clear hno hg hdl;obtain⟨o1,w2,hw2,hr,hz,hb⟩:=kN hi (n:=i+3) ⟨by omega,by omega⟩ hS hM x da dc;have HW:=acA hw2;unfold opC eu bR at HW;dsimp only[List.length_nil]at HW;have HR:=acA hr;have HZ:=acA hz;have HB:=acA hb;have HI:=acA hi;have HX:=acA hx;have u_:=acA hk;have iM:=acA hok;have jE:=acA hda;have HFK:=acA hf;have Fe:=acA qz;clear hx hk hok hda hf qz;clear hw2 hr hz hb hS hM hi;unfold opC;go_enter Tryz.func45,Tryz.ntmps45;go_upto_region 1 with(fail);rw[←HW.o];clear HW;obtain⟨-,-,-,z3,-,-,-,-,-⟩:=HZ.o.cells;rw[Fe.o]at z3;obtain⟨t,s,v,h1,-,-,h4⟩:=HR.o.st.at_;obtain⟨-,-,-,c3,-⟩:=jK h1;obtain⟨d0,d1,d2⟩:=c3 k Pv;have YT:=h4 k Pv;rw[HFK.o]at YT;obtain⟨e0,e1,fa,fc,e2,hfc,hfr⟩:=YT;rw[e0]at d0;rw[e1]at d1;rw[e2]at d2;have HFR:=acA hfr;have HFC:=acA hfc;obtain⟨fl,hfl⟩:∃fl,fl=f.b.length:=⟨_,rfl⟩;rw[←hfl]at d2;have uS:=acA hfl;have hnz:(cond f.wr (1:Int) 2==0)=false:=by cases f.wr<;>rfl
 have hd0:decide ((k:Int)<0)=false:=by simp
 have hd8:decide (8≤(k:Int))=false:=by simp;omega
 have i0:(0:Int)≤k:=by omega
 have i1:(k:Int)<8:=by omega
 clear h1 h4 c3 e0 e1 e2 hfc hfr hfl;go_wp2_with fail;refine yG ((fun w'=>w'.cell? ⟨w.heap.size,3,none⟩=some (.int .i64 k)∧w'.cell? ⟨p,3+k*3,none⟩=some (.int .i64 (cond f.wr 1 2)))) ?_ fun hS=> ?_
 ·exact⟨z3,d0⟩
 refine aP 0 hS ?_;refine aP 1 hS ?_;refine aP 2 hS ?_;refine aP 3 hS ?_;refine aP 4 hS ?_;refine aP 5 hS ?_;refine aP 6 hS ?_;refine aP 7 hS ?_;refine aP 8 hS ?_;refine aP 9 hS ?_;refine aP 10 hS ?_;refine aP 11 hS ?_;refine aP 12 hS ?_;refine aP 13 hS ?_;refine aP 14 hS ?_;refine aP 15 hS ?_;refine aP 16 hS ?_;refine aP 17 hS ?_;refine aP 18 hS ?_;refine xW ?_;have hfld:∀w':World,w'.cell? ⟨p,3+k*3,none⟩=some (.int .i64 (cond f.wr 1 2))→w'.cell? ⟨p,3+k*3+1,none⟩=some (.int .i64 f.id)→w'.cell? ⟨p,3+k*3+2,none⟩=some (.slice fa fl fc)→(Instr.loadAt 63 (.pointer (some ⟨p,3+k*3,none⟩))).run Tryz.prog w'= .ok (.agg #[.int .i64 (cond f.wr 1 2),.int .i64 f.id,.slice fa fl fc]) w':=fun w' q0 q1 q2=>YC q0 q1 q2;have RB:acB (Below w2.heap.size w2 w2.drew.drew):=acD.drew.trans acD.drew;go_wp2_with fail;refine qA 8 ((fun w'=>w'.cell? ⟨w.heap.size,3,none⟩=some (.int .i64 k)∧w'.cell? ⟨p,3+k*3,none⟩=some (.int .i64 (cond f.wr 1 2))∧w'.cell? ⟨p,3+k*3+1,none⟩=some (.int .i64 f.id)∧w'.cell? ⟨p,3+k*3+2,none⟩=some (.slice fa fl fc))) ?_ fun hS=> ?_
 ·exact⟨z3,d0,d1,d2⟩
 refine au 0 hS ?_;refine au 1 hS ?_;refine au 2 hS ?_;refine au 3 hS ?_;refine au 4 hS ?_;refine au 5 hS ?_;refine au 6 hS ?_;refine bB 7 fun K hK=> ?_;go_simp;have NS:=wall w2.drew.drew (.cells #[.int .i64 0,.int .i64 0,.slice none 0 0] 63);have hga:=(MapKept.heap_alloc w2.drew.drew (.cells #[.int .i64 0,.int .i64 0,.slice none 0 0] 63)).1;have HWA:=acA NS;have HGA:=acA hga;have IE:acB ((w2.drew.drew.alloc (.cells #[.int .i64 0,.int .i64 0,.slice none 0 0] 63)).cell? ⟨w.heap.size,3,none⟩=some (.int .i64 k)∧(w2.drew.drew.alloc (.cells #[.int .i64 0,.int .i64 0,.slice none 0 0] 63)).cell? ⟨p,3+k*3,none⟩=some (.int .i64 (cond f.wr 1 2))∧(w2.drew.drew.alloc (.cells #[.int .i64 0,.int .i64 0,.slice none 0 0] 63)).cell? ⟨p,3+k*3+1,none⟩=some (.int .i64 f.id)∧(w2.drew.drew.alloc (.cells #[.int .i64 0,.int .i64 0,.slice none 0 0] 63)).cell? ⟨p,3+k*3+2,none⟩=some (.slice fa fl fc)):=⟨(NS.cell (aag w2 _ z3)).trans z3,(NS.cell (aag w2 _ d0)).trans d0,(NS.cell (aag w2 _ d1)).trans d1,(NS.cell (aag w2 _ d2)).trans d2⟩;clear NS hga z3 d0 d1 d2;refine bK hK (IE.o) fun hS=> ?_;clear hK K;refine bB 8 fun K hK=> ?_;refine eU rfl 63 _ _ rfl w2.heap.size #[.int .i64 (cond f.wr 1 2),.int .i64 f.id,.slice fa fl fc] rfl rfl _ HGA.o Ib rfl (by simp[Value.oneCell']) ?_;intro w3 hs3;have hb3:Below w2.heap.size w2 w3:=hs3.below (RB.o.trans HWA.o) acC;have hg3:=hs3.1;have HR3:=acA (HR.o.grow hb3);have HZ3:=acA (HZ.o.grow hb3);obtain⟨g5,hg5⟩:∃g5,g5=w2.heap.size:=⟨_,rfl⟩;rw[←hg5]at hg3;have HG5:acB (o1 g5=0∧g5<w3.heap.size):=⟨aaj fun h0=>by have:=(HR.o.marks.new g5 h0).2;omega,(iA.1 hg3).1⟩;have HFR3:=acA (HFR.o.qG hb3);have kW:acB (ah (Free o1 w3) w3 da x.data.length (x.data.map bv)):=acA (jE.o.move (Nat.le_trans HB.o.size hb3.size) fun b hb hbw=>⟨⟨(HR.o.step.old b hbw).trans hb.1,Pd hbw (Nat.le_trans HB.o.size hb3.size)⟩,(hb3.block b (Pd hbw HB.o.size)).trans (HB.o.block b hbw)⟩);clear hs3 hb3 IE HWA HGA RB HR HZ HFR jE hfld;refine kX hK ?_;clear hS hK K;rw[←hg5];clear hg5;have n0:w3.cell? ⟨g5,0,none⟩=some (.int .i64 (cond f.wr 1 2)):=by simp[World.cell?,hg3]
 have n1:w3.cell? ⟨g5,1,none⟩=some (.int .i64 f.id):=by simp[World.cell?,hg3]
 have n2:w3.cell? ⟨g5,2,none⟩=some (.slice fa fl fc):=by simp[World.cell?,hg3]
 obtain⟨z0,-,-,z3,z4,z5,z6,-,z8⟩:=HZ3.o.cells;rw[Fe.o]at z3;obtain⟨t,c0,hT,htr⟩:=HR3.o.qQ;have tY:=acA htr;have HT:=acA hT;have fq:=acA (Oo (M:=M) u_.o);clear hg3 hT htr;rcases u_.o with hk|hk|hk
 ·as_aux_lemma=>
  rw[hk]at z0;have hs4:gH M x [] []=(pQ M x,M):=by rw[fq.o,if_pos hk]
  unfold pQ at hs4;rw[HG.o]at hs4;cases hw:f.wr with
  |true=>
   rw[hw,if_neg (by simp)]at hs4;rw[hw]at n0;have n0':w3.cell? ⟨g5,0,none⟩=some (.int .i64 1):=n0;have jk:=acA hs4;clear hs4 n0 hk hw;go_wp2_with fail;refine(dR _ _).mono ?_;rintro e w9 ⟨rfl,cO⟩;unfold mG;have fQ:=acA (HR3.o.grow cO);clear cO;go_wp2_with (refine fQ.o.rep (bR 26) none none 0 0 ?_;intro w5 dB);exact fQ.o.jF dB (jk.o)
  |false=>
   rw[hw,if_pos rfl]at hs4;rw[hw]at n0;have n0':w3.cell? ⟨g5,0,none⟩=some (.int .i64 2):=n0;have jk:acB (gH M x [] []=(⟨oP x.at_ x.n,(kU f.b x.at_ x.n).length,kU f.b x.at_ x.n,[],none⟩,M)):=acA hs4;clear hs4 n0 hk hw;by_cases hA:x.at_<0
   ·have hA2:decide (x.at_<0)=true:=by simpa using hA
    have qZ:acB (gH M x [] []=(bR 1,M)):=by
     show _=_;rw[jk.o];unfold oP kU;rw[if_pos (.inl hA),if_pos (.inl hA)];rfl
    clear hA;go_wp2_with fail;refine(dR _ _).mono ?_;rintro e w9 ⟨rfl,cO⟩;unfold mG;have fQ:=acA (HR3.o.grow cO);clear cO;go_wp2_with (refine fQ.o.rep (bR 1) none none 0 0 ?_;intro w5 dB);exact fQ.o.jF dB (qZ.o)
   ·have hA2:decide (x.at_<0)=false:=by simpa using hA
    by_cases hN:x.n<0
    ·have hN2:decide (x.n<0)=true:=by simpa using hN
     have qZ:acB (gH M x [] []=(bR 1,M)):=by
      show _=_;rw[jk.o];unfold oP kU;rw[if_pos (.inr hN),if_pos (.inr hN)];rfl
     clear hA hN;go_wp2_with fail;refine(dR _ _).mono ?_;rintro e w9 ⟨rfl,cO⟩;unfold mG;have fQ:=acA (HR3.o.grow cO);clear cO;go_wp2_with (refine fQ.o.rep (bR 1) none none 0 0 ?_;intro w5 dB);exact fQ.o.jF dB (qZ.o)
    ·have hN2:decide (x.n<0)=false:=by simpa using hN
     obtain⟨A,hAe⟩:∃A:Nat,x.at_=A:=⟨x.at_.toNat,by omega⟩;obtain⟨N,hNe⟩:∃N:Nat,x.n=N:=⟨x.n.toNat,by omega⟩;have qZ:acB (gH M x [] []=(⟨0,((f.b.drop A).take N).length,(f.b.drop A).take N,[],none⟩,M)):=by
      show _=_;rw[jk.o];unfold oP kU;rw[if_neg (by omega),if_neg (by omega),hAe,hNe,abK,abK]
     rw[hAe]at z4 hA2;rw[hNe]at z5 hN2;clear hA hN hAe hNe;by_cases hl:fl≤A
     ·have hl2:decide (fl≤A)=true:=by simpa using hl
      have hl3:decide ((fl:Int)≤(A:Int))=true:=by simp;omega
      have HE:acB ((f.b.drop A).take N=[]):=by
       show(f.b.drop A).take N=[];rw[aaD (by rw[←uS.o];exact hl),List.take_nil]
      clear hl;go_wp2_with (refine HR3.o.rep (bR 0) none none 0 0 ?_;intro w5 dB);exact HR3.o.jF dB (qZ.o.trans (by rw[HE.o];rfl))
     ·have hl2:decide (fl≤A)=false:=by simpa using hl
      have hl3:decide ((fl:Int)≤(A:Int))=false:=by simp;omega
      have hrow:=HFR3.o;rw[←uS.o]at hrow;have hcap:=HFC.o;rw[←uS.o]at hcap;obtain⟨b2,off2,rfl,-,-,-⟩:=hrow.at_ (by omega);have hca:¬fc=A:=by omega
      have j2:(0:Int)≤(A:Int):=by omega
      have j3:(A:Int)≤(fl:Int):=by omega
      have j4:(fl:Int)≤(fc:Int):=by omega
      have iL:=acA hrow;clear hl hrow;by_cases hn:N<fl-A
      ·have hn2:decide (N<fl-A)=true:=by simpa using hn
       have SA:decide ((N:Int)<((fl-A:Nat):Int))=true:=by simp;omega
       have j5:(0:Int)≤(N:Int):=by omega
       have j6:(N:Int)≤((fc-A:Nat):Int):=by omega
       have xS:acB (((f.b.drop A).take N).length=N):=by
        show _=_;rw[aan,aaM,←uS.o];omega
       have hNl:N≤fl-A:=by omega
       clear hn;go_wp2_with (refine HR3.o.rep ⟨0,N,(f.b.drop A).take N,[],none⟩ (some ⟨b2,off2+A,none⟩) none (fc-A) 0 ?_ (hy:=by unfold eu;rw[xS.o];rfl);intro w5 dB);exact HR3.o.ret dB (qZ.o.trans (by rw[xS.o])) ⟨by rw[xS.o];omega,Nat.le_refl _,by
        rw[xS.o,aa9,abB];have:=(iL.o.drop A).take N
        rwa [show min (fl-A) N=N by omega]at this,jO _ _⟩
      ·have hn2:decide (N<fl-A)=false:=by simpa using hn
       have SA:decide ((N:Int)<((fl-A:Nat):Int))=false:=by simp;omega
       have SN:acB ((f.b.drop A).take N=f.b.drop A):=by
        show _=_;rw[List.take_of_length_le (by rw[aaM,←uS.o];omega)]
       have xS:acB ((f.b.drop A).length=fl-A):=by
        show _=_;rw[aaM,←uS.o]
       clear hn;go_wp2_with (refine HR3.o.rep ⟨0,(fl-A:Nat),f.b.drop A,[],none⟩ (some ⟨b2,off2+A,none⟩) none (fc-A) 0 ?_ (hy:=by unfold eu;rw[xS.o];rfl);intro w5 dB);exact HR3.o.ret dB (qZ.o.trans (by rw[SN.o,xS.o])) ⟨by rw[xS.o];omega,Nat.le_refl _,by
        rw[xS.o,abB];exact iL.o.drop A,jO _ _⟩
 ·as_aux_lemma=>
  rw[hk]at z0;have hs4:gH M x [] []=jA M x:=by rw[fq.o,if_neg (by omega),if_pos hk]
  unfold jA at hs4;rw[HG.o]at hs4;cases hw:f.wr with
  |false=>
   rw[hw,if_neg (by simp)]at hs4;rw[hw]at n0;have n0':w3.cell? ⟨g5,0,none⟩=some (.int .i64 2):=n0;have jk:=acA hs4;clear hs4 n0 hk hw;go_wp2_with fail;refine(dR _ _).mono ?_;rintro e w9 ⟨rfl,cO⟩;unfold mG;have fQ:=acA (HR3.o.grow cO);clear cO;go_wp2_with (refine fQ.o.rep (bR 26) none none 0 0 ?_;intro w5 dB);exact fQ.o.jF dB (jk.o)
  |true=>
   rw[hw,if_pos rfl]at hs4;rw[hw]at n0;have n0':w3.cell? ⟨g5,0,none⟩=some (.int .i64 1):=n0;have HSW:=acA hs4;clear hs4 n0 hk hw;obtain⟨dl,hdl⟩:∃dl,dl=x.data.length:=⟨_,rfl⟩;rw[←hdl]at z8;have SN:=acA hdl;clear hdl;by_cases h6:600<dl
   ·have h62:decide (600<dl)=true:=by simpa using h6
    have h63:decide ((600:Int)<(dl:Int))=true:=by simp;omega
    have qZ:=acA (HSW.o.trans (if_pos (by rw[←SN.o];exact h6)));clear h6;go_wp2_with fail;refine(dR _ _).mono ?_;rintro e w9 ⟨rfl,cO⟩;unfold mG;have fQ:=acA (HR3.o.grow cO);clear cO;go_wp2_with (refine fQ.o.rep (bR 3) none none 0 0 ?_;intro w5 dB);exact fQ.o.jF dB (qZ.o)
   ·have h62:decide (600<dl)=false:=by simpa using h6
    have h63:decide ((600:Int)<(dl:Int))=false:=by simp;omega
    have qZ:=acA (HSW.o.trans (if_neg (by rw[←SN.o];exact h6)));have uY:=acA (HR3.o.grow acD.drew);have HZD:=acA (HZ3.o.grow acD.drew);obtain⟨t',c0',hT',Vt⟩:=uY.o.qQ;obtain rfl:t=t':=by
     have e:w3.cell? ⟨p,0,none⟩=some (ptr t'):=c0';rw[c0]at e;simpa[ptr]using e
    have HC:=acA (Qz (S:=Free o1 w3.drew) hT' uY.o.marks (by omega) iM.o.t.1 f.id da dl dc x.data (by rw[SN.o];exact kW.o.qG acD.drew) (fun b hb=>hb.1) (by rw[SN.o];exact xS.o));obtain⟨mm,hmm⟩:∃mm,mm=dw M.t f.id x.data:=⟨_,rfl⟩;rw[←hmm]at HC qZ;replace tY:=acA Vt;clear h6 hmm hT' Vt c0';go_wp2_with fail;refine yG ((fun w'=>w'.cell? ⟨p,0,none⟩=some (ptr t)∧w'.cell? ⟨g5,1,none⟩=some (.int .i64 f.id)∧w'.cell? ⟨w.heap.size,8,none⟩=some (.slice da dl dc))) ?_ fun hS=> ?_
    ·exact⟨c0,n1,z8⟩
    refine aP 0 hS ?_;refine aP 1 hS ?_;refine aP 2 hS ?_;refine aP 3 hS ?_;refine aP 4 hS ?_;refine aP 5 hS ?_;refine aP 6 hS ?_;refine aP 7 hS ?_;refine qh 8 fun K hK=> ?_;go_simp;refine HC.o.mono ?_;rintro e w4 ⟨rfl,o4,hs4,kV⟩;obtain⟨hr4,t_⟩:=tY.o _ _ _ hs4 kV;have HR4:=acA hr4;have Oq:=acA (HZD.o.step (by simp) hs4);have hg5:w4.heap[g5]? =w3.heap[g5]? :=hs4.block HG5.o.2 (by rw[HG5.o.1];omega);have jk:acB (w4.cell? ⟨p,0,none⟩=some (ptr t)∧w4.cell? ⟨g5,1,none⟩=some (.int .i64 f.id)∧w4.cell? ⟨w.heap.size,8,none⟩=some (.slice da dl dc)):=by
     refine⟨?_,?_,?_⟩
     ·have:w4.heap[p]? =w3.heap[p]? :=t_;simp only[World.cell?,this]at c0⊢;exact c0
     ·simp only[World.cell?,hg5]at n1⊢;exact n1
     ·obtain⟨y0,y1,y2,y3,y4,y5,y6,y7,y8⟩:=Oq.o.cells;rw[←SN.o]at y8;exact y8
    clear hr4 t_ hs4 kV hg5 HC tY;go_wp2_with fail;refine pW hK (jk.o) fun hS=> ?_;clear hK K;refine aP 9 hS ?_;refine xW ?_;by_cases hz:mm.1=0
    ·have BQ:=acA hz;have hz2:(mm.1 !=0)=false:=by simpa using hz
     clear hz;go_wp2_with (refine HR4.o.rep ⟨0,dl,[],[],none⟩ none none 0 0 ?_;intro w5 dB);exact HR4.o.jF dB (qZ.o.trans (by rw[if_neg (fun h=>h BQ.o),←SN.o];rfl))
    ·have BQ:=acA hz;have hz2:(mm.1 !=0)=true:=by simpa using hz
     clear hz;go_wp2_with fail;refine(dR _ _).mono ?_;rintro e w9 ⟨rfl,cO⟩;unfold mG;have fQ:=acA (HR4.o.grow cO);clear cO;go_wp2_with (refine fQ.o.rep (bR mm.1) none none 0 0 ?_;intro w5 dB);exact fQ.o.jF dB (qZ.o.trans (by rw[if_pos BQ.o];rfl))
 ·as_aux_lemma=>
  rw[hk]at z0;have hs4:gH M x [] []=r_ (jB M x):=by rw[fq.o,if_neg (by omega),if_neg (by omega)]
  unfold jB at hs4;rw[HG.o,HG.o]at hs4;have hPUT:∀(o4:Mark) (w4:World) (M':dS),tH W o i (i+3) w p (w.heap.size+1) o4 w4 M'→w4.there p (3+k*3) 3∧tH W o i (i+3) w p (w.heap.size+1) o4 (w4.setCells p (3+k*3) [.int .i64 0,.int .i64 0,.slice none 0 0]) (M'.put k none):=fun o4 w4 M' h=>h.put k Pv _ _ _ none ⟨rfl,rfl,rfl⟩;have qm:=acA hPUT;clear hPUT;cases hw:f.wr with
  |false=>
   rw[hw,if_neg (by simp),if_pos rfl]at hs4;rw[hw]at n0;have n0':w3.cell? ⟨g5,0,none⟩=some (.int .i64 2):=n0;have jk:acB (gH M x [] []=(bR 0,M.put k none)):=acA (hs4.trans (by rw[Fe.o];rfl));have HP5:=acA (qm.o _ _ _ (HR3.o.grow acD.drew));clear hs4 n0 hk hw;go_wp2_with fail;refine qA 7 ((fun w'=>w'.cell? ⟨w.heap.size,3,none⟩=some (.int .i64 k))) ?_ fun hS=> ?_
   ·exact z3
   refine au 0 hS ?_;refine au 1 hS ?_;refine au 2 hS ?_;refine au 3 hS ?_;refine au 4 hS ?_;refine au 5 hS ?_;refine au 6 hS ?_;refine bB 7 fun K hK=> ?_;refine vX rfl 63 _ _ rfl p (3+k*3) #[.int .i64 0,.int .i64 0,.slice none 0 0] rfl rfl HP5.o.1 Ib (by simp[Value.oneCell']) ?_;refine kX hK ?_;clear hS hK K;go_wp2_with (refine HP5.o.2.rep (bR 0) none none 0 0 ?_;intro w5 dB);exact HP5.o.2.jF dB jk.o
  |true=>
   rw[hw,if_pos rfl]at hs4;rw[hw]at n0;have n0':w3.cell? ⟨g5,0,none⟩=some (.int .i64 1):=n0;have qZ:acB (gH M x [] []=r_ (if (eF M.t f.id x.aA).1≠0 then((eF M.t f.id x.aA).1,M.tr (eF M.t f.id x.aA).2)else(0,dS.put (M.tr (eF M.t f.id x.aA).2) x.fd.toNat none))):=acA hs4;have uY:=acA (HR3.o.grow acD.drew);have HZD:=acA (HZ3.o.grow acD.drew);obtain⟨t',c0',hT',Vt⟩:=uY.o.qQ;obtain rfl:t=t':=by
    have e:w3.cell? ⟨p,0,none⟩=some (ptr t'):=c0';rw[c0]at e;simpa[ptr]using e
   have HC:=acA (X5 hT' uY.o.marks iM.o.t.1 f.id x.aA HX.o.wt);obtain⟨mm,hmm⟩:∃mm,mm=eF M.t f.id x.aA:=⟨_,rfl⟩;rw[←hmm]at HC qZ;replace tY:=acA Vt;clear hs4 n0 hk hw hmm hT' Vt c0';go_wp2_with fail;refine yG ((fun w'=>w'.cell? ⟨p,0,none⟩=some (ptr t)∧w'.cell? ⟨g5,1,none⟩=some (.int .i64 f.id)∧w'.cell? ⟨w.heap.size,6,none⟩=some (.int .u64 x.aA))) ?_ fun hS=> ?_
   ·exact⟨c0,n1,z6⟩
   refine aP 0 hS ?_;refine aP 1 hS ?_;refine aP 2 hS ?_;refine aP 3 hS ?_;refine aP 4 hS ?_;refine aP 5 hS ?_;refine aP 6 hS ?_;refine aP 7 hS ?_;refine qh 8 fun K hK=> ?_;go_simp;refine HC.o.mono ?_;rintro e w4 ⟨rfl,o4,hs4,kV⟩;obtain⟨hr4,t_⟩:=tY.o _ _ _ hs4 kV;have HR4:=acA hr4;have Oq:=acA (HZD.o.step (by simp) hs4);have hg5:w4.heap[g5]? =w3.heap[g5]? :=hs4.block HG5.o.2 (by rw[HG5.o.1];omega);have jk:acB (w4.cell? ⟨p,0,none⟩=some (ptr t)∧w4.cell? ⟨g5,1,none⟩=some (.int .i64 f.id)∧w4.cell? ⟨w.heap.size,6,none⟩=some (.int .u64 x.aA)):=by
    refine⟨?_,?_,?_⟩
    ·have:w4.heap[p]? =w3.heap[p]? :=t_;simp only[World.cell?,this]at c0⊢;exact c0
    ·simp only[World.cell?,hg5]at n1⊢;exact n1
    ·obtain⟨y0,y1,y2,y3,y4,y5,y6,y7,y8⟩:=Oq.o.cells;exact y6
   clear hr4 t_ hs4 kV hg5 HC tY;go_wp2_with fail;refine pW hK (jk.o) fun hS=> ?_;clear hK K;refine aP 9 hS ?_;refine xW ?_;by_cases hz:mm.1=0
   ·have BQ:=acA hz;have hz2:(mm.1 !=0)=false:=by simpa using hz
    clear hz;have HP5:=acA (qm.o _ _ _ (HR4.o.grow acD.drew));obtain⟨-,-,-,y3,-,-,-,-,-⟩:=Oq.o.cells;rw[Fe.o]at y3;go_wp2_with fail;refine qA 7 ((fun w'=>w'.cell? ⟨w.heap.size,3,none⟩=some (.int .i64 k))) ?_ fun hS=> ?_
    ·exact y3
    refine au 0 hS ?_;refine au 1 hS ?_;refine au 2 hS ?_;refine au 3 hS ?_;refine au 4 hS ?_;refine au 5 hS ?_;refine au 6 hS ?_;refine bB 7 fun K hK=> ?_;refine vX rfl 63 _ _ rfl p (3+k*3) #[.int .i64 0,.int .i64 0,.slice none 0 0] rfl rfl HP5.o.1 Ib (by simp[Value.oneCell']) ?_;refine kX hK ?_;clear hS hK K;go_wp2_with (refine HP5.o.2.rep (bR 0) none none 0 0 ?_;intro w5 dB);exact HP5.o.2.jF dB (qZ.o.trans (by rw[if_neg (fun h=>h BQ.o),Fe.o];rfl))
   ·have BQ:=acA hz;have hz2:(mm.1 !=0)=true:=by simpa using hz
    clear hz;go_wp2_with fail;refine(dR _ _).mono ?_;rintro e w9 ⟨rfl,cO⟩;unfold mG;have fQ:=acA (HR4.o.grow cO);clear cO;go_wp2_with (refine fQ.o.rep (bR mm.1) none none 0 0 ?_;intro w5 dB);exact fQ.o.jF dB (qZ.o.trans (by rw[if_pos BQ.o];rfl))
end
end Go.Proofs.YtjnhnlabpccgjaaGreatDoor
