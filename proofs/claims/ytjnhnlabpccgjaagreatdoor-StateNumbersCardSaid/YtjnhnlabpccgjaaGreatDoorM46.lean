/-  -/
import Derived.Test.YtjnhnlabpccgjaaGreatDoorM44
import Derived.Test.YtjnhnlabpccgjaaGreatDoorM45
set_option maxRecDepth 100000
set_option maxHeartbeats 64000000
set_option linter.all false
namespace Go.Proofs.YtjnhnlabpccgjaaGreatDoor
open Go.ChangeShapes Go.WideShapes Go.ChangeAt Go.RowKit
section
variable{W w:World}{o:Mark}{i p:Nat}{M:dS}{cc:Int}
theorem Vu(x:jD)(hx:lY x)(hk:x.kind=4∨x.kind=5∨x.kind=6)(hi:0<i)(hS:kT o i w p M)(hM:Marks W o w)(hok:gK cc M)(hcc:cc≤1000000000)(da:Option Addr)(dc:Nat)(hda:ah (Free o w) w da x.data.length (x.data.map bv))(hdl:x.data.length≤1000000):
  Calls Tryz.prog 14 #[ptr p,.agg (opC x da dc)] w (uZ o i (i+4) w p (dH M x)):=by
 obtain⟨o1,w2,hw2,hr,hz,hb⟩:=kN hi (n:=i+4) ⟨by omega,by omega⟩ hS hM x da dc;have HW:=acA hw2;unfold opC eu bR at HW;dsimp only[List.length_nil]at HW;have HR:=acA hr;have HZ:=acA hz;have HB:=acA hb;have HI:=acA hi;have HX:=acA hx;have u_:=acA hk;have iM:=acA hok;have Ez:=acA hcc;have jE:=acA hda;have xS:=acA hdl;clear hx hk hok hcc hda hdl;clear hw2 hr hz hb hS hM hi;unfold opC;go_enter ab1,abV;go_upto_region 1 with(fail);rw[←HW.o];clear HW;have RH:acB (x.kind=4∨x.kind=5∨x.kind=6∨x.kind=14∨x.kind=15∨x.kind=16∨x.kind=17):=acA (by have:=u_.o;omega);have jI:=acA (tJ (M:=M) RH.o);obtain⟨z0,-,-,-,-,-,-,-,-⟩:=HZ.o.cells;rcases u_.o with hk|hk|hk
 all_goals as_aux_lemma=>
  rw[hk]at z0;go_wp2_with fail;refine(zH _ (by decide) _).mono ?_;rintro e w3 ⟨rfl,hb3⟩;have HR3:=acA (HR.o.grow hb3);have HZ3:=acA (HZ.o.grow hb3);have HB3:=acA (HB.o.trans (hb3.mono HB.o.size));clear HR HZ hb3;obtain⟨z0,z1,z2,z3,z4,z5,z6,z7,z8⟩:=HZ3.o.cells;rw[hk]at z0;have hda3:ah (Free o1 w3) w3 da x.data.length (x.data.map bv):=jE.o.move HB3.o.size fun b hb hbw=>⟨⟨(HR3.o.step.old b hbw).trans hb.1,Pd hbw HB3.o.size⟩,HB3.o.block b hbw⟩;have HC:=acA (YJ x HX.o (by omega) HR3.o.hi HR3.o.st HR3.o.marks iM.o da dc hda3 xS.o);unfold opC at HC;rw[hk]at HC;clear hda3;go_wp2_with fail;refine HC.o.mono ?_;rintro e w5 ⟨o4,⟨v4,rfl,Av,Aw,Ay,Az,rfl,k1,k2,k3,k4⟩,hs4,oh⟩;have mP:=acA (HR3.o.turn (fun m hm=>by omega) hs4 oh);have Lu:=acA (And.intro k1 (And.intro k2 (And.intro k3 k4)));clear hs4 oh k1 k2 k3 k4;go_wp2_with (refine mP.o.rep _ Av Aw Ay Az ?_;intro w6 dB);exact mP.o.ret dB jI.o ⟨Lu.o.1,Lu.o.2.1,Lu.o.2.2.1,Lu.o.2.2.2⟩
theorem M9(x:jD)(hx:lY x)(hk:x.kind=14)(hi:0<i)(hS:kT o i w p M)(hM:Marks W o w)(hok:gK cc M)(hcc:cc≤1000000000)(da:Option Addr)(dc:Nat)(hda:ah (Free o w) w da x.data.length (x.data.map bv))(hdl:x.data.length≤1000000):
  Calls Tryz.prog 14 #[ptr p,.agg (opC x da dc)] w (uZ o i (i+4) w p (dH M x)):=by
 obtain⟨o1,w2,hw2,hr,hz,hb⟩:=kN hi (n:=i+4) ⟨by omega,by omega⟩ hS hM x da dc;have HW:=acA hw2;unfold opC eu bR at HW;dsimp only[List.length_nil]at HW;have HR:=acA hr;have HZ:=acA hz;have HB:=acA hb;have HI:=acA hi;have HX:=acA hx;have u_:=acA hk;have iM:=acA hok;have Ez:=acA hcc;have jE:=acA hda;have xS:=acA hdl;clear hx hk hok hcc hda hdl;clear hw2 hr hz hb hS hM hi;unfold opC;go_enter ab1,abV;go_upto_region 1 with(fail);rw[←HW.o];clear HW;have RH:acB (x.kind=4∨x.kind=5∨x.kind=6∨x.kind=14∨x.kind=15∨x.kind=16∨x.kind=17):=acA (by have:=u_.o;omega);have jI:=acA (tJ (M:=M) RH.o);obtain⟨z0,-,-,-,-,-,-,-,-⟩:=HZ.o.cells;have hk:=u_.o;rw[hk]at z0;go_wp2_with fail;refine(zH _ (by decide) _).mono ?_;rintro e w3 ⟨rfl,hb3⟩;have HR3:=acA (HR.o.grow hb3);have HZ3:=acA (HZ.o.grow hb3);have HB3:=acA (HB.o.trans (hb3.mono HB.o.size));clear HR HZ hb3;obtain⟨z0,z1,z2,z3,z4,z5,z6,z7,z8⟩:=HZ3.o.cells;rw[hk]at z0;have uY:=acA (HR3.o.grow acD.drew);obtain⟨t,s,y0,y1,-,hT,hS,hsr⟩:=uY.o.DK;have c0:w3.cell? ⟨p,0,none⟩=some (ptr t):=y0;have c1:w3.cell? ⟨p,1,none⟩=some (ptr s):=y1;have HC:=acA (QT hS hT uY.o.marks (by have:=HI.o;omega) iM.o.t.1 iM.o.s.few iM.o.s.last iM.o.next.1 (by have:=iM.o.next.2;have:=Ez.o;omega));have qZ:acB (gH M x [] []=(⟨(gX M.s M.t).1.2,(gX M.s M.t).1.1,[],[],none⟩,M.sn (gX M.s M.t).2)):=by
  show _=_;unfold gH;simp[hk]
 obtain⟨mm,hmm⟩:∃mm,mm=gX M.s M.t:=⟨_,rfl⟩;rw[←hmm]at HC qZ;have Cn:=acA hsr;clear hmm hT hS hsr y0 y1;go_wp2_with fail;refine yG ((fun w'=>w'.cell? ⟨p,0,none⟩=some (ptr t)∧w'.cell? ⟨p,1,none⟩=some (ptr s))) ?_ fun hS=> ?_
 ·exact⟨c0,c1⟩
 refine aP 0 hS ?_;refine aP 1 hS ?_;refine aP 2 hS ?_;refine aP 3 hS ?_;refine aP 4 hS ?_;refine aP 5 hS ?_;refine aP 6 hS ?_;refine aP 7 hS ?_;refine qh 8 fun K hK=> ?_;go_simp;refine HC.o.mono ?_;rintro e w4 ⟨rfl,hs4,oh⟩;obtain⟨hr4,t_⟩:=Cn.o _ _ _ hs4 oh;have HR4:=acA hr4;have jk:acB (w4.cell? ⟨p,0,none⟩=some (ptr t)∧w4.cell? ⟨p,1,none⟩=some (ptr s)):=by
  have:w4.heap[p]? =w3.heap[p]? :=t_;simp only[World.cell?,this]at c0 c1⊢;exact⟨c0,c1⟩
 clear hr4 t_ hs4 oh HC;go_wp2_with fail;refine pW hK (jk.o) fun hS=> ?_;clear hK K;refine aP 9 hS ?_;refine aP 10 hS ?_;refine aP 11 hS ?_;refine aP 12 hS ?_;refine aP 13 hS ?_;refine xW ?_;go_wp2_with (refine HR4.o.rep ⟨mm.1.2,mm.1.1,[],[],none⟩ none none 0 0 ?_;intro w5 dB);exact HR4.o.jF dB (jI.o.trans qZ.o)
theorem Ig(x:jD)(hx:lY x)(hk:x.kind=15)(hi:0<i)(hS:kT o i w p M)(hM:Marks W o w)(hok:gK cc M)(hcc:cc≤1000000000)(da:Option Addr)(dc:Nat)(hda:ah (Free o w) w da x.data.length (x.data.map bv))(hdl:x.data.length≤1000000):
  Calls Tryz.prog 14 #[ptr p,.agg (opC x da dc)] w (uZ o i (i+4) w p (dH M x)):=by
 obtain⟨o1,w2,hw2,hr,hz,hb⟩:=kN hi (n:=i+4) ⟨by omega,by omega⟩ hS hM x da dc;have HW:=acA hw2;unfold opC eu bR at HW;dsimp only[List.length_nil]at HW;have HR:=acA hr;have HZ:=acA hz;have HB:=acA hb;have HI:=acA hi;have HX:=acA hx;have u_:=acA hk;have iM:=acA hok;have Ez:=acA hcc;have jE:=acA hda;have xS:=acA hdl;clear hx hk hok hcc hda hdl;clear hw2 hr hz hb hS hM hi;unfold opC;go_enter ab1,abV;go_upto_region 1 with(fail);rw[←HW.o];clear HW;have RH:acB (x.kind=4∨x.kind=5∨x.kind=6∨x.kind=14∨x.kind=15∨x.kind=16∨x.kind=17):=acA (by have:=u_.o;omega);have jI:=acA (tJ (M:=M) RH.o);obtain⟨z0,-,-,-,-,-,-,-,-⟩:=HZ.o.cells;have hk:=u_.o;rw[hk]at z0;go_wp2_with fail;refine(zH _ (by decide) _).mono ?_;rintro e w3 ⟨rfl,hb3⟩;have HR3:=acA (HR.o.grow hb3);have HZ3:=acA (HZ.o.grow hb3);have HB3:=acA (HB.o.trans (hb3.mono HB.o.size));clear HR HZ hb3;obtain⟨z0,z1,z2,z3,z4,z5,z6,z7,z8⟩:=HZ3.o.cells;rw[hk]at z0;have uY:=acA (HR3.o.grow acD.drew);have HZD:=acA (HZ3.o.grow acD.drew);obtain⟨t,s,-,y1,y2,hT,hS,hsr⟩:=uY.o.DK;have c1:w3.cell? ⟨p,1,none⟩=some (ptr s):=y1;have c2:w3.cell? ⟨p,2,none⟩=some (.int .u64 M.now):=y2;have HC:=acA (Kw hS uY.o.marks (by have:=HI.o;omega) iM.o.s.few x.snap M.now);have qZ:acB (gH M x [] []=(bR (iH M.s x.snap M.now).1,M.sn (iH M.s x.snap M.now).2)):=by
  show _=_;unfold gH;simp[hk]
 have Cn:=acA hsr;clear hT hS hsr y1 y2;go_wp2_with fail;refine qA 12 ((fun w'=>w'.cell? ⟨p,1,none⟩=some (ptr s)∧w'.cell? ⟨p,2,none⟩=some (.int .u64 M.now)∧w'.cell? ⟨w.heap.size,7,none⟩=some (.int .i64 x.snap))) ?_ fun hS=> ?_
 ·exact⟨c1,c2,z7⟩
 refine au 0 hS ?_;refine au 1 hS ?_;refine au 2 hS ?_;refine au 3 hS ?_;refine au 4 hS ?_;refine au 5 hS ?_;refine au 6 hS ?_;refine au 7 hS ?_;refine au 8 hS ?_;refine au 9 hS ?_;refine bB 10 fun K hK=> ?_;go_simp;refine HC.o.mono ?_;rintro e w4 ⟨er,S4,rfl,hfr,hs4,oh⟩;obtain⟨hr4,t_⟩:=Cn.o _ _ _ hs4 oh;have HR4:=acA hr4;have Bv:=(HZD.o.step (by have:=HI.o;omega) hs4).cells.2.2.2.2.2.2.2.1;have jk:acB (w4.cell? ⟨p,1,none⟩=some (ptr s)∧w4.cell? ⟨p,2,none⟩=some (.int .u64 M.now)∧w4.cell? ⟨w.heap.size,7,none⟩=some (.int .i64 x.snap)):=by
  have:w4.heap[p]? =w3.heap[p]? :=t_;refine⟨?_,?_,Bv⟩
  ·simp only[World.cell?,this]at c1⊢;exact c1
  ·simp only[World.cell?,this]at c2⊢;exact c2
 have hfe:=hfr.eq;rw[hfe]at qZ;clear hr4 t_ hs4 oh HC Bv hfr hfe;go_wp2_with fail;refine bK hK (jk.o) fun hS=> ?_;clear hK K;refine bB 11 fun K hK=> ?_;go_simp;refine(dR _ _).mono ?_;rintro e w9 ⟨rfl,cO⟩;unfold mG;have fQ:=acA (HR4.o.grow cO);have Qe:=acA (And.intro ((cO.cell (aag w4 _ jk.o.1)).trans jk.o.1) (And.intro ((cO.cell (aag w4 _ jk.o.2.1)).trans jk.o.2.1) ((cO.cell (aag w4 _ jk.o.2.2)).trans jk.o.2.2)));clear cO;go_wp2_with fail;refine bK hK (Qe.o) fun hS=> ?_;clear hK K;refine bB 12 fun K hK=> ?_;refine fQ.o.srep (bR er) none none 0 0 ?_;intro Dj dB;refine kX hK ?_;clear hS hK K;go_wp2_with fail;exact fQ.o.jF dB (jI.o.trans qZ.o)
theorem M_(x:jD)(hx:lY x)(hk:x.kind=16)(hi:0<i)(hS:kT o i w p M)(hM:Marks W o w)(hok:gK cc M)(hcc:cc≤1000000000)(da:Option Addr)(dc:Nat)(hda:ah (Free o w) w da x.data.length (x.data.map bv))(hdl:x.data.length≤1000000):
  Calls Tryz.prog 14 #[ptr p,.agg (opC x da dc)] w (uZ o i (i+4) w p (dH M x)):=by
 obtain⟨o1,w2,hw2,hr,hz,hb⟩:=kN hi (n:=i+4) ⟨by omega,by omega⟩ hS hM x da dc;have HW:=acA hw2;unfold opC eu bR at HW;dsimp only[List.length_nil]at HW;have HR:=acA hr;have HZ:=acA hz;have HB:=acA hb;have HI:=acA hi;have HX:=acA hx;have u_:=acA hk;have iM:=acA hok;have Ez:=acA hcc;have jE:=acA hda;have xS:=acA hdl;clear hx hk hok hcc hda hdl;clear hw2 hr hz hb hS hM hi;unfold opC;go_enter ab1,abV;go_upto_region 1 with(fail);rw[←HW.o];clear HW;have RH:acB (x.kind=4∨x.kind=5∨x.kind=6∨x.kind=14∨x.kind=15∨x.kind=16∨x.kind=17):=acA (by have:=u_.o;omega);have jI:=acA (tJ (M:=M) RH.o);obtain⟨z0,-,-,-,-,-,-,-,-⟩:=HZ.o.cells;have hk:=u_.o;rw[hk]at z0;go_wp2_with fail;refine(zH _ (by decide) _).mono ?_;rintro e w3 ⟨rfl,hb3⟩;have HR3:=acA (HR.o.grow hb3);have HZ3:=acA (HZ.o.grow hb3);have HB3:=acA (HB.o.trans (hb3.mono HB.o.size));clear HR HZ hb3;obtain⟨z0,z1,z2,z3,z4,z5,z6,z7,z8⟩:=HZ3.o.cells;rw[hk]at z0;have uY:=acA (HR3.o.grow acD.drew);have qZ:acB (gH M x [] []=(bR 0,{M with now:=oW M.now x.aA})):=by
  show _=_;unfold gH;simp[hk]
 obtain⟨y2,y3,hck⟩:=uY.o.clock x.aA;have c2:w3.cell? ⟨p,2,none⟩=some (.int .u64 M.now):=y2;have Yo:=acA hck;clear y2 hck;by_cases h1:x.aA≤1099511627776
 ·have h1b:decide (x.aA≤1099511627776)=true:=by simpa using h1
  by_cases h2:M.now<x.aA
  ·have h2b:decide (M.now<x.aA)=true:=by simpa using h2
   have El:acB (gH M x [] []=(bR 0,{M with now:=x.aA})):=by
    show _=_;rw[qZ.o];unfold oW;rw[if_pos h1,if_pos (by omega)]
   clear h1 h2;go_wp2_with fail;refine yG ((fun w'=>w'.cell? ⟨w.heap.size,6,none⟩=some (.int .u64 x.aA)∧w'.cell? ⟨p,2,none⟩=some (.int .u64 M.now))) ?_ fun hS=> ?_
   ·exact⟨z6,c2⟩
   refine aP 0 hS ?_;refine aP 1 hS ?_;refine aP 2 hS ?_;refine aP 3 hS ?_;refine aP 4 hS ?_;refine aP 5 hS ?_;refine aP 6 hS ?_;refine aP 7 hS ?_;refine aP 8 hS ?_;refine aP 9 hS ?_;refine aP 10 hS ?_;refine aP 11 hS ?_;refine xW ?_;have z6':w3.drew.cell? ⟨w.heap.size,6,none⟩=some (.int .u64 x.aA):=z6;have c2':w3.drew.cell? ⟨p,2,none⟩=some (.int .u64 M.now):=c2;go_wp2_with (refine Yo.o.rep (bR 0) none none 0 0 ?_;intro w5 dB);exact Yo.o.jF dB (jI.o.trans El.o)
  ·have h2b:decide (M.now<x.aA)=false:=by simpa using h2
   have El:acB (gH M x [] []=(bR 0,M)):=by
    show _=_;rw[qZ.o];unfold oW;rw[if_pos h1];by_cases h3:M.now≤x.aA
    ·rw[if_pos h3,show x.aA=M.now by omega]
    ·rw[if_neg h3]
   clear h1 h2;go_wp2_with fail;refine yG ((fun w'=>w'.cell? ⟨w.heap.size,6,none⟩=some (.int .u64 x.aA)∧w'.cell? ⟨p,2,none⟩=some (.int .u64 M.now))) ?_ fun hS=> ?_
   ·exact⟨z6,c2⟩
   refine aP 0 hS ?_;refine aP 1 hS ?_;refine aP 2 hS ?_;refine aP 3 hS ?_;refine aP 4 hS ?_;refine aP 5 hS ?_;refine aP 6 hS ?_;refine aP 7 hS ?_;refine aP 8 hS ?_;refine aP 9 hS ?_;refine aP 10 hS ?_;refine aP 11 hS ?_;refine xW ?_;go_wp2_with (refine uY.o.rep (bR 0) none none 0 0 ?_;intro w5 dB);exact uY.o.jF dB (jI.o.trans El.o)
 ·have h1b:decide (x.aA≤1099511627776)=false:=by simpa using h1
  have El:acB (gH M x [] []=(bR 0,M)):=by
   show _=_;rw[qZ.o];unfold oW;rw[if_neg h1]
  clear h1;go_wp2_with fail;refine yG ((fun w'=>w'.cell? ⟨w.heap.size,6,none⟩=some (.int .u64 x.aA))) ?_ fun hS=> ?_
  ·exact z6
  refine aP 0 hS ?_;refine aP 1 hS ?_;refine aP 2 hS ?_;refine aP 3 hS ?_;refine rJ 4 hS ?_;refine rJ 5 hS ?_;refine rJ 6 hS ?_;refine rJ 7 hS ?_;refine rJ 8 hS ?_;refine rJ 9 hS ?_;refine rJ 10 hS ?_;refine aP 11 hS ?_;refine xW ?_;go_wp2_with (refine uY.o.rep (bR 0) none none 0 0 ?_;intro w5 dB);exact uY.o.jF dB (jI.o.trans El.o)
theorem Na(x:jD)(hx:lY x)(hk:x.kind=17)(hi:0<i)(hS:kT o i w p M)(hM:Marks W o w)(hok:gK cc M)(hcc:cc≤1000000000)(da:Option Addr)(dc:Nat)(hda:ah (Free o w) w da x.data.length (x.data.map bv))(hdl:x.data.length≤1000000):
  Calls Tryz.prog 14 #[ptr p,.agg (opC x da dc)] w (uZ o i (i+4) w p (dH M x)):=by
 obtain⟨o1,w2,hw2,hr,hz,hb⟩:=kN hi (n:=i+4) ⟨by omega,by omega⟩ hS hM x da dc;have HW:=acA hw2;unfold opC eu bR at HW;dsimp only[List.length_nil]at HW;have HR:=acA hr;have HZ:=acA hz;have HB:=acA hb;have HI:=acA hi;have HX:=acA hx;have u_:=acA hk;have iM:=acA hok;have Ez:=acA hcc;have jE:=acA hda;have xS:=acA hdl;clear hx hk hok hcc hda hdl;clear hw2 hr hz hb hS hM hi;unfold opC;go_enter ab1,abV;go_upto_region 1 with(fail);rw[←HW.o];clear HW;have RH:acB (x.kind=4∨x.kind=5∨x.kind=6∨x.kind=14∨x.kind=15∨x.kind=16∨x.kind=17):=acA (by have:=u_.o;omega);have jI:=acA (tJ (M:=M) RH.o);obtain⟨z0,-,-,-,-,-,-,-,-⟩:=HZ.o.cells;have hk:=u_.o;rw[hk]at z0;go_wp2_with fail;refine(zH _ (by decide) _).mono ?_;rintro e w3 ⟨rfl,hb3⟩;have HR3:=acA (HR.o.grow hb3);have HZ3:=acA (HZ.o.grow hb3);have HB3:=acA (HB.o.trans (hb3.mono HB.o.size));clear HR HZ hb3;obtain⟨z0,z1,z2,z3,z4,z5,z6,z7,z8⟩:=HZ3.o.cells;rw[hk]at z0;have qZ:acB (gH M x [] []=(bR 0,M)):=by
  show _=_;unfold gH;simp[hk]
 go_wp2_with (refine HR3.o.rep (bR 0) none none 0 0 ?_;intro w5 dB);exact HR3.o.jF dB (jI.o.trans qZ.o)
end
section
variable{W w:World}{o:Mark}{i p:Nat}{M:dS}{cc:Int}
theorem Q7(x:jD)(hx:lY x)(hi:0<i)(hS:kT o i w p M)(hM:Marks W o w)(hok:gK cc M)(hcc:cc≤1000000000)(da:Option Addr)(dc:Nat)(hda:ah (Free o w) w da x.data.length (x.data.map bv))(hdl:x.data.length≤1000000):
  Calls Tryz.prog 14 #[ptr p,.agg (opC x da dc)] w (uZ o i (i+4) w p (dH M x)):=by
 by_cases h:1≤x.kind∧x.kind≤17
 ·by_cases h1:x.kind=1∨x.kind=2∨x.kind=3∨x.kind=8∨x.kind=9∨x.kind=11∨x.kind=12∨x.kind=13
  ·exact Q5 x hx h1 hi hS hM hok hcc da dc hda hdl
  ·by_cases h2:x.kind=7∨x.kind=10
   ·exact Q6 x hx h2 hi hS hM hok hcc da dc hda hdl
   ·by_cases h3:x.kind=4∨x.kind=5∨x.kind=6
    ·exact Vu x hx h3 hi hS hM hok hcc da dc hda hdl
    ·rcases (show x.kind=14∨x.kind=15∨x.kind=16∨x.kind=17 by omega)with h4|h4|h4|h4
     ·exact M9 x hx h4 hi hS hM hok hcc da dc hda hdl
     ·exact Ig x hx h4 hi hS hM hok hcc da dc hda hdl
     ·exact M_ x hx h4 hi hS hM hok hcc da dc hda hdl
     ·exact Na x hx h4 hi hS hM hok hcc da dc hda hdl
 ·exact Q0 x hx h hi hS hM hok hcc da dc hda hdl
end
end Go.Proofs.YtjnhnlabpccgjaaGreatDoor
