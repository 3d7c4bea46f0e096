/-  -/
import Derived.Test.YtjnhnlabpccgjaaGreatDoorM36
import Derived.Test.YtjnhnlabpccgjaaGreatDoorM37
import Derived.Test.YtjnhnlabpccgjaaGreatDoorM18
import Derived.Test.YtjnhnlabpccgjaaGreatDoorM16
import Derived.Test.YtjnhnlabpccgjaaGreatDoorM14
import Derived.Test.YtjnhnlabpccgjaaGreatDoorM20
import Derived.Test.YtjnhnlabpccgjaaGreatDoorM32
import Derived.Test.YtjnhnlabpccgjaaGreatDoorM34
import Derived.Test.YtjnhnlabpccgjaaGreatDoorM24
import Derived.Test.YtjnhnlabpccgjaaGreatDoorM23
set_option maxRecDepth 100000
set_option maxHeartbeats 64000000
set_option linter.all false
namespace Go.Proofs.YtjnhnlabpccgjaaGreatDoor
open Go.ChangeShapes Go.WideShapes Go.ChangeAt Go.RowKit
section
variable{W w:World}{o:Mark}{i p:Nat}{M:dQ}{cc:Int}
theorem VE(x:jK)(hx:nN x)(hk:x.kind=4∨x.kind=5∨x.kind=6)(hi:0<i)(hS:j_ o i w p M)(hM:Marks W o w)(hok:fQ cc M)(hcc:cc≤1000000000)(da:Option Addr)(dc:Nat)(hda:ah (Free o w) w da x.data.length (x.data.map bv))(hdl:x.data.length≤1000000):
  Calls Tryz.prog 14 #[ptr p,.agg (opC x da dc)] w (uV o i (i+4) w p (fE M x)):=by
 obtain⟨o1,w2,hw2,hr,hz,hb⟩:=jV hi (n:=i+4) ⟨by omega,by omega⟩ hS hM x da dc;have HW:=acr hw2;unfold opC jd dR at HW;dsimp only[List.length_nil]at HW;have HR:=acr hr;have HZ:=acr hz;have HB:=acr hb;have HI:=acr hi;have HX:=acr hx;have uW:=acr hk;have jO:=acr hok;have Ow:=acr hcc;have uT:=acr hda;have vC:=acr hdl;clear hx hk hok hcc hda hdl;clear hw2 hr hz hb hS hM hi;unfold opC;go_enter abZ,abT;go_upto_region 1 with(fail);rw[←HW.o];clear HW;have Gt:acs (x.kind=4∨x.kind=5∨x.kind=6∨x.kind=14∨x.kind=15∨x.kind=16∨x.kind=17):=acr (by have:=uW.o;omega);have ko:=acr (sN (M:=M) Gt.o);obtain⟨z0,-,-,-,-,-,-,-,-⟩:=HZ.o.cells;rcases uW.o with hk|hk|hk
 all_goals as_aux_lemma=>
  rw[hk]at z0;go_wp2_with fail;refine(zF _ (by decide) _).mono ?_;rintro e w3 ⟨rfl,hb3⟩;have HR3:=acr (HR.o.grow hb3);have HZ3:=acr (HZ.o.grow hb3);have HB3:=acr (HB.o.trans (hb3.mono HB.o.size));clear HR HZ hb3;obtain⟨z0,z1,z2,z3,z4,z5,z6,z7,z8⟩:=HZ3.o.cells;rw[hk]at z0;have hda3:ah (Free o1 w3) w3 da x.data.length (x.data.map bv):=uT.o.move HB3.o.size fun b hb hbw=>⟨⟨(HR3.o.step.old b hbw).trans hb.1,Nat.lt_of_lt_of_le hbw HB3.o.size⟩,HB3.o.block b hbw⟩;have HC:=acr (YR x HX.o (by omega) HR3.o.hi HR3.o.st HR3.o.marks jO.o da dc hda3 vC.o);unfold opC at HC;rw[hk]at HC;clear hda3;go_wp2_with fail;refine HC.o.mono ?_;rintro e w5 ⟨o4,⟨v4,rfl,JN,JO,JQ,JR,rfl,k1,k2,k3,k4⟩,hs4,uH⟩;have oM:=acr (HR3.o.turn (fun m hm=>by omega) hs4 uH);have Dl:=acr (And.intro k1 (And.intro k2 (And.intro k3 k4)));clear hs4 uH k1 k2 k3 k4;go_wp2_with (refine oM.o.rep _ JN JO JQ JR ?_;intro w6 eU);exact oM.o.ret eU ko.o ⟨Dl.o.1,Dl.o.2.1,Dl.o.2.2.1,Dl.o.2.2.2⟩
theorem Np(x:jK)(hx:nN x)(hk:x.kind=14)(hi:0<i)(hS:j_ o i w p M)(hM:Marks W o w)(hok:fQ cc M)(hcc:cc≤1000000000)(da:Option Addr)(dc:Nat)(hda:ah (Free o w) w da x.data.length (x.data.map bv))(hdl:x.data.length≤1000000):
  Calls Tryz.prog 14 #[ptr p,.agg (opC x da dc)] w (uV o i (i+4) w p (fE M x)):=by
 obtain⟨o1,w2,hw2,hr,hz,hb⟩:=jV hi (n:=i+4) ⟨by omega,by omega⟩ hS hM x da dc;have HW:=acr hw2;unfold opC jd dR at HW;dsimp only[List.length_nil]at HW;have HR:=acr hr;have HZ:=acr hz;have HB:=acr hb;have HI:=acr hi;have HX:=acr hx;have uW:=acr hk;have jO:=acr hok;have Ow:=acr hcc;have uT:=acr hda;have vC:=acr hdl;clear hx hk hok hcc hda hdl;clear hw2 hr hz hb hS hM hi;unfold opC;go_enter abZ,abT;go_upto_region 1 with(fail);rw[←HW.o];clear HW;have Gt:acs (x.kind=4∨x.kind=5∨x.kind=6∨x.kind=14∨x.kind=15∨x.kind=16∨x.kind=17):=acr (by have:=uW.o;omega);have ko:=acr (sN (M:=M) Gt.o);obtain⟨z0,-,-,-,-,-,-,-,-⟩:=HZ.o.cells;have hk:=uW.o;rw[hk]at z0;go_wp2_with fail;refine(zF _ (by decide) _).mono ?_;rintro e w3 ⟨rfl,hb3⟩;have HR3:=acr (HR.o.grow hb3);have HZ3:=acr (HZ.o.grow hb3);have HB3:=acr (HB.o.trans (hb3.mono HB.o.size));clear HR HZ hb3;obtain⟨z0,z1,z2,z3,z4,z5,z6,z7,z8⟩:=HZ3.o.cells;rw[hk]at z0;have rz:=acr (HR3.o.grow acv.drew);obtain⟨t,s,y0,y1,-,hT,hS,hsr⟩:=rz.o.OW;have c0:w3.cell? ⟨p,0,none⟩=some (ptr t):=y0;have c1:w3.cell? ⟨p,1,none⟩=some (ptr s):=y1;have HC:=acr (RD hS hT rz.o.marks (by have:=HI.o;omega) jO.o.t.1 jO.o.s.few jO.o.s.last jO.o.next.1 (by have:=jO.o.next.2;have:=Ow.o;omega));have qF:acs (f_ M x [] []=(⟨(jB M.s M.t).1.2,(jB M.s M.t).1.1,[],[],none⟩,M.sn (jB M.s M.t).2)):=by
  show _=_;unfold f_;simp[hk]
 obtain⟨mm,hmm⟩:∃mm,mm=jB M.s M.t:=⟨_,rfl⟩;rw[←hmm]at HC qF;have Cw:=acr hsr;clear hmm hT hS hsr y0 y1;go_wp2_with fail;refine BP ((fun w'=>w'.cell? ⟨p,0,none⟩=some (ptr t)∧w'.cell? ⟨p,1,none⟩=some (ptr s))) ?_ fun hS=> ?_
 ·exact⟨c0,c1⟩
 refine aX 0 hS ?_;refine aX 1 hS ?_;refine aX 2 hS ?_;refine aX 3 hS ?_;refine aX 4 hS ?_;refine aX 5 hS ?_;refine aX 6 hS ?_;refine aX 7 hS ?_;refine Bl 8 fun K hK=> ?_;go_simp;refine HC.o.mono ?_;rintro e w4 ⟨rfl,hs4,uH⟩;obtain⟨hr4,Fg⟩:=Cw.o _ _ _ hs4 uH;have HR4:=acr hr4;have qM:acs (w4.cell? ⟨p,0,none⟩=some (ptr t)∧w4.cell? ⟨p,1,none⟩=some (ptr s)):=by
  have:w4.heap[p]? =w3.heap[p]? :=Fg;simp only[World.cell?,this]at c0 c1⊢;exact⟨c0,c1⟩
 clear hr4 Fg hs4 uH HC;go_wp2_with fail;refine Ag hK (qM.o) fun hS=> ?_;clear hK K;refine aX 9 hS ?_;refine aX 10 hS ?_;refine aX 11 hS ?_;refine aX 12 hS ?_;refine aX 13 hS ?_;refine Bn ?_;go_wp2_with (refine HR4.o.rep ⟨mm.1.2,mm.1.1,[],[],none⟩ none none 0 0 ?_;intro w5 eU);exact HR4.o.je eU (ko.o.trans qF.o)
theorem Io(x:jK)(hx:nN x)(hk:x.kind=15)(hi:0<i)(hS:j_ o i w p M)(hM:Marks W o w)(hok:fQ cc M)(hcc:cc≤1000000000)(da:Option Addr)(dc:Nat)(hda:ah (Free o w) w da x.data.length (x.data.map bv))(hdl:x.data.length≤1000000):
  Calls Tryz.prog 14 #[ptr p,.agg (opC x da dc)] w (uV o i (i+4) w p (fE M x)):=by
 obtain⟨o1,w2,hw2,hr,hz,hb⟩:=jV hi (n:=i+4) ⟨by omega,by omega⟩ hS hM x da dc;have HW:=acr hw2;unfold opC jd dR at HW;dsimp only[List.length_nil]at HW;have HR:=acr hr;have HZ:=acr hz;have HB:=acr hb;have HI:=acr hi;have HX:=acr hx;have uW:=acr hk;have jO:=acr hok;have Ow:=acr hcc;have uT:=acr hda;have vC:=acr hdl;clear hx hk hok hcc hda hdl;clear hw2 hr hz hb hS hM hi;unfold opC;go_enter abZ,abT;go_upto_region 1 with(fail);rw[←HW.o];clear HW;have Gt:acs (x.kind=4∨x.kind=5∨x.kind=6∨x.kind=14∨x.kind=15∨x.kind=16∨x.kind=17):=acr (by have:=uW.o;omega);have ko:=acr (sN (M:=M) Gt.o);obtain⟨z0,-,-,-,-,-,-,-,-⟩:=HZ.o.cells;have hk:=uW.o;rw[hk]at z0;go_wp2_with fail;refine(zF _ (by decide) _).mono ?_;rintro e w3 ⟨rfl,hb3⟩;have HR3:=acr (HR.o.grow hb3);have HZ3:=acr (HZ.o.grow hb3);have HB3:=acr (HB.o.trans (hb3.mono HB.o.size));clear HR HZ hb3;obtain⟨z0,z1,z2,z3,z4,z5,z6,z7,z8⟩:=HZ3.o.cells;rw[hk]at z0;have rz:=acr (HR3.o.grow acv.drew);have HZD:=acr (HZ3.o.grow acv.drew);obtain⟨t,s,-,y1,y2,hT,hS,hsr⟩:=rz.o.OW;have c1:w3.cell? ⟨p,1,none⟩=some (ptr s):=y1;have c2:w3.cell? ⟨p,2,none⟩=some (.int .u64 M.now):=y2;have HC:=acr (Kl hS rz.o.marks (by have:=HI.o;omega) jO.o.s.few x.snap M.now);have qF:acs (f_ M x [] []=(dR (iy M.s x.snap M.now).1,M.sn (iy M.s x.snap M.now).2)):=by
  show _=_;unfold f_;simp[hk]
 have Cw:=acr hsr;clear hT hS hsr y1 y2;go_wp2_with fail;refine wQ 12 ((fun w'=>w'.cell? ⟨p,1,none⟩=some (ptr s)∧w'.cell? ⟨p,2,none⟩=some (.int .u64 M.now)∧w'.cell? ⟨w.heap.size,7,none⟩=some (.int .i64 x.snap))) ?_ fun hS=> ?_
 ·exact⟨c1,c2,z7⟩
 refine aC 0 hS ?_;refine aC 1 hS ?_;refine aC 2 hS ?_;refine aC 3 hS ?_;refine aC 4 hS ?_;refine aC 5 hS ?_;refine aC 6 hS ?_;refine aC 7 hS ?_;refine aC 8 hS ?_;refine aC 9 hS ?_;refine bU 10 fun K hK=> ?_;go_simp;refine HC.o.mono ?_;rintro e w4 ⟨er,S4,rfl,hfr,hs4,uH⟩;obtain⟨hr4,Fg⟩:=Cw.o _ _ _ hs4 uH;have HR4:=acr hr4;have Bt:=(HZD.o.step (by have:=HI.o;omega) hs4).cells.2.2.2.2.2.2.2.1;have qM:acs (w4.cell? ⟨p,1,none⟩=some (ptr s)∧w4.cell? ⟨p,2,none⟩=some (.int .u64 M.now)∧w4.cell? ⟨w.heap.size,7,none⟩=some (.int .i64 x.snap)):=by
  have:w4.heap[p]? =w3.heap[p]? :=Fg;refine⟨?_,?_,Bt⟩
  ·simp only[World.cell?,this]at c1⊢;exact c1
  ·simp only[World.cell?,this]at c2⊢;exact c2
 have hfe:=hfr.eq;rw[hfe]at qF;clear hr4 Fg hs4 uH HC Bt hfr hfe;go_wp2_with fail;refine bV hK (qM.o) fun hS=> ?_;clear hK K;refine bU 11 fun K hK=> ?_;go_simp;refine(dI _ _).mono ?_;rintro e w9 ⟨rfl,eH⟩;unfold pz;have gQ:=acr (HR4.o.grow eH);have HS9:=acr (And.intro ((eH.cell (aaj w4 _ qM.o.1)).trans qM.o.1) (And.intro ((eH.cell (aaj w4 _ qM.o.2.1)).trans qM.o.2.1) ((eH.cell (aaj w4 _ qM.o.2.2)).trans qM.o.2.2)));clear eH;go_wp2_with fail;refine bV hK (HS9.o) fun hS=> ?_;clear hK K;refine bU 12 fun K hK=> ?_;refine gQ.o.srep (dR er) none none 0 0 ?_;intro Oq eU;refine nk hK ?_;clear hS hK K;go_wp2_with fail;exact gQ.o.je eU (ko.o.trans qF.o)
theorem Nq(x:jK)(hx:nN x)(hk:x.kind=16)(hi:0<i)(hS:j_ o i w p M)(hM:Marks W o w)(hok:fQ cc M)(hcc:cc≤1000000000)(da:Option Addr)(dc:Nat)(hda:ah (Free o w) w da x.data.length (x.data.map bv))(hdl:x.data.length≤1000000):
  Calls Tryz.prog 14 #[ptr p,.agg (opC x da dc)] w (uV o i (i+4) w p (fE M x)):=by
 obtain⟨o1,w2,hw2,hr,hz,hb⟩:=jV hi (n:=i+4) ⟨by omega,by omega⟩ hS hM x da dc;have HW:=acr hw2;unfold opC jd dR at HW;dsimp only[List.length_nil]at HW;have HR:=acr hr;have HZ:=acr hz;have HB:=acr hb;have HI:=acr hi;have HX:=acr hx;have uW:=acr hk;have jO:=acr hok;have Ow:=acr hcc;have uT:=acr hda;have vC:=acr hdl;clear hx hk hok hcc hda hdl;clear hw2 hr hz hb hS hM hi;unfold opC;go_enter abZ,abT;go_upto_region 1 with(fail);rw[←HW.o];clear HW;have Gt:acs (x.kind=4∨x.kind=5∨x.kind=6∨x.kind=14∨x.kind=15∨x.kind=16∨x.kind=17):=acr (by have:=uW.o;omega);have ko:=acr (sN (M:=M) Gt.o);obtain⟨z0,-,-,-,-,-,-,-,-⟩:=HZ.o.cells;have hk:=uW.o;rw[hk]at z0;go_wp2_with fail;refine(zF _ (by decide) _).mono ?_;rintro e w3 ⟨rfl,hb3⟩;have HR3:=acr (HR.o.grow hb3);have HZ3:=acr (HZ.o.grow hb3);have HB3:=acr (HB.o.trans (hb3.mono HB.o.size));clear HR HZ hb3;obtain⟨z0,z1,z2,z3,z4,z5,z6,z7,z8⟩:=HZ3.o.cells;rw[hk]at z0;have rz:=acr (HR3.o.grow acv.drew);have qF:acs (f_ M x [] []=(dR 0,{M with now:=vH M.now x.aF})):=by
  show _=_;unfold f_;simp[hk]
 obtain⟨y2,y3,hck⟩:=rz.o.clock x.aF;have c2:w3.cell? ⟨p,2,none⟩=some (.int .u64 M.now):=y2;have HCK:=acr hck;clear y2 hck;by_cases h1:x.aF≤1099511627776
 ·have h1b:decide (x.aF≤1099511627776)=true:=by simpa using h1
  by_cases h2:M.now<x.aF
  ·have h2b:decide (M.now<x.aF)=true:=by simpa using h2
   have Em:acs (f_ M x [] []=(dR 0,{M with now:=x.aF})):=by
    show _=_;rw[qF.o];unfold vH;rw[if_pos h1,if_pos (by omega)]
   clear h1 h2;go_wp2_with fail;refine BP ((fun w'=>w'.cell? ⟨w.heap.size,6,none⟩=some (.int .u64 x.aF)∧w'.cell? ⟨p,2,none⟩=some (.int .u64 M.now))) ?_ fun hS=> ?_
   ·exact⟨z6,c2⟩
   refine aX 0 hS ?_;refine aX 1 hS ?_;refine aX 2 hS ?_;refine aX 3 hS ?_;refine aX 4 hS ?_;refine aX 5 hS ?_;refine aX 6 hS ?_;refine aX 7 hS ?_;refine aX 8 hS ?_;refine aX 9 hS ?_;refine aX 10 hS ?_;refine aX 11 hS ?_;refine Bn ?_;have z6':w3.drew.cell? ⟨w.heap.size,6,none⟩=some (.int .u64 x.aF):=z6;have c2':w3.drew.cell? ⟨p,2,none⟩=some (.int .u64 M.now):=c2;go_wp2_with (refine HCK.o.rep (dR 0) none none 0 0 ?_;intro w5 eU);exact HCK.o.je eU (ko.o.trans Em.o)
  ·have h2b:decide (M.now<x.aF)=false:=by simpa using h2
   have Em:acs (f_ M x [] []=(dR 0,M)):=by
    show _=_;rw[qF.o];unfold vH;rw[if_pos h1];by_cases h3:M.now≤x.aF
    ·rw[if_pos h3,show x.aF=M.now by omega]
    ·rw[if_neg h3]
   clear h1 h2;go_wp2_with fail;refine BP ((fun w'=>w'.cell? ⟨w.heap.size,6,none⟩=some (.int .u64 x.aF)∧w'.cell? ⟨p,2,none⟩=some (.int .u64 M.now))) ?_ fun hS=> ?_
   ·exact⟨z6,c2⟩
   refine aX 0 hS ?_;refine aX 1 hS ?_;refine aX 2 hS ?_;refine aX 3 hS ?_;refine aX 4 hS ?_;refine aX 5 hS ?_;refine aX 6 hS ?_;refine aX 7 hS ?_;refine aX 8 hS ?_;refine aX 9 hS ?_;refine aX 10 hS ?_;refine aX 11 hS ?_;refine Bn ?_;go_wp2_with (refine rz.o.rep (dR 0) none none 0 0 ?_;intro w5 eU);exact rz.o.je eU (ko.o.trans Em.o)
 ·have h1b:decide (x.aF≤1099511627776)=false:=by simpa using h1
  have Em:acs (f_ M x [] []=(dR 0,M)):=by
   show _=_;rw[qF.o];unfold vH;rw[if_neg h1]
  clear h1;go_wp2_with fail;refine BP ((fun w'=>w'.cell? ⟨w.heap.size,6,none⟩=some (.int .u64 x.aF))) ?_ fun hS=> ?_
  ·exact z6
  refine aX 0 hS ?_;refine aX 1 hS ?_;refine aX 2 hS ?_;refine aX 3 hS ?_;refine oq 4 hS ?_;refine oq 5 hS ?_;refine oq 6 hS ?_;refine oq 7 hS ?_;refine oq 8 hS ?_;refine oq 9 hS ?_;refine oq 10 hS ?_;refine aX 11 hS ?_;refine Bn ?_;go_wp2_with (refine rz.o.rep (dR 0) none none 0 0 ?_;intro w5 eU);exact rz.o.je eU (ko.o.trans Em.o)
theorem Nr(x:jK)(hx:nN x)(hk:x.kind=17)(hi:0<i)(hS:j_ o i w p M)(hM:Marks W o w)(hok:fQ cc M)(hcc:cc≤1000000000)(da:Option Addr)(dc:Nat)(hda:ah (Free o w) w da x.data.length (x.data.map bv))(hdl:x.data.length≤1000000):
  Calls Tryz.prog 14 #[ptr p,.agg (opC x da dc)] w (uV o i (i+4) w p (fE M x)):=by
 obtain⟨o1,w2,hw2,hr,hz,hb⟩:=jV hi (n:=i+4) ⟨by omega,by omega⟩ hS hM x da dc;have HW:=acr hw2;unfold opC jd dR at HW;dsimp only[List.length_nil]at HW;have HR:=acr hr;have HZ:=acr hz;have HB:=acr hb;have HI:=acr hi;have HX:=acr hx;have uW:=acr hk;have jO:=acr hok;have Ow:=acr hcc;have uT:=acr hda;have vC:=acr hdl;clear hx hk hok hcc hda hdl;clear hw2 hr hz hb hS hM hi;unfold opC;go_enter abZ,abT;go_upto_region 1 with(fail);rw[←HW.o];clear HW;have Gt:acs (x.kind=4∨x.kind=5∨x.kind=6∨x.kind=14∨x.kind=15∨x.kind=16∨x.kind=17):=acr (by have:=uW.o;omega);have ko:=acr (sN (M:=M) Gt.o);obtain⟨z0,-,-,-,-,-,-,-,-⟩:=HZ.o.cells;have hk:=uW.o;rw[hk]at z0;go_wp2_with fail;refine(zF _ (by decide) _).mono ?_;rintro e w3 ⟨rfl,hb3⟩;have HR3:=acr (HR.o.grow hb3);have HZ3:=acr (HZ.o.grow hb3);have HB3:=acr (HB.o.trans (hb3.mono HB.o.size));clear HR HZ hb3;obtain⟨z0,z1,z2,z3,z4,z5,z6,z7,z8⟩:=HZ3.o.cells;rw[hk]at z0;have qF:acs (f_ M x [] []=(dR 0,M)):=by
  show _=_;unfold f_;simp[hk]
 go_wp2_with (refine HR3.o.rep (dR 0) none none 0 0 ?_;intro w5 eU);exact HR3.o.je eU (ko.o.trans qF.o)
end
section
variable{W w:World}{o:Mark}{i p:Nat}{M:dQ}{cc:Int}
theorem RU(x:jK)(hx:nN x)(hi:0<i)(hS:j_ o i w p M)(hM:Marks W o w)(hok:fQ cc M)(hcc:cc≤1000000000)(da:Option Addr)(dc:Nat)(hda:ah (Free o w) w da x.data.length (x.data.map bv))(hdl:x.data.length≤1000000):
  Calls Tryz.prog 14 #[ptr p,.agg (opC x da dc)] w (uV o i (i+4) w p (fE M x)):=by
 by_cases h:1≤x.kind∧x.kind≤17
 ·by_cases h1:x.kind=1∨x.kind=2∨x.kind=3∨x.kind=8∨x.kind=9∨x.kind=11∨x.kind=12∨x.kind=13
  ·exact RQ x hx h1 hi hS hM hok hcc da dc hda hdl
  ·by_cases h2:x.kind=7∨x.kind=10
   ·exact RS x hx h2 hi hS hM hok hcc da dc hda hdl
   ·by_cases h3:x.kind=4∨x.kind=5∨x.kind=6
    ·exact VE x hx h3 hi hS hM hok hcc da dc hda hdl
    ·rcases (show x.kind=14∨x.kind=15∨x.kind=16∨x.kind=17 by omega)with h4|h4|h4|h4
     ·exact Np x hx h4 hi hS hM hok hcc da dc hda hdl
     ·exact Io x hx h4 hi hS hM hok hcc da dc hda hdl
     ·exact Nq x hx h4 hi hS hM hok hcc da dc hda hdl
     ·exact Nr x hx h4 hi hS hM hok hcc da dc hda hdl
 ·exact RP x hx h hi hS hM hok hcc da dc hda hdl
end
def iJ(x:iw):List UInt8:=eB x.id 8++mG x.hash++eB (dw x.t).length 8++dw x.t
def bX(S:lN):List UInt8:=eB S.next 8++mG S.last++eB S.l.length 1++S.l.flatMap iJ
structure KE(S:lN):Prop where
 few:S.l.length≤8
 last:S.last.length≤64
 next:0≤S.next∧S.next≤1000000000
 each:∀x∈S.l,(0≤x.id∧x.id≤1000000000)∧x.hash.length≤64
theorem ou{T:aA}(hT:dZ T):(dw T).length≤6000000:=by
 have h1:=wC hT T (fun q hq=>hq);have h2:=hT.len;unfold dw;rw[List.length_append,bB];omega
theorem KF{x:iw}(hT:dZ x.t)(hh:x.hash.length≤64):(iJ x).length≤6000100:=by
 have:=ou hT;unfold iJ;simp only[List.length_append,bB,kZ];omega
structure SvW(S:lN):Prop where
 few:S.l.length≤8
 last:S.last.length≤64
 next:0≤S.next∧S.next≤1099511627776
 each:∀x∈S.l,(0≤x.id∧x.id≤1099511627776)∧x.hash.length≤64
theorem KE.w{S:lN}(h:KE S):SvW S:=⟨h.few,h.last,⟨h.next.1,by have:=h.next.2;omega⟩,fun x hx=>⟨⟨(h.each x hx).1.1,by have:=(h.each x hx).1.2;omega⟩,(h.each x hx).2⟩⟩
theorem Gz{l:List iw}{k:Nat}{x:iw}(h:l[k]? =some x):(l.take (k+1)).flatMap iJ=(l.take k).flatMap iJ++iJ x:=by
 obtain⟨hk,e⟩:=aac.1 h;rw[aae hk,aaG,e];simp
def Aside(x:Nat)(v:Value)(lo hi:Nat):Prop:=∀b,lo≤b→b<hi→b≠x∧v.ownBlock≠some b
theorem Aside.more{B x lo hi:Nat}{w w':World}{v v':Value}{bs':List UInt8}(h:Aside x v lo hi)(hm:kT B w x v bs' v' w')(hw:hi≤w.heap.size):Aside x v' lo hi∧∀b,lo≤b→b<hi→w'.heap[b]? =w.heap[b]? :=by
 refine⟨fun b h1 h2=>⟨(h b h1 h2).1,fun h9=> ?_⟩,fun b h1 h2=>hm.2.1.block b (by omega) fun h9=> ?_⟩
 ·rcases hm.2.2 b h9 with h3|h3
  ·exact(h b h1 h2).2 h3
  ·omega
 ·rcases h9 with h3|h3
  ·exact(h b h1 h2).1 h3
  ·exact(h b h1 h2).2 h3
section
variable{W w:World}{o:Mark}{i s:Nat}{S:lN}
def xw(w:World)(x:Nat)(bs:List UInt8)(wr:World):Prop:=∃v,dB w.heap.size wr x v bs∧Below w.heap.size w wr
theorem xw.more{w:World}{x:Nat}{bs bs':List UInt8}{wr w':World}{v:Value}{e:Ending}(h:dB w.heap.size wr x v bs)(hb:Below w.heap.size w wr)(ht:qZ w.heap.size wr x v bs' e w'):e= .returned (.tuple #[])∧xw w x bs' w':=by
 obtain⟨rfl,v',hm⟩:=ht;exact⟨rfl,v',hm.1,hb.trans (hm.low h)⟩
theorem CF(z:Int)(h0:0≤z)(h1:z≤1099511627776):∀w,(convert 3 27 (.int .i64 z)).run Tryz.prog w= .ok (.int .u64 z) w:=fun w=>by
 have hk:Tryz.prog.intKind 27= .u64:=by kernel_rfl
 have:=run_convert_int (P:=Tryz.prog) w 3 27 .i64 z (by rw[aaX];rfl) (by rw[hk];exact Tryz.underlying27);rw[this,hk];have e:IntKind.u64.wrap z=z:=by
  show z%18446744073709551616=z;omega
 rw[e]
theorem YS{K:aA→Prop}(hK:∀T,K T→OkW T∧∀k x,aj k T=some x→x.names.length≤65535)(hS:jS K o i w s S)(hM:Marks W o w)(hv:SvW S)(htk:∀k,((S.l.take k).flatMap iJ).length≤85000000):Calls Tryz.prog 36 #[ptr s] w (fB w (bX S)):=by
 obtain⟨v,la,lc,vals,h1,h2,h3,h4,h5,h6,h7,h8⟩:=hS.at_;obtain⟨a,c,rfl,hcap⟩:=fM h4;have Jv:=hv.few;obtain⟨-,-,hrow⟩:=ah.Ol h4 (by unfold maxLen;omega);have D7:=acr h6;have lg:=acr hrow;have HLR:=acr h8;have SI:=acr h7;have HM:=acr hM;have HV:=acr hv;have Mh:=acr htk;have HKK:=acr hK;have HH:acs (∀w',Below w.heap.size w w'→w'.cell? ⟨s,0,none⟩=some (.slice a S.l.length c)∧w'.cell? ⟨s,1,none⟩=some (.int .i64 S.next)∧w'.cell? ⟨s,2,none⟩=some (.slice la S.last.length lc)):=fun w' hb=>by
  have:=(hb.block s h3).trans h1;refine⟨?_,?_,?_⟩<;>simp[World.cell?,this]
 have hcn:=CF S.next hv.next.1 hv.next.2;obtain⟨n,hn⟩:∃n,n=S.l.length:=⟨_,rfl⟩;have HN:=acr hn;rw[←hn]at HH hcap Jv;have hll:=hv.last;have hnx:=hv.next;obtain⟨c0,c1,c2⟩:=HH.o w acv;clear hS hM hv htk hK h1 h2 h4 h5 h6 h7 h8 hrow hn;go_enter Tryz.func36,Tryz.ntmps36;go_wp2_with fail;refine(nU _).mono ?_;rintro e w1 ⟨rfl,hW1,hb1⟩;have HW1:=acr hW1;have HB1:=acr hb1;obtain⟨d0,d1,d2⟩:=HH.o w1 hb1;clear hW1 hb1 c0 c1 c2;go_wp2_with fail;refine(rW HW1.o S.next hnx.1 (by omega) (by simp)).mono ?_;intro e w2 ht2;obtain⟨rfl,x2,hW2,hb2⟩:=xw.more HW1.o HB1.o ht2;have HW2:=acr hW2;have HB2:=acr hb2;obtain⟨e0,e1,e2⟩:=HH.o w2 hb2;clear ht2 hW2 hb2 d0 d1 d2 HW1;go_wp2_with fail;have hlr:=HLR.o.below HB2.o acu;refine(yS HW2.o la S.last.length lc S.last hlr (fun b hb=>⟨by have:=HW2.o.low;omega,fun h9=>by have:=dA HW2.o.own b h9;omega⟩) SI.o (by simp[bB]) (by omega)).mono ?_;intro e w3 ht3;obtain⟨rfl,x3,hW3,hb3⟩:=xw.more HW2.o HB2.o ht3;have HW3:=acr hW3;have HB3:=acr hb3;obtain⟨f0,f1,f2⟩:=HH.o w3 hb3;clear ht3 hW3 hb3 e0 e1 e2 HW2 hlr;go_wp2_with fail;refine(yR HW3.o (n:Int) (by omega) (by omega) (by simp[bB];omega)).mono ?_;intro e w4 J7;obtain⟨rfl,x4,Xz,hb4⟩:=xw.more HW3.o HB3.o J7;have Qb:=acr Xz;have eT:=acr hb4;obtain⟨k0,k1,k2⟩:=HH.o w4 hb4;clear J7 Xz hb4 f0 f1 f2 HW3;obtain⟨pre,hpre⟩:∃pre,pre=[]++eB S.next 8++(eB (S.last.length:Int) 2++S.last)++eB (n:Int) 1:=⟨_,rfl⟩;have hprl:pre.length≤1000:=by rw[hpre];simp[bB];omega
 rw[←hpre]at Qb;have HPRE:=acr hpre;clear hpre;go_wp2_with fail
 go_loopw [5,6,33] (fun _ _ iv wr=>∃k:Nat,iv= .int .i64 k∧k≤n∧xw w w.heap.size (pre++(S.l.take k).flatMap iJ) wr) (fun _ _ iv _=>n-(intOf iv).toNat)
 case atStart=>exact⟨0,rfl,Nat.zero_le _,x4,by simpa using Qb.o,eT.o⟩
 case round=>
  obtain⟨k,rfl,hk,y,hy,hby⟩:=hrel;have HY:=acr hy;have Ni:=acr hby;have hbl:=Mh.o k;clear hy hby;by_cases hlt:k<n
  ·have hd:decide ((k:Int)<(n:Int))=true:=by simpa using hlt
   obtain⟨x,hx⟩:∃x,S.l[k]? =some x:=⟨S.l[k]'(by have:=HN.o;omega),List.getElem?_eq_getElem _⟩;have HRW:=lg.o;rw[←HN.o]at HRW;obtain⟨g,off,rfl,hgw,_,hcell⟩:=HRW.at_ (by omega);obtain⟨ha,hcp,q,r0,r1,r2,r3,r4,r5,r6⟩:=D7.o.at_ hx;have q0:wr.cell? ⟨g,off+k*3,none⟩=some (.int .i64 x.id):=(Ni.o.cell (p:=⟨g,off+k*3,none⟩) hgw.2).trans ((hcell (k*3) (by omega)).trans r0);have q1:wr.cell? ⟨g,off+k*3+1,none⟩=some (.slice ha x.hash.length hcp):=(Ni.o.cell (p:=⟨g,off+k*3+1,none⟩) hgw.2).trans ((hcell (k*3+1) (by omega)).trans r1);have q2:wr.cell? ⟨g,off+k*3+2,none⟩=some (ptr q):=(Ni.o.cell (p:=⟨g,off+k*3+2,none⟩) hgw.2).trans ((hcell (k*3+2) (by omega)).trans r2);have hid:=HV.o.each x (aat hx);have hci:=CF x.id hid.1.1 hid.1.2;have hsb:=Qj (HKK.o _ r6).1 (HKK.o _ r6).2;have hcb:=CF ((dw x.t).length:Int) (by omega) (by omega);have HX:=acr hx;have HR4:=acr r4;have oM:=acr r5;have HR6:=acr r6;have i0:(0:Int)≤(k:Int):=by omega
   have i1:(k:Int)<(n:Int):=by omega
   have hs0:=Ni.o.size;clear hx r0 r1 r2 r4 r5 r6 hcell HRW;go_wp2_with fail;have hub:=wall wr (.cells #[.int .i64 x.id,.slice ha x.hash.length hcp,ptr q] 148);have hu1:=(MapKept.heap_alloc wr (.cells #[.int .i64 x.id,.slice ha x.hash.length hcp,ptr q] 148)).1;refine(yX (oM.o.grow (Ni.o.trans (Below.mono hub hs0))) (HKK.o _ HR6.o).1 (HKK.o _ HR6.o).2).mono ?_;rintro e u2 ⟨ba,bn,bc,rfl,hbc,hbr,hb6⟩;have hbl2:bn=(dw x.t).length:=by have:=hbr.length;simpa using this.symm
   subst hbl2;have hyl:=lK HY.o.own;have hxl:=HY.o.lt;have hu2:=(hb6.block wr.heap.size (by simp)).trans hu1;have hbu:Below wr.heap.size wr u2:=hub.trans (hb6.mono hub.size);have E9:=acr (hbr.mono (S':=fun b=>wr.heap.size≤b∧b<u2.heap.size) fun b hb=>⟨aax hub.size hb.1,hb.2⟩);have HAS:acs (Aside w.heap.size y wr.heap.size u2.heap.size):=fun b h1 h2=>⟨by omega,fun h9=>by have:=hyl b h9;omega⟩;have Xm:=acr (HY.o.below hbu);have sV:=acr (Ni.o.trans (hbu.mono hs0));have HU2:=acr hu2;have hwu:wr.heap.size<u2.heap.size:=(iL.1 hu2).1;have v0:u2.cell? ⟨wr.heap.size,0,none⟩=some (.int .i64 x.id):=by simp[World.cell?,hu2]
   have v1:u2.cell? ⟨wr.heap.size,1,none⟩=some (.slice ha x.hash.length hcp):=by simp[World.cell?,hu2]
   have hl6:(pre++(S.l.take k).flatMap iJ).length≤85001000:=by rw[List.length_append];omega
   obtain⟨b0,hb0⟩:∃b0,b0=pre++(S.l.take k).flatMap iJ:=⟨_,rfl⟩;rw[←hb0]at hl6;have HW6':acs (dB w.heap.size u2 w.heap.size y b0):=by rw[hb0];exact Xm
   have Z4:=acr hb0;clear hub hu1 hbr hb6 hyl hu2 hbu q0 q1 q2 HY Xm hb0;go_wp2_with fail;refine(rW HW6'.o x.id hid.1.1 (by omega) (by omega)).mono ?_;rintro e u3 ⟨rfl,y3,Jl⟩;obtain⟨has3,hk3⟩:=HAS.o.more Jl acu;have hu3:=(hk3 wr.heap.size acu hwu).trans HU2.o;have SC:=acr Jl.1;have Cn:=acr (sV.o.trans (Jl.low HW6'.o));have HAS3:=acr has3;have hs3:=Jl.2.1.size;have HBR3:=acr (E9.o.kept hs3 (fun b hb _=>hk3 b hb.1 hb.2));have v1':u3.cell? ⟨wr.heap.size,1,none⟩=some (.slice ha x.hash.length hcp):=by simp[World.cell?,hu3]
   clear Jl has3 hk3 hu3 v0 v1 HW6' E9;go_wp2_with fail;have hhr:=HR4.o.below Cn.o acu;refine(yS SC.o ha x.hash.length hcp x.hash hhr (fun b hb=>⟨by omega,fun h9=>by have:=dA SC.o.own b h9;omega⟩) (by omega) (by simp[bB];omega) (by omega)).mono ?_;rintro e u4 ⟨rfl,y4,Jm⟩;obtain⟨has4,hk4⟩:=HAS3.o.more Jm hs3;have hs4:=Jm.2.1.size;have HW8:=acr Jm.1;have uR:=acr (Cn.o.trans (Jm.low SC.o));have HAS4:=acr has4;have HBR4:=acr (HBR3.o.kept hs4 (fun b hb _=>hk4 b hb.1 hb.2));clear Jm has4 hk4 v1' hhr SC HBR3;go_wp2_with fail;refine(rW HW8.o ((dw x.t).length:Int) (by omega) (by omega) (by simp[bB];omega)).mono ?_;rintro e u5 ⟨rfl,y5,LP⟩;obtain⟨has5,hk5⟩:=HAS4.o.more LP (by omega);have hs5:=LP.2.1.size;have HW9:=acr LP.1;have Dk:=acr (uR.o.trans (LP.low HW8.o));have HBR5:=acr (HBR4.o.kept hs5 (fun b hb _=>hk5 b hb.1 hb.2));clear LP has5 hk5 HW8 HBR4;go_wp2_with fail;refine(Cm HW9.o ba (dw x.t).length bc (dw x.t) HBR5.o (by simp[bB];omega) (by omega)).mono ?_;rintro e u6 ⟨rfl,y6,Tz⟩;have HWA:=acr Tz.1;have Bu:=acr (Dk.o.trans (Tz.low HW9.o));clear Tz HW9 HBR5;go_wp2_with fail;go_roundw
   case rel=>
    refine⟨k+1,by go_num,by omega,y6,?_,Bu.o⟩;have h9:=HWA.o;rw[Z4.o]at h9;rw[Gz HX.o,iJ,mG];simpa only[TK]using h9
   case measure=>simp[intOf];omega
  ·have hd:decide ((k:Int)<(n:Int))=false:=by simp;omega
   obtain rfl:k=n:=by omega
   have hkl:S.l.take k=S.l:=List.take_of_length_le (by have:=HN.o;omega);rw[hkl]at HY hbl;go_wp2_with fail;have e:pre++S.l.flatMap iJ=bX S:=by
    rw[HPRE.o,HN.o];unfold bX mG;simp
   have hp0:0<(bX S).length:=by unfold bX;rw[List.length_append,List.length_append,List.length_append,bB];omega
   have Ck:=acr (Tx HY.o (by rw[List.length_append];omega) (by rw[e];exact hp0));rw[e]at Ck;clear e hp0;refine Ck.o.mono ?_;rintro e u2 ⟨ba,bc,rfl,hown,hb6⟩;have HOW:=acr hown;have sV:=acr hb6;clear hown hb6;go_wp2_with fail;go_ret;have hs0:=Ni.o.size;exact⟨ba,bc,rfl,P5 HOW.o hs0,Ni.o.trans (sV.o.mono hs0)⟩
end
theorem GA{o:Mark}{w:World}:∀{vs:List Value} {l:List iw},dU o w vs l→(∀x∈l,x.hash.length≤64)→(l.flatMap iJ).length≤6000100*l.length
 |_,[],_,_=>by simp
 |_,x::r,⟨v1,v2,h1,h2,h3⟩,hh=>by
  obtain⟨a,c,q,e1,e2,e3,e4,e5⟩:=h2;have k1:=KF e5 (hh x (by simp));have k2:=GA h3 fun y hy=>hh y (by simp[hy]);rw[List.flatMap_cons,List.length_append,List.length_cons];omega
theorem OY{W w:World}{o:Mark}{j r:Nat}{T:aA}(h:gV o j w r T)(hT:dZ T):Calls Tryz.prog 35 #[ptr r] w (fB w (dw T)):=by
 obtain⟨F,hF,-,-⟩:=h;exact Gu w hF hT
def snB(S:lN)(k:Nat):List UInt8:=eB S.next 8++mG S.last++eB S.l.length 1++(S.l.take k).flatMap iJ
section
variable{W w:World}{o:Mark}{i s:Nat}{S:lN}
theorem KG(hS:gB o i w s S)(hM:Marks W o w)(hv:KE S):Calls Tryz.prog 37 #[ptr s] w (fB w (bX S)):=by
 obtain⟨la,lc,a,c,vals,h1,h2,h3,h4,h5,h6,h7,h8⟩:=hS.at_;have Jv:=hv.few;have hlast:=hv.last;have hnx:=hv.next;have hlen:=GA h6 fun x hx=>(hv.each x hx).2;have HV:=acr hv.each;have D7:=acr h6;obtain⟨n,hn⟩:∃n,n=S.l.length:=⟨_,rfl⟩;obtain⟨m,hm⟩:∃m,m=S.last.length:=⟨_,rfl⟩;obtain⟨nx,yj⟩:∃nx,nx=S.next:=⟨_,rfl⟩;rw[←hn,←hm,←yj]at h1;rw[←hn]at h4 h5 Jv hlen;rw[←hm]at h8 hlast;rw[←yj]at hnx;have HN:=acr hn;have HMM:=acr hm;have HNX:=acr yj;have lg:=acr h5;have HLR:=acr h8;have EP:acs (∀w',Below w.heap.size w w'→w'.cell? ⟨s,0,none⟩=some (.int .i64 nx)∧w'.cell? ⟨s,1,none⟩=some (.slice la m lc)∧w'.cell? ⟨s,2,none⟩=some (.slice a n c)):=fun w' hb=>by
  have hbb:=(hb.block s h3).trans h1;refine⟨?_,?_,?_⟩<;>simp[World.cell?,hbb]
 have hnx0:0≤nx:=hnx.1;have hnx1:nx≤1000000000:=hnx.2;have ewn:IntKind.u64.wrap nx=nx:=by simp[IntKind.wrap,IntKind.bits,IntKind.signed];omega
 obtain⟨B1,hB1⟩:∃B1,B1=eB nx 8:=⟨_,rfl⟩;have hl1:B1.length=8:=by rw[hB1,bB]
 have BX:=acr hB1;have yD:acs (∀u:World,Calls Tryz.prog 53 #[.slice none 0 0,.int .u64 nx] u (fB u B1)):=fun u=>by
  have h9:=nQ (S:=fun _=>True) none 0 0 [] nx u (ah.nil _ _ _) (by omega) hnx0 (by omega);rw[List.nil_append,←hB1]at h9;exact h9
 have HL1L:=acr hl1;clear hS hM h1 h2 h5 h6 h7 h8 hn hm yj hv hnx hB1 hl1;go_enter Tryz.func37,Tryz.ntmps37;go_wp2_with fail;refine wQ 17 ((fun w'=>w'.cell? ⟨s,0,none⟩=some (.int .i64 nx)∧w'.cell? ⟨s,1,none⟩=some (.slice la m lc)∧w'.cell? ⟨s,2,none⟩=some (.slice a n c))) ?_ fun hS=> ?_
 ·exact EP.o _ acv.drew
 refine aC 0 hS ?_;refine aC 1 hS ?_;refine aC 2 hS ?_;refine aC 3 hS ?_;refine aC 4 hS ?_;refine aC 6 hS ?_;refine aC 7 hS ?_;refine aC 8 hS ?_;refine aC 9 hS ?_;refine aC 11 hS ?_;refine aC 12 hS ?_;refine aC 13 hS ?_;refine aC 14 hS ?_;refine aC 15 hS ?_;refine bU 5 fun K hK=> ?_;go_simp;refine(yD.o _).mono ?_;rintro e w1 ⟨a1,c1,rfl,hown1,hb1⟩;have wI:=acr hown1;have HB1:=acr ((Below.refl w.heap.size w).drew.trans hb1);clear hown1 hb1;go_wp2_with fail;refine bV hK (EP.o _ HB1.o) fun hS=> ?_;clear hK K;refine bU 10 fun K hK=> ?_;go_simp;refine(oh a1 _ c1 B1 la m lc S.last _ (dN wI.o) (HLR.o.below HB1.o acu) (by have:=HL1L.o;omega) (by omega)).mono ?_;rintro e w2 ⟨a2,c2,rfl,hown2,hb2⟩;obtain⟨B2,hB2⟩:∃B2,B2=B1++(eB m 2++S.last):=⟨_,rfl⟩;rw[←hB2]at hown2⊢;have hl2:B2.length≤80:=by
  rw[hB2];simp only[List.length_append,bB];have:=HL1L.o;have:=HMM.o;omega
 have HE2:=acr hB2;have E8:=acr hown2;have HB2:=acr (HB1.o.trans (hb2.mono HB1.o.size));clear hown2 hb2 hB2;go_wp2_with fail;refine bV hK (EP.o _ HB2.o) fun hS=> ?_;clear hK K;refine bU 16 fun K hK=> ?_;go_simp;refine(tZ a2 _ c2 B2 n _ (dN E8.o) (by omega) (by omega) (by omega)).mono ?_;rintro e w3 ⟨a3,c3,rfl,hown3,hb3⟩;obtain⟨B3,hB3⟩:∃B3,B3=B2++eB n 1:=⟨_,rfl⟩;rw[←hB3]at hown3⊢;have HE3:acs (B3=snB S 0):=by
  show B3=_;unfold snB mG;rw[hB3,HE2.o,BX.o,HNX.o,HMM.o,HN.o];simp
 have WR:=acr (vQ hown3 HB2.o.size);have HB3:=acr (HB2.o.trans (hb3.mono HB2.o.size));clear hown3 hb3 hB3 hl2;go_wp2_with fail;refine bV hK (EP.o _ HB3.o) fun hS=> ?_;clear hK K;refine bU 17 fun K hK=> ?_;go_simp;refine nk hK ?_;clear hS hK K;go_wp2_with fail
 go_loopw [3,4] (fun v iv wr=>∃(k:Nat) (X:List UInt8) (a':Option Addr) (c':Nat),iv= .int .i64 k∧k≤n∧X=snB S k∧v= .slice a' X.length c'∧wr.ownsRow w.heap.size 5 1 v X.length (X.map bv)∧Below w.heap.size w wr) (fun _ iv _=>n-(intOf iv).toNat)
 case atStart=>exact⟨0,B3,a3,c3,rfl,Nat.zero_le _,HE3.o,rfl,WR.o,HB3.o⟩
 case round=>
  obtain⟨k,X,a4,c4,rfl,hk,hX,rfl,hown,hb⟩:=hrel;have HX:=acr hX;have HO:=acr hown;have HB:=acr hb;have hXl:X.length≤50000000:=by
   rw[hX];unfold snB;have h9:((S.l.take k).flatMap iJ).length≤(S.l.flatMap iJ).length:=by
    conv=>rhs;rw[←aaR k S.l,aaG,List.length_append]
    omega
   have:=HMM.o;simp only[List.length_append,bB,kZ];omega
  obtain⟨q0,q1,q2⟩:=EP.o wr hb;clear hX hown;by_cases hlt:k<n
  ·have hd:decide (k<n)=true:=by simpa using hlt
   obtain⟨x,hx⟩:∃x,S.l[k]? =some x:=⟨S.l[k]'(by rw[←HN.o];exact hlt),List.getElem?_eq_getElem _⟩;obtain⟨g,off,rfl,hgw,_,hcell⟩:=lg.o.at_ (by omega);obtain⟨ha,hcp,q,e0,e1,e2,e3,e4,e5,e6⟩:=D7.o.at_ hx;have hxm:=HV.o x (aat hx);obtain⟨id,hid⟩:∃id,id=x.id:=⟨_,rfl⟩;obtain⟨hl,hhl⟩:∃hl,hl=x.hash.length:=⟨_,rfl⟩;rw[←hid]at e0;rw[←hhl]at e1 e3 e4;have zw:0≤id:=by rw[hid];exact hxm.1.1
   have hid1:id≤1000000000:=by rw[hid];exact hxm.1.2
   have hh64:hl≤64:=by rw[hhl];exact hxm.2
   have HCD:acs (∀w',Below w.heap.size w w'→w'.cell? ⟨s,2,none⟩=some (.slice (some ⟨g,off,none⟩) n c)∧w'.cell? ⟨g,off+k*3,none⟩=some (.int .i64 id)∧w'.cell? ⟨g,off+k*3+1,none⟩=some (.slice ha hl hcp)):=fun w' hb'=>
    ⟨(EP.o w' hb').2.2,(hb'.cell (p:=⟨g,off+k*3,none⟩) hgw.2).trans ((hcell (k*3) (by omega)).trans e0),(hb'.cell (p:=⟨g,off+k*3+1,none⟩) hgw.2).trans ((hcell (k*3+1) (by omega)).trans e1)⟩
   have d2:wr.cell? ⟨g,off+k*3+2,none⟩=some (ptr q):=(hb.cell (p:=⟨g,off+k*3+2,none⟩) hgw.2).trans ((hcell (k*3+2) (by omega)).trans e2);have HHR:acs (ah (Free o w) w ha hl (x.hash.map bv)):=e4;obtain⟨sv,hsv⟩:∃sv,sv=dw x.t:=⟨_,rfl⟩;have hsl:=ou e6;rw[←hsv]at hsl;have Vq:acs (Calls Tryz.prog 35 #[ptr q] wr (fB wr sv)):=by rw[hsv];exact OY (W:=W) (e5.grow hb) e6
   have HSVE:=acr hsv;have HXX:=acr hx;have SG:=acr hid;have HHL:=acr hhl;have i0:(0:Int)≤k:=by omega
   have i1:(k:Int)<n:=by omega
   have ewi:IntKind.u64.wrap id=id:=by simp[IntKind.wrap,IntKind.bits,IntKind.signed];omega
   obtain⟨i8,SN⟩:∃i,Tryz.prog.info? 5=some i∧i.zero=some (.int .u8 0)∧i.size=1∧i.bytes=1:=aam (by kernel_rfl);have HI:=acr SN;clear hx hcell e0 e1 e2 e3 e4 e5 e6 hxm hid hhl hsv SN q0 q1 hb;go_wp2_with fail;refine Vq.o.mono ?_;rintro e w5 ⟨a5,c5,rfl,hown5,hb5⟩;obtain⟨ns,hns⟩:∃ns,ns=sv.length:=⟨_,rfl⟩;rw[←hns]at hown5 hsl⊢;have SQ:=acr hns;have iB:=acr (HB.o.trans (hb5.mono HB.o.size));have HO5:=acr (own_below HO.o hb5);have oM:=acr ((ah.mR hown5).2);have Cw:acs (∀u,Below w5.heap.size w5 u→ah (fun x=>wr.heap.size≤x∧x<w5.heap.size) u a5 ns (sv.map bv)):=fun u h=>oM.o.below h acu;clear hown5 hb5 hns q2 d2;go_wp2_with fail;refine wQ 20 ((fun w'=>w'.cell? ⟨s,2,none⟩=some (.slice (some ⟨g,off,none⟩) n c)∧w'.cell? ⟨g,off+k*3,none⟩=some (.int .i64 id)∧w'.cell? ⟨g,off+k*3+1,none⟩=some (.slice ha hl hcp))) ?_ fun hS=> ?_
   ·exact HCD.o _ (iB.o.trans (acv.drew.mono iB.o.size))
   refine aC 0 hS ?_;refine aC 1 hS ?_;refine aC 2 hS ?_;refine aC 3 hS ?_;refine aC 4 hS ?_;refine aC 5 hS ?_;refine aC 6 hS ?_;refine aC 7 hS ?_;refine aC 8 hS ?_;refine aC 9 hS ?_;refine aC 11 hS ?_;refine aC 12 hS ?_;refine aC 13 hS ?_;refine aC 14 hS ?_;refine aC 15 hS ?_;refine aC 16 hS ?_;refine aC 17 hS ?_;refine aC 18 hS ?_;refine bU 10 fun K hK=> ?_;go_simp;refine(nQ a4 _ c4 X id _ ((dN HO5.o).below (Below.refl w5.heap.size w5).drew acu) (by omega) zw (by omega)).mono ?_;rintro e w6 ⟨a6,c6,rfl,hown6,hb6⟩;obtain⟨B6,hB6⟩:∃B6,B6=X++eB id 8:=⟨_,rfl⟩;rw[←hB6]at hown6⊢;have hl6:B6.length≤50000008:=by
    rw[hB6];simp only[List.length_append,bB];omega
   have HE6:=acr hB6;have HO6:=acr hown6;have Cb:=acr ((Below.refl w5.heap.size w5).drew.trans hb6);clear hown6 hb6 hB6;go_wp2_with fail;refine bV hK (HCD.o _ (iB.o.trans (Cb.o.mono iB.o.size))) fun hS=> ?_;clear hK K;refine bU 19 fun K hK=> ?_;go_simp;refine(oh a6 _ c6 B6 ha hl hcp x.hash _ (dN HO6.o) (HHR.o.below (iB.o.trans (Cb.o.mono iB.o.size)) acu) (by omega) (by omega)).mono ?_;rintro e w7 ⟨a7,c7,rfl,uJ,yw⟩;obtain⟨B7,E_⟩:∃B7,B7=B6++(eB hl 2++x.hash):=⟨_,rfl⟩;rw[←E_]at uJ⊢;have hl7:B7.length≤50000100:=by
    rw[E_];simp only[List.length_append,bB];have:=HHL.o;omega
   have HE7:=acr E_;have WU:=acr uJ;have YT:=acr (Cb.o.trans (yw.mono Cb.o.size));clear uJ yw E_ hl6;go_wp2_with fail;refine bV hK (HCD.o _ (iB.o.trans (YT.o.mono iB.o.size))) fun hS=> ?_;clear hK K;refine bU 20 fun K hK=> ?_;go_simp;refine nk hK ?_;clear hS hK K;have ews:IntKind.u64.wrap (ns:Int)=(ns:Int):=by simp[IntKind.wrap,IntKind.bits,IntKind.signed];omega
   go_wp2_with fail;refine(nQ a7 _ c7 B7 (ns:Int) _ (dN WU.o) (by omega) (by omega) (by omega)).mono ?_;rintro e w8 ⟨a8,c8,rfl,sJ,wE⟩;obtain⟨B8,Lh⟩:∃B8,B8=B7++eB (ns:Int) 8:=⟨_,rfl⟩;rw[←Lh]at sJ⊢;have Km:B8.length≤50000110:=by
    rw[Lh];simp only[List.length_append,bB];omega
   have HE8:=acr Lh;have HB58:=acr (YT.o.trans (wE.mono YT.o.size));have HBW8:=acr (iB.o.trans (HB58.o.mono iB.o.size));have Qn:=acr (vQ sJ (show w.heap.size≤w7.heap.size from aax iB.o.size YT.o.size));clear sJ wE Lh hl7;obtain⟨n8,mQ⟩:∃n8,n8=B8.length:=⟨_,rfl⟩;rw[←mQ]at Qn Km⊢;have HN8:=acr mQ;clear mQ;go_wp2_with (at_builtin;go_loud (refine aQ rfl _ _ 28 rfl w.heap.size 5 i8 _ 1 Tryz.underlying28 HI.o.1 HI.o.2.1 HI.o.2.2.1 HI.o.2.2.2 rfl (.slice a8 n8 c8) n8 (B8.map bv) rfl Qn.o a5 ns c5 (sv.map bv) rfl (Cw.o _ HB58.o) (dV _) (by unfold maxLen;omega) (by omega) HBW8.o.size ?_;intro A9 c9 w9 vP Z7 _ hat9;have HO9:=acr vP;have Dk:=acr (dK Z7 (fun b hb=>dA Qn.o b hb) HBW8.o);clear vP Z7 hat9));go_roundw
   case rel=>
    have e9:snB S (k+1)=B8++sv:=by
     rw[HE8.o,HE7.o,HE6.o,HX.o];unfold snB;rw[Gz HXX.o];unfold iJ mG;rw[SG.o,HHL.o,SQ.o,HSVE.o];simp only[TK]
    have el:(B8++sv).length=n8+ns:=by rw[List.length_append,HN8.o,SQ.o]
    refine⟨k+1,B8++sv,A9,c9,by go_num,by omega,e9.symm,by rw[el],?_,Dk.o⟩;rw[el,List.map_append];exact HO9.o
   case measure=>simp[intOf];omega
  ·have hd:decide (k<n)=false:=by simpa using hlt
   have HE:acs (X=bX S):=by
    show X=_;rw[HX.o];unfold snB bX;rw[List.take_of_length_le (by rw[←HN.o];omega)]
   clear hlt;go_wp2_with fail;go_ret;have h9:=HE.o;rw[←h9];exact⟨a4,c4,rfl,HO.o,HB.o⟩
end
def oU(M:dQ):List UInt8:=eB M.now 8++eB (dw (aV M.t)).length 8++dw (aV M.t)++bX M.s
def rA(S:lN):Prop:=∀x∈S.l,(0≤x.id∧x.id≤S.next)∧x.hash.length≤64
theorem rA.new:rA Jy:=fun x hx=>by cases hx
theorem rA.take{S:lN}(h:rA S)(h0:0≤S.next)(T:aA):rA (jB S T).2:=by
 unfold jB;split
 ·exact h
 ·intro x hx;rcases aap.1 hx with hx|hx
  ·have:=h x hx;exact⟨⟨this.1.1,by have:=this.1.2;show x.id≤S.next+1;omega⟩,this.2⟩
  ·rw[List.mem_singleton.1 hx];exact⟨⟨h0,by show S.next≤S.next+1;omega⟩,Oy _⟩
theorem rA.forget{S:lN}(h:rA S)(id now:Int):rA (iy S id now).2:=by
 rcases xP S id now with e|⟨k,e⟩
 ·rw[e];exact h
 ·rw[e];intro x hx;rcases aap.1 (show x∈S.l.take k++S.l.drop (k+1)from hx)with hx|hx
  ·exact h x (List.mem_of_mem_take hx)
  ·exact h x (List.mem_of_mem_drop hx)
theorem rA.do_{M:dQ}(h:rA M.s)(h0:0≤M.s.next)(x:jK):rA (fE M x).2.s:=by
 have hc:=OD M x;generalize (fE M x).2=M' at hc⊢;cases hc with
 |take=>exact h.take h0 _
 |forget=>exact h.forget _ _
 |tick h16=>exact h
 |same=>exact h
 |make ls kind=>exact h
 |create ls h1 h2=>exact h
 |opens T ls y h1 h2 h3 h4 h5 h6=>exact h
 |write f h1=>exact h
 |closes f h1 h2 h3=>exact h
 |shut f h1 h2=>exact h
 |link p q=>exact h
 |unlink ls h1 h2=>exact h
 |rmdir ls=>exact h
 |rename p q=>exact h
 |keep ls h1=>exact h
theorem fQ.sv{c:Int}{M:dQ}(h:fQ c M)(hc:c≤1000000000)(hi:rA M.s):KE M.s:=
 ⟨h.s.few,h.s.last,⟨h.next.1,by have:=h.next.2;omega⟩,fun x hx=>by have:=hi x hx;have:=h.next.2;exact⟨⟨by omega,by omega⟩,by omega⟩⟩
section
variable{W w:World}{o:Mark}{i j k p:Nat}{M:dQ}{c:Int}
end
end Go.Proofs.YtjnhnlabpccgjaaGreatDoor
