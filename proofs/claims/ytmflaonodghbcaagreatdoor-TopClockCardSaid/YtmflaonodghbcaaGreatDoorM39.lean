/- package -/
import Derived.Test.YtmflaonodghbcaaGreatDoorM38
import Derived.Test.YtmflaonodghbcaaGreatDoorM36
import Derived.Test.YtmflaonodghbcaaGreatDoorM14
import Derived.Test.YtmflaonodghbcaaGreatDoorM27
import Derived.Test.YtmflaonodghbcaaGreatDoorM28
import Derived.Test.YtmflaonodghbcaaGreatDoorM29
set_option maxRecDepth 100000
set_option maxHeartbeats 64000000
set_option linter.all false
namespace Go.Proofs.YtmflaonodghbcaaGreatDoor
open Go.ChangeShapes Go.WideShapes Go.ChangeAt Go.RowKit
section
variable{W w:World}{o:Mark}{i j k l n p:Nat}{M:dN}{S:Nat→Prop}{cc m:Int}{pa gy:List UInt8}{fd at_ nn aT sn:Int}{dt:List UInt8}{da:Option Addr}{dc:Nat}
theorem sdo_k1(h:Gv S W o i j k l n w p M cc ⟨1,pa,gy,fd,at_,nn,aT,sn,dt⟩ da dc m):
  Calls Tryz.prog 18 #[ptr p,.agg (opC ⟨1,pa,gy,fd,at_,nn,aT,sn,dt⟩ da dc)] w (uG o i j k l n w p (gB M ⟨1,pa,gy,fd,at_,nn,aT,sn,dt⟩)):=by
 obtain⟨o1,w2,HD2,uN,lV,iM,HX,HK,hcc⟩:=h.pre;obtain⟨q0,hps,hsd,h80⟩:=JM M rfl h.paths;rw[hps]at lV;unfold opC gZ iw at lV;dsimp only[List.length_nil]at lV uN;have qm:=ab9 hsd;clear h hps hsd;unfold opC;go_enter abt,abo;go_wp2_with fail;refine lV.o.mono ?_;clear lV;intro e w3 hpr;obtain⟨b,off,c3,a0,c0,rfl,HD,HB3,Da,Pj,wV,g0,hc0⟩:=HD2.o.one hpr uN.o;dsimp only at g0 wV;clear hpr HD2 uN;have hsd:gB M ⟨1,pa,gy,fd,at_,nn,aT,sn,dt⟩=kL M q0:=qm.o;replace qm:=ab9 hsd;clear hsd;obtain⟨rr,hrr⟩:∃rr,rr=kL M q0:=⟨_,rfl⟩;have HC:=ab9 (L_ HD.o.st HD.o.marks HD.o.mm.mm iM.o.t.1 a0 q0.length c0 q0 Pj.o.strs Pj.o.cap (by omega));rw[←hrr]at HC;rw[←hrr]at qm;clear hrr;go_wp2_with fail;refine HC.o.mono ?_;rintro e w4 ⟨o4,⟨v4,rfl,FV,FW,FX,FY,rfl,k1,k2,k3,k4⟩,hs4,uO⟩;have HD4:=ab9 (HD.o.turn hs4 uO);have rM:=ab9 (And.intro k1 (And.intro k2 (And.intro k3 k4)));clear k1 k2 k3 k4 hs4 uO HC;go_wp2_with (refine au (by rfl) 37 _ _ (by rfl) (w.heap.size+1) (gZ (rr.1) FV FW FX FY) (by rfl) (by rfl) _ HD4.o.re bZ rfl (cO _ _ _ _ _) ?_;intro w5 hs5;have jV:=ab9 hs5;clear hs5);exact eD rfl rfl rfl jV.o.1 (by rw[qm.o];exact HD4.o.fin jV.o rM.o.1 rM.o.2.1 rM.o.2.2.1 rM.o.2.2.2)
end
section
variable{W w:World}{o:Mark}{i j k l n p:Nat}{M:dN}{S:Nat→Prop}{cc m:Int}{pa gy:List UInt8}{fd at_ nn aT sn:Int}{dt:List UInt8}{da:Option Addr}{dc:Nat}
theorem sdo_k5(h:Gv S W o i j k l n w p M cc ⟨5,pa,gy,fd,at_,nn,aT,sn,dt⟩ da dc m):
  Calls Tryz.prog 18 #[ptr p,.agg (opC ⟨5,pa,gy,fd,at_,nn,aT,sn,dt⟩ da dc)] w (uG o i j k l n w p (gB M ⟨5,pa,gy,fd,at_,nn,aT,sn,dt⟩)):=by
 obtain⟨o1,w2,HD2,uN,lV,iM,HX,HK,hcc⟩:=h.pre;have hps:ig ⟨5,pa,gy,fd,at_,nn,aT,sn,dt⟩=([],0):=rfl;have hsd:=Dn M hps;rw[hps]at lV;unfold opC gZ iw at lV;dsimp only[List.length_nil]at lV uN;have qm:=ab9 hsd;clear h hps hsd;unfold opC;go_enter abt,abo;go_wp2_with fail;refine lV.o.mono ?_;clear lV;intro e w3 hpr;obtain⟨a3,c3,rfl,HD,HB3,wV,g0⟩:=HD2.o.none_ hpr uN.o;dsimp only at g0 wV;clear hpr HD2 uN;have hsd:gB M ⟨5,pa,gy,fd,at_,nn,aT,sn,dt⟩=kU M ⟨5,pa,gy,fd,at_,nn,aT,sn,dt⟩:=qm.o;replace qm:=ab9 hsd;clear hsd;obtain⟨rr,hrr⟩:∃rr,rr=kU M ⟨5,pa,gy,fd,at_,nn,aT,sn,dt⟩:=⟨_,rfl⟩;have HC:=ab9 (OZ HD.o.st HD.o.marks HD.o.mm.mm iM.o.t.1 ⟨5,pa,gy,fd,at_,nn,aT,sn,dt⟩ HX.o (fun q f hf=>mg (by have:=iM.o.fd q f hf;have:=this.1;omega) (by have:=iM.o.fd q f hf;have:=this.2.1;omega)) da dc wV.o);unfold opC at HC;rw[←hrr]at HC qm;clear hrr;have g1:w3.cell? ⟨w.heap.size,1,none⟩=some (.string (strOf pa)):=by simp[World.cell?,HD.o.op,opC]
 have g2:w3.cell? ⟨w.heap.size,2,none⟩=some (.string (strOf gy)):=by simp[World.cell?,HD.o.op,opC]
 have g3:w3.cell? ⟨w.heap.size,3,none⟩=some (.int .i64 fd):=by simp[World.cell?,HD.o.op,opC]
 have g4:w3.cell? ⟨w.heap.size,4,none⟩=some (.int .i64 at_):=by simp[World.cell?,HD.o.op,opC]
 have g5:w3.cell? ⟨w.heap.size,5,none⟩=some (.int .i64 nn):=by simp[World.cell?,HD.o.op,opC]
 have g6:w3.cell? ⟨w.heap.size,6,none⟩=some (.int .u64 aT):=by simp[World.cell?,HD.o.op,opC]
 have g7:w3.cell? ⟨w.heap.size,7,none⟩=some (.int .i64 sn):=by simp[World.cell?,HD.o.op,opC]
 have g8:w3.cell? ⟨w.heap.size,8,none⟩=some (.slice da dt.length dc):=by simp[World.cell?,HD.o.op,opC]
 go_wp2_with fail;refine HC.o.mono ?_;rintro e w4 ⟨o4,⟨v4,rfl,FV,FW,FX,FY,rfl,k1,k2,k3,k4⟩,hs4,uO⟩;have HD4:=ab9 (HD.o.turn hs4 uO);have rM:=ab9 (And.intro k1 (And.intro k2 (And.intro k3 k4)));clear k1 k2 k3 k4 HC hs4 uO;go_wp2_with (refine au (by rfl) 37 _ _ (by rfl) (w.heap.size+1) (gZ (rr.1) FV FW FX FY) (by rfl) (by rfl) _ HD4.o.re bZ rfl (cO _ _ _ _ _) ?_;intro w5 hs5;have jV:=ab9 hs5;clear hs5);exact eD rfl rfl rfl jV.o.1 (by rw[qm.o];exact HD4.o.fin jV.o rM.o.1 rM.o.2.1 rM.o.2.2.1 rM.o.2.2.2)
theorem sdo_k6(h:Gv S W o i j k l n w p M cc ⟨6,pa,gy,fd,at_,nn,aT,sn,dt⟩ da dc m):
  Calls Tryz.prog 18 #[ptr p,.agg (opC ⟨6,pa,gy,fd,at_,nn,aT,sn,dt⟩ da dc)] w (uG o i j k l n w p (gB M ⟨6,pa,gy,fd,at_,nn,aT,sn,dt⟩)):=by
 obtain⟨o1,w2,HD2,uN,lV,iM,HX,HK,hcc⟩:=h.pre;have hps:ig ⟨6,pa,gy,fd,at_,nn,aT,sn,dt⟩=([],0):=rfl;have hsd:=Dn M hps;rw[hps]at lV;unfold opC gZ iw at lV;dsimp only[List.length_nil]at lV uN;have qm:=ab9 hsd;clear h hps hsd;unfold opC;go_enter abt,abo;go_wp2_with fail;refine lV.o.mono ?_;clear lV;intro e w3 hpr;obtain⟨a3,c3,rfl,HD,HB3,wV,g0⟩:=HD2.o.none_ hpr uN.o;dsimp only at g0 wV;clear hpr HD2 uN;have hsd:gB M ⟨6,pa,gy,fd,at_,nn,aT,sn,dt⟩=Pb (kV M ⟨6,pa,gy,fd,at_,nn,aT,sn,dt⟩):=qm.o;replace qm:=ab9 hsd;clear hsd;obtain⟨rr,hrr⟩:∃rr,rr=kV M ⟨6,pa,gy,fd,at_,nn,aT,sn,dt⟩:=⟨_,rfl⟩;have HC:=ab9 (O6 HD.o.st HD.o.marks HD.o.mm.mm ⟨6,pa,gy,fd,at_,nn,aT,sn,dt⟩ HX.o (fun q f hf=>mg (by have:=iM.o.fd q f hf;have:=this.1;omega) (by have:=iM.o.fd q f hf;have:=this.2.1;omega)) da dc);unfold opC at HC;rw[←hrr]at HC qm;unfold Pb at qm;clear hrr;have g1:w3.cell? ⟨w.heap.size,1,none⟩=some (.string (strOf pa)):=by simp[World.cell?,HD.o.op,opC]
 have g2:w3.cell? ⟨w.heap.size,2,none⟩=some (.string (strOf gy)):=by simp[World.cell?,HD.o.op,opC]
 have g3:w3.cell? ⟨w.heap.size,3,none⟩=some (.int .i64 fd):=by simp[World.cell?,HD.o.op,opC]
 have g4:w3.cell? ⟨w.heap.size,4,none⟩=some (.int .i64 at_):=by simp[World.cell?,HD.o.op,opC]
 have g5:w3.cell? ⟨w.heap.size,5,none⟩=some (.int .i64 nn):=by simp[World.cell?,HD.o.op,opC]
 have g6:w3.cell? ⟨w.heap.size,6,none⟩=some (.int .u64 aT):=by simp[World.cell?,HD.o.op,opC]
 have g7:w3.cell? ⟨w.heap.size,7,none⟩=some (.int .i64 sn):=by simp[World.cell?,HD.o.op,opC]
 have g8:w3.cell? ⟨w.heap.size,8,none⟩=some (.slice da dt.length dc):=by simp[World.cell?,HD.o.op,opC]
 go_wp2_with fail;refine HC.o.mono ?_;rintro e w4 ⟨rfl,o4,hs4,uO⟩;have HD4:=ab9 (HD.o.turn hs4 uO);clear hs4 uO HC;go_wp2_with fail;refine(rE _ _).mono ?_;rintro e w9 ⟨rfl,iT⟩;unfold Q7;have YS:=ab9 (HD4.o.grow iT);clear iT;go_wp2_with (refine au (by rfl) 37 _ _ (by rfl) (w.heap.size+1) (gZ (iw (rr.1)) none none 0 0) (by rfl) (by rfl) _ YS.o.re bZ rfl (cO _ _ _ _ _) ?_;intro w5 hs5;have jV:=ab9 hs5;clear hs5);exact eD rfl rfl rfl jV.o.1 (by rw[qm.o];exact YS.o.XL jV.o rfl rfl)
theorem sdo_k8(h:Gv S W o i j k l n w p M cc ⟨8,pa,gy,fd,at_,nn,aT,sn,dt⟩ da dc m):
  Calls Tryz.prog 18 #[ptr p,.agg (opC ⟨8,pa,gy,fd,at_,nn,aT,sn,dt⟩ da dc)] w (uG o i j k l n w p (gB M ⟨8,pa,gy,fd,at_,nn,aT,sn,dt⟩)):=by
 obtain⟨o1,w2,HD2,uN,lV,iM,HX,HK,hcc⟩:=h.pre;obtain⟨q0,hps,hsd,h80⟩:=JM M rfl h.paths;rw[hps]at lV;unfold opC gZ iw at lV;dsimp only[List.length_nil]at lV uN;have qm:=ab9 hsd;clear h hps hsd;unfold opC;go_enter abt,abo;go_wp2_with fail;refine lV.o.mono ?_;clear lV;intro e w3 hpr;obtain⟨b,off,c3,a0,c0,rfl,HD,HB3,Da,Pj,wV,g0,hc0⟩:=HD2.o.one hpr uN.o;dsimp only at g0 wV;clear hpr HD2 uN;have hsd:gB M ⟨8,pa,gy,fd,at_,nn,aT,sn,dt⟩=Pb (jA M q0):=qm.o;replace qm:=ab9 hsd;clear hsd;obtain⟨rr,hrr⟩:∃rr,rr=jA M q0:=⟨_,rfl⟩;have HC:=ab9 (Mc HD.o.st HD.o.marks HD.o.mm.mm iM.o.t.1 a0 q0.length c0 q0 Pj.o.strs Pj.o.cap (by omega) (JJ iM.o.t.1 q0));rw[←hrr]at HC qm;unfold Pb at qm;clear hrr;go_wp2_with fail;refine HC.o.mono ?_;rintro e w4 ⟨rfl,o4,hs4,uO⟩;have HD4:=ab9 (HD.o.turn hs4 uO);clear hs4 uO HC;go_wp2_with fail;refine(rE _ _).mono ?_;rintro e w9 ⟨rfl,iT⟩;unfold Q7;have YS:=ab9 (HD4.o.grow iT);clear iT;go_wp2_with (refine au (by rfl) 37 _ _ (by rfl) (w.heap.size+1) (gZ (iw (rr.1)) none none 0 0) (by rfl) (by rfl) _ YS.o.re bZ rfl (cO _ _ _ _ _) ?_;intro w5 hs5;have jV:=ab9 hs5;clear hs5);exact eD rfl rfl rfl jV.o.1 (by rw[qm.o];exact YS.o.XL jV.o rfl rfl)
end
section
variable{W w:World}{o:Mark}{i j k l n p:Nat}{M:dN}{S:Nat→Prop}{cc m:Int}{pa gy:List UInt8}{fd at_ nn aT sn:Int}{dt:List UInt8}{da:Option Addr}{dc:Nat}
theorem sdo_k11(h:Gv S W o i j k l n w p M cc ⟨11,pa,gy,fd,at_,nn,aT,sn,dt⟩ da dc m):
  Calls Tryz.prog 18 #[ptr p,.agg (opC ⟨11,pa,gy,fd,at_,nn,aT,sn,dt⟩ da dc)] w (uG o i j k l n w p (gB M ⟨11,pa,gy,fd,at_,nn,aT,sn,dt⟩)):=by
 obtain⟨o1,w2,HD2,uN,lV,iM,HX,HK,hcc⟩:=h.pre;obtain⟨q0,hps,hsd,h80⟩:=JM M rfl h.paths;rw[hps]at lV;unfold opC gZ iw at lV;dsimp only[List.length_nil]at lV uN;have qm:=ab9 hsd;clear h hps hsd;unfold opC;go_enter abt,abo;go_wp2_with fail;refine lV.o.mono ?_;clear lV;intro e w3 hpr;obtain⟨b,off,c3,a0,c0,rfl,HD,HB3,Da,Pj,wV,g0,hc0⟩:=HD2.o.one hpr uN.o;dsimp only at g0 wV;clear hpr HD2 uN;have Gt:=ab9 (HD.o.grow acf.drew);have O4:=Gt.o.marks;have HST0:=ab9 (Pj.o.strs.below acf.drew ace);have hsd:gB M ⟨11,pa,gy,fd,at_,nn,aT,sn,dt⟩=(rF M ⟨11,pa,gy,fd,at_,nn,aT,sn,dt⟩ q0,M):=qm.o;replace qm:=ab9 hsd;clear hsd;have HC:=ab9 (Iu Gt.o.st O4 iM.o.t.1 (by have:=iM.o.s.few;omega) ⟨11,pa,gy,fd,at_,nn,aT,sn,dt⟩ da dc a0 q0.length c0 q0 HST0.o (fun T hT=>JJ (iM.o.Pg hT).1 q0));obtain⟨rr,hrr⟩:∃rr,rr=rF M ⟨11,pa,gy,fd,at_,nn,aT,sn,dt⟩ q0:=⟨_,rfl⟩;unfold opC at HC;have g1:w3.cell? ⟨w.heap.size,1,none⟩=some (.string (strOf pa)):=by simp[World.cell?,HD.o.op,opC]
 have g2:w3.cell? ⟨w.heap.size,2,none⟩=some (.string (strOf gy)):=by simp[World.cell?,HD.o.op,opC]
 have g3:w3.cell? ⟨w.heap.size,3,none⟩=some (.int .i64 fd):=by simp[World.cell?,HD.o.op,opC]
 have g4:w3.cell? ⟨w.heap.size,4,none⟩=some (.int .i64 at_):=by simp[World.cell?,HD.o.op,opC]
 have g5:w3.cell? ⟨w.heap.size,5,none⟩=some (.int .i64 nn):=by simp[World.cell?,HD.o.op,opC]
 have g6:w3.cell? ⟨w.heap.size,6,none⟩=some (.int .u64 aT):=by simp[World.cell?,HD.o.op,opC]
 have g7:w3.cell? ⟨w.heap.size,7,none⟩=some (.int .i64 sn):=by simp[World.cell?,HD.o.op,opC]
 have g8:w3.cell? ⟨w.heap.size,8,none⟩=some (.slice da dt.length dc):=by simp[World.cell?,HD.o.op,opC]
 rw[←hrr]at HC qm;clear hrr O4;go_wp2_with fail;refine Cv 6 ((fun w'=>w'.cell? ⟨b,off,none⟩=some (.slice a0 q0.length c0)∧w'.cell? ⟨w.heap.size,0,none⟩=some (.int .i64 11)∧w'.cell? ⟨w.heap.size,1,none⟩=some (.string (strOf pa))∧w'.cell? ⟨w.heap.size,2,none⟩=some (.string (strOf gy))∧w'.cell? ⟨w.heap.size,3,none⟩=some (.int .i64 fd)∧w'.cell? ⟨w.heap.size,4,none⟩=some (.int .i64 at_)∧w'.cell? ⟨w.heap.size,5,none⟩=some (.int .i64 nn)∧w'.cell? ⟨w.heap.size,6,none⟩=some (.int .u64 aT)∧w'.cell? ⟨w.heap.size,7,none⟩=some (.int .i64 sn)∧w'.cell? ⟨w.heap.size,8,none⟩=some (.slice da dt.length dc))) ?_ fun hS=> ?_
 ·exact⟨hc0,g0,g1,g2,g3,g4,g5,g6,g7,g8⟩
 refine aY 0 hS ?_;refine aY 1 hS ?_;refine aY 2 hS ?_;refine aY 3 hS ?_;refine aY 4 hS ?_;refine dW 5 fun K hK=> ?_;go_simp;refine HC.o.mono ?_;rintro e w4 ⟨⟨v4,rfl,FV,FW,FX,FY,rfl,k1,k2,k3,k4⟩,hb4⟩;have HD4:=ab9 (Gt.o.grow hb4);have rM:=ab9 (And.intro k1 (And.intro k2 (And.intro k3 k4)));have hb4':w4.heap[b]? =w3.heap[b]? :=hb4.block b Da.o.2;have sJ:w4.heap[w.heap.size]? =w3.heap[w.heap.size]? :=hb4.block _ Gt.o.opb.2;clear k1 k2 k3 k4 HC;have pV:acd ((fun w'=>w'.cell? ⟨b,off,none⟩=some (.slice a0 q0.length c0)∧w'.cell? ⟨w.heap.size,0,none⟩=some (.int .i64 11)∧w'.cell? ⟨w.heap.size,1,none⟩=some (.string (strOf pa))∧w'.cell? ⟨w.heap.size,2,none⟩=some (.string (strOf gy))∧w'.cell? ⟨w.heap.size,3,none⟩=some (.int .i64 fd)∧w'.cell? ⟨w.heap.size,4,none⟩=some (.int .i64 at_)∧w'.cell? ⟨w.heap.size,5,none⟩=some (.int .i64 nn)∧w'.cell? ⟨w.heap.size,6,none⟩=some (.int .u64 aT)∧w'.cell? ⟨w.heap.size,7,none⟩=some (.int .i64 sn)∧w'.cell? ⟨w.heap.size,8,none⟩=some (.slice da dt.length dc)) w4):=⟨(World.cell?_of_block hb4').trans hc0,(World.cell?_of_block sJ).trans g0,(World.cell?_of_block sJ).trans g1,(World.cell?_of_block sJ).trans g2,(World.cell?_of_block sJ).trans g3,(World.cell?_of_block sJ).trans g4,(World.cell?_of_block sJ).trans g5,(World.cell?_of_block sJ).trans g6,(World.cell?_of_block sJ).trans g7,(World.cell?_of_block sJ).trans g8⟩;clear hb4 sJ;go_wp2_with fail;refine dK hK (pV.o) fun hS=> ?_;clear hK K;refine dW 6 fun K hK=> ?_;refine eY rfl 37 _ _ rfl (w.heap.size+1) (gZ (rr) FV FW FX FY) rfl rfl _ HD4.o.re bZ rfl (cO _ _ _ _ _) ?_;intro w5 hs5;have jV:=ab9 hs5;clear hs5;refine sN hK ?_;clear hS hK K;go_wp2_with fail;exact eD rfl rfl rfl jV.o.1 (by rw[qm.o];exact HD4.o.fin jV.o rM.o.1 rM.o.2.1 rM.o.2.2.1 rM.o.2.2.2)
theorem sdo_k12(h:Gv S W o i j k l n w p M cc ⟨12,pa,gy,fd,at_,nn,aT,sn,dt⟩ da dc m):
  Calls Tryz.prog 18 #[ptr p,.agg (opC ⟨12,pa,gy,fd,at_,nn,aT,sn,dt⟩ da dc)] w (uG o i j k l n w p (gB M ⟨12,pa,gy,fd,at_,nn,aT,sn,dt⟩)):=by
 obtain⟨o1,w2,HD2,uN,lV,iM,HX,HK,hcc⟩:=h.pre;obtain⟨q0,hps,hsd,h80⟩:=JM M rfl h.paths;rw[hps]at lV;unfold opC gZ iw at lV;dsimp only[List.length_nil]at lV uN;have qm:=ab9 hsd;clear h hps hsd;unfold opC;go_enter abt,abo;go_wp2_with fail;refine lV.o.mono ?_;clear lV;intro e w3 hpr;obtain⟨b,off,c3,a0,c0,rfl,HD,HB3,Da,Pj,wV,g0,hc0⟩:=HD2.o.one hpr uN.o;dsimp only at g0 wV;clear hpr HD2 uN;have Gt:=ab9 (HD.o.grow acf.drew);have O4:=Gt.o.marks;have HST0:=ab9 (Pj.o.strs.below acf.drew ace);have hsd:gB M ⟨12,pa,gy,fd,at_,nn,aT,sn,dt⟩=(rF M ⟨12,pa,gy,fd,at_,nn,aT,sn,dt⟩ q0,M):=qm.o;replace qm:=ab9 hsd;clear hsd;have HC:=ab9 (Iu Gt.o.st O4 iM.o.t.1 (by have:=iM.o.s.few;omega) ⟨12,pa,gy,fd,at_,nn,aT,sn,dt⟩ da dc a0 q0.length c0 q0 HST0.o (fun T hT=>JJ (iM.o.Pg hT).1 q0));obtain⟨rr,hrr⟩:∃rr,rr=rF M ⟨12,pa,gy,fd,at_,nn,aT,sn,dt⟩ q0:=⟨_,rfl⟩;unfold opC at HC;have g1:w3.cell? ⟨w.heap.size,1,none⟩=some (.string (strOf pa)):=by simp[World.cell?,HD.o.op,opC]
 have g2:w3.cell? ⟨w.heap.size,2,none⟩=some (.string (strOf gy)):=by simp[World.cell?,HD.o.op,opC]
 have g3:w3.cell? ⟨w.heap.size,3,none⟩=some (.int .i64 fd):=by simp[World.cell?,HD.o.op,opC]
 have g4:w3.cell? ⟨w.heap.size,4,none⟩=some (.int .i64 at_):=by simp[World.cell?,HD.o.op,opC]
 have g5:w3.cell? ⟨w.heap.size,5,none⟩=some (.int .i64 nn):=by simp[World.cell?,HD.o.op,opC]
 have g6:w3.cell? ⟨w.heap.size,6,none⟩=some (.int .u64 aT):=by simp[World.cell?,HD.o.op,opC]
 have g7:w3.cell? ⟨w.heap.size,7,none⟩=some (.int .i64 sn):=by simp[World.cell?,HD.o.op,opC]
 have g8:w3.cell? ⟨w.heap.size,8,none⟩=some (.slice da dt.length dc):=by simp[World.cell?,HD.o.op,opC]
 rw[←hrr]at HC qm;clear hrr O4;go_wp2_with fail;refine Cv 6 ((fun w'=>w'.cell? ⟨b,off,none⟩=some (.slice a0 q0.length c0)∧w'.cell? ⟨w.heap.size,0,none⟩=some (.int .i64 12)∧w'.cell? ⟨w.heap.size,1,none⟩=some (.string (strOf pa))∧w'.cell? ⟨w.heap.size,2,none⟩=some (.string (strOf gy))∧w'.cell? ⟨w.heap.size,3,none⟩=some (.int .i64 fd)∧w'.cell? ⟨w.heap.size,4,none⟩=some (.int .i64 at_)∧w'.cell? ⟨w.heap.size,5,none⟩=some (.int .i64 nn)∧w'.cell? ⟨w.heap.size,6,none⟩=some (.int .u64 aT)∧w'.cell? ⟨w.heap.size,7,none⟩=some (.int .i64 sn)∧w'.cell? ⟨w.heap.size,8,none⟩=some (.slice da dt.length dc))) ?_ fun hS=> ?_
 ·exact⟨hc0,g0,g1,g2,g3,g4,g5,g6,g7,g8⟩
 refine aY 0 hS ?_;refine aY 1 hS ?_;refine aY 2 hS ?_;refine aY 3 hS ?_;refine aY 4 hS ?_;refine dW 5 fun K hK=> ?_;go_simp;refine HC.o.mono ?_;rintro e w4 ⟨⟨v4,rfl,FV,FW,FX,FY,rfl,k1,k2,k3,k4⟩,hb4⟩;have HD4:=ab9 (Gt.o.grow hb4);have rM:=ab9 (And.intro k1 (And.intro k2 (And.intro k3 k4)));have hb4':w4.heap[b]? =w3.heap[b]? :=hb4.block b Da.o.2;have sJ:w4.heap[w.heap.size]? =w3.heap[w.heap.size]? :=hb4.block _ Gt.o.opb.2;clear k1 k2 k3 k4 HC;have pV:acd ((fun w'=>w'.cell? ⟨b,off,none⟩=some (.slice a0 q0.length c0)∧w'.cell? ⟨w.heap.size,0,none⟩=some (.int .i64 12)∧w'.cell? ⟨w.heap.size,1,none⟩=some (.string (strOf pa))∧w'.cell? ⟨w.heap.size,2,none⟩=some (.string (strOf gy))∧w'.cell? ⟨w.heap.size,3,none⟩=some (.int .i64 fd)∧w'.cell? ⟨w.heap.size,4,none⟩=some (.int .i64 at_)∧w'.cell? ⟨w.heap.size,5,none⟩=some (.int .i64 nn)∧w'.cell? ⟨w.heap.size,6,none⟩=some (.int .u64 aT)∧w'.cell? ⟨w.heap.size,7,none⟩=some (.int .i64 sn)∧w'.cell? ⟨w.heap.size,8,none⟩=some (.slice da dt.length dc)) w4):=⟨(World.cell?_of_block hb4').trans hc0,(World.cell?_of_block sJ).trans g0,(World.cell?_of_block sJ).trans g1,(World.cell?_of_block sJ).trans g2,(World.cell?_of_block sJ).trans g3,(World.cell?_of_block sJ).trans g4,(World.cell?_of_block sJ).trans g5,(World.cell?_of_block sJ).trans g6,(World.cell?_of_block sJ).trans g7,(World.cell?_of_block sJ).trans g8⟩;clear hb4 sJ;go_wp2_with fail;refine dK hK (pV.o) fun hS=> ?_;clear hK K;refine dW 6 fun K hK=> ?_;refine eY rfl 37 _ _ rfl (w.heap.size+1) (gZ (rr) FV FW FX FY) rfl rfl _ HD4.o.re bZ rfl (cO _ _ _ _ _) ?_;intro w5 hs5;have jV:=ab9 hs5;clear hs5;refine sN hK ?_;clear hS hK K;go_wp2_with fail;exact eD rfl rfl rfl jV.o.1 (by rw[qm.o];exact HD4.o.fin jV.o rM.o.1 rM.o.2.1 rM.o.2.2.1 rM.o.2.2.2)
end
section
variable{W w:World}{o:Mark}{i j k l n p:Nat}{M:dN}{S:Nat→Prop}{cc m:Int}{pa gy:List UInt8}{fd at_ nn aT sn:Int}{dt:List UInt8}{da:Option Addr}{dc:Nat}
theorem sdo_k16(h:Gv S W o i j k l n w p M cc ⟨16,pa,gy,fd,at_,nn,aT,sn,dt⟩ da dc m):
  Calls Tryz.prog 18 #[ptr p,.agg (opC ⟨16,pa,gy,fd,at_,nn,aT,sn,dt⟩ da dc)] w (uG o i j k l n w p (gB M ⟨16,pa,gy,fd,at_,nn,aT,sn,dt⟩)):=by
 obtain⟨o1,w2,HD2,uN,lV,iM,HX,HK,hcc⟩:=h.pre;have hps:ig ⟨16,pa,gy,fd,at_,nn,aT,sn,dt⟩=([],0):=rfl;have hsd:=Dn M hps;rw[hps]at lV;unfold opC gZ iw at lV;dsimp only[List.length_nil]at lV uN;have qm:=ab9 hsd;clear h hps hsd;unfold opC;go_enter abt,abo;go_wp2_with fail;refine lV.o.mono ?_;clear lV;intro e w3 hpr;obtain⟨a3,c3,rfl,HD,HB3,wV,g0⟩:=HD2.o.none_ hpr uN.o;dsimp only at g0 wV;clear hpr HD2 uN;have Gt:=ab9 (HD.o.grow acf.drew);have O4:=Gt.o.marks;have hsd:gB M ⟨16,pa,gy,fd,at_,nn,aT,sn,dt⟩=(iw 0,{M with now:=g_ M.now aT}):=qm.o;replace qm:=ab9 hsd;clear hsd;obtain⟨z2,z3,hcl⟩:=Gt.o.clock (g_ M.now aT);have z2':w3.cell? ⟨p,2,none⟩=some (.int .u64 M.now):=z2;have z3':w3.frozen? ⟨p,2,none⟩=false:=z3;have hHC:=TP M.now aT w3.drew;have HC:=ab9 hHC;clear O4 hHC z2 z3 hcl;have g6:w3.cell? ⟨w.heap.size,6,none⟩=some (.int .u64 aT):=by simp[World.cell?,HD.o.op,opC]
 go_wp2_with fail;refine Cv 10 ((fun w'=>w'.cell? ⟨p,2,none⟩=some (.int .u64 M.now)∧w'.frozen? ⟨p,2,none⟩=false∧w'.cell? ⟨w.heap.size,6,none⟩=some (.int .u64 aT))) ?_ fun hS=> ?_
 ·exact⟨z2',z3',g6⟩
 refine aY 0 hS ?_;refine aY 1 hS ?_;refine aY 2 hS ?_;refine aY 3 hS ?_;refine aY 4 hS ?_;refine aY 5 hS ?_;refine aY 6 hS ?_;refine dW 7 fun K hK=> ?_;go_simp;refine HC.o.mono ?_;rintro e w4 ⟨rfl,hb4⟩;have DK:=ab9 (Gt.o.grow hb4);obtain⟨y2,y3,hcl⟩:=DK.o.clock (g_ M.now aT);have zF:=ab9 hcl;have pV:acd ((fun w'=>w'.cell? ⟨p,2,none⟩=some (.int .u64 M.now)∧w'.frozen? ⟨p,2,none⟩=false∧w'.cell? ⟨w.heap.size,6,none⟩=some (.int .u64 aT)) w4):=⟨y2,y3,(hb4.cell (p:=⟨w.heap.size,6,none⟩) Gt.o.opb.2).trans g6⟩;clear hb4 HC hcl y2 y3;go_wp2_with fail;refine dK hK (pV.o) fun hS=> ?_;clear hK K;refine aY 8 hS ?_;refine aY 9 hS ?_;refine dW 10 fun K hK=> ?_;go_simp;refine sN hK ?_;clear hS hK K;go_wp2_with (refine au (by rfl) 37 _ _ (by rfl) (w.heap.size+1) (gZ (iw 0) none none 0 0) (by rfl) (by rfl) _ zF.o.re bZ rfl (cO _ _ _ _ _) ?_;intro w5 hs5;have jV:=ab9 hs5;clear hs5);exact eD rfl rfl rfl jV.o.1 (by rw[qm.o];exact zF.o.XL jV.o rfl rfl)
theorem sdo_k17(h:Gv S W o i j k l n w p M cc ⟨17,pa,gy,fd,at_,nn,aT,sn,dt⟩ da dc m):
  Calls Tryz.prog 18 #[ptr p,.agg (opC ⟨17,pa,gy,fd,at_,nn,aT,sn,dt⟩ da dc)] w (uG o i j k l n w p (gB M ⟨17,pa,gy,fd,at_,nn,aT,sn,dt⟩)):=by
 obtain⟨o1,w2,HD2,uN,lV,iM,HX,HK,hcc⟩:=h.pre;have hps:ig ⟨17,pa,gy,fd,at_,nn,aT,sn,dt⟩=([],0):=rfl;have hsd:=Dn M hps;rw[hps]at lV;unfold opC gZ iw at lV;dsimp only[List.length_nil]at lV uN;have qm:=ab9 hsd;clear h hps hsd;unfold opC;go_enter abt,abo;go_wp2_with fail;refine lV.o.mono ?_;clear lV;intro e w3 hpr;obtain⟨a3,c3,rfl,HD,HB3,wV,g0⟩:=HD2.o.none_ hpr uN.o;dsimp only at g0 wV;clear hpr HD2 uN;have hsd:gB M ⟨17,pa,gy,fd,at_,nn,aT,sn,dt⟩=(iw 0,M):=qm.o;replace qm:=ab9 hsd;clear hsd;go_wp2_with (refine au (by rfl) 37 _ _ (by rfl) (w.heap.size+1) (gZ (iw 0) none none 0 0) (by rfl) (by rfl) _ HD.o.re bZ rfl (cO _ _ _ _ _) ?_;intro w5 hs5;have jV:=ab9 hs5;clear hs5);exact eD rfl rfl rfl jV.o.1 (by rw[qm.o];exact HD.o.XL jV.o rfl rfl)
end
section
variable{W w:World}{o:Mark}{i j k l n p:Nat}{M:dN}
theorem sdo_bad(hS:bT o i j k w p M)(hM:Marks W o w)(hk:Mk5 i j k l n)(x:lN)(hx:wU x)(da:Option Addr)(dc:Nat)(m:Int)(hm:w.cell? ⟨2,0,none⟩=some (.int .i64 m))(hp:(ig x).2≠0):
  Calls Tryz.prog 18 #[ptr p,.agg (opC x da dc)] w (uG o i j k l n w p (gB M x)):=by
 have hsd:gB M x=(iw (ig x).2,M):=if_pos hp;obtain⟨o1,hd2⟩:=lD.start hk hS hM x da dc;have hb2:Below w.heap.size w ((w.alloc (.cells (opC x da dc) 40)).alloc (.cells (gZ (iw 0) none none 0 0) 37)):=(wall w _).trans ((wall _ _).mono (by simp));obtain⟨w2,hw2⟩:∃w2,w2=(w.alloc (.cells (opC x da dc) 40)).alloc (.cells (gZ (iw 0) none none 0 0) 37):=⟨_,rfl⟩;rw[←hw2]at hd2 hb2;have hm2:w2.cell? ⟨2,0,none⟩=some (.int .i64 m):=(hb2.cell (p:=⟨2,0,none⟩) (aaW w _ hm)).trans hm;have hpc:=Iz p w2 x da dc hx m hm2;obtain⟨ps,er,hpe⟩:∃ps er,ig x=(ps,er):=⟨_,_,rfl⟩;rw[hpe]at hpc hsd hp;have hp:er≠0:=hp;have hnz:(er !=0)=true:=by simpa using hp
 have lV:acd (Calls Tryz.prog 46 #[ptr p,.agg (opC x da dc)] ((w.alloc (.cells (opC x da dc) 40)).alloc (.cells (gZ (iw 0) none none 0 0) 37)) (fM w2 (ps,er))):=by rw[←hw2];exact ab9 hpc
 unfold opC gZ iw at lV;dsimp only[List.length_nil]at lV;have qm:=ab9 hsd;have HD2:=ab9 hd2;clear hS hM hk hx hm hp hsd hd2 hb2 hm2 hpc hw2 hpe;unfold opC;go_enter abt,abo;go_wp2_with fail;refine lV.o.mono ?_;clear lV;rintro e w3 ⟨a3,n3,c3,vs,rfl,-,-,-,-,hb3⟩;have HD:=ab9 (HD2.o.grow hb3);clear hb3 HD2;go_wp2_with fail;refine(rE _ _).mono ?_;rintro e w9 ⟨rfl,iT⟩;unfold Q7;have YS:=ab9 (HD.o.grow iT);clear iT;go_wp2_with (refine au (by rfl) 37 _ _ (by rfl) (w.heap.size+1) (gZ (iw er) none none 0 0) (by rfl) (by rfl) _ YS.o.re bZ rfl (cO _ _ _ _ _) ?_;intro w5 hs5;have jV:=ab9 hs5;clear hs5);exact eD rfl rfl rfl jV.o.1 (by rw[qm.o];exact YS.o.XL jV.o rfl rfl)
end
theorem JN(W w:World)(o:Mark)(hM:Marks W o w)(j:Nat):Calls Tryz.prog 102 #[] w fun e w'=>∃p o',e= .returned (ptr p)∧Step o (fun k=>k=j) w o' w'∧eX o' j w' p yT∧Below w.heap.size w w':=by
 refine(Zd w).mono ?_;rintro e w' ⟨g,mb,ib,nb,p,rfl,hA,hg,hb⟩;obtain⟨o',hs,h1,h2⟩:=dI hM j (fun b=>g b≠ .none) (w':=w') (fun b hb'=>⟨hg b hb',hA.low b hb'⟩) hb;exact⟨p,o',rfl,hs,⟨g,_,mb,ib,nb,hA,fun b hb'=>h1 b hb',fun b hb'=>hb'.elim⟩,hb⟩
theorem XM(W w:World)(o:Mark)(hM:Marks W o w){i j k l:Nat}(hk:Mk i j k l):Calls Tryz.prog 37 #[] w fun e w'=>∃p o',e= .returned (ptr p)∧Step o (fun m=>m=i∨m=j∨m=k∨m=l) w o' w'∧bT o' i j k w' p og∧Below w.heap.size w w':=by
 obtain⟨n1,n2,n3,n4,n5,n6,n7,n8,n9,n10⟩:=hk.ne;have HM:=ab9 hM;clear hM hk;go_enter Tryz.func37,Tryz.ntmps37;go_wp2_with fail;refine(JN W w o HM.o j).mono ?_;rintro e w1 ⟨t,o1,rfl,hs1,hT1,hb1⟩;have kr:=ab9 (HM.o.step (fun e=>n2 e.symm) hs1);have nH:=ab9 hs1;have HT1:=ab9 hT1;have HB1:=ab9 hb1;clear hs1 hT1 hb1;go_wp2_with fail;refine(SC kr.o i n1).mono ?_;rintro e w2 ⟨s,o2,rfl,hs2,hS2,hb2⟩;have h0i:¬(fun m=>m=i) 0:=fun e=>n1 e.symm;have h0k:¬(fun m=>m=k) 0:=fun e=>n3 e.symm;have pX:=ab9 (kr.o.step h0i hs2);have HT2:=ab9 (HT1.o.step h0i (fun e=>n5 e.symm) hs2);have HS2:=ab9 hs2;have Fg:=ab9 hS2;have HB2:=ab9 hb2;clear hs2 hS2 hb2;go_wp2_with fail;go_ret;have hb3:Below w2.heap.size w2 (w2.alloc (.cells (Dl t s 0 fun _=> .pointer none) 104)):=wall w2 _;obtain⟨o3,hs3,h1,h2⟩:=dI pX.o k (fun b=>b=w2.heap.size) (w':=w2.alloc (.cells (Dl t s 0 fun _=> .pointer none) 104)) (fun b hb=>by subst hb;exact⟨Nat.le_refl _,by simp⟩) hb3;exact⟨w2.heap.size,o3,rfl,((nH.o.mono fun m hm=> .inr (.inl hm)).trans (HS2.o.mono fun m hm=> .inl hm)).trans (hs3.mono fun m hm=> .inr (.inr (.inl hm))),⟨⟨t,s,fun _=> .pointer none,(MapKept.heap_alloc w2 _).1,Fg.o.step h0k n6 hs3,HT2.o.step h0k n8 hs3,fun n hn=>rfl⟩,h1 _ rfl,by simp⟩,HB1.o.trans ((HB2.o.trans (hb3.mono HB2.o.size)).mono HB1.o.size)⟩
abbrev Five(i:Nat):Nat→Prop:=fun m=>i≤m∧m≤i+4
structure xK(W:World)(o:Mark)(i:Nat)(w:World)(p:Nat)(c:Int)(M:dN):Prop where
 st:bT o i (i+1) (i+2) w p M
 marks:Marks W o w
 ok:fP c M
theorem mk5{i:Nat}(hi:0<i):Mk5 i (i+1) (i+2) (i+3) (i+4):=⟨⟨by omega⟩,by omega⟩
section
variable{W w w':World}{o o':Mark}{i p:Nat}{c:Int}{M:dN}
theorem xK.grow(h:xK W o i w p c M)(hb:Below w.heap.size w w'):xK W o i w' p c M:=⟨h.st.grow h.marks hb,h.marks.grow hb,h.ok⟩
theorem xK.below(h:xK W o i w p c M):Below W.heap.size W w:=h.marks.below
theorem xK.mono{d:Int}(h:xK W o i w p c M)(hcd:c≤d):xK W o i w p d M:=⟨h.st,h.marks,h.ok.mono hcd⟩
theorem oW{i m:Nat}(h:m=i∨m=i+1∨m=i+2∨m=i+3∨m=i+4):Five i m:=⟨by omega,by omega⟩
theorem st_new(hM:Marks W o w)(hi:0<i):Calls Tryz.prog 37 #[] w fun e w'=>∃p o',e= .returned (ptr p)∧Step o (Five i) w o' w'∧xK W o' i w' p 1 og:=by
 refine(XM W w o hM (mk5 hi).mm).mono ?_;rintro e w' ⟨p,o',rfl,hs,hS,hb⟩;have hs5:Step o (Five i) w o' w':=hs.mono fun m hm=>oW (by omega);exact⟨p,o',rfl,hs5,⟨hS,hM.step (fun e=>by have:=e.1;omega) hs5,fP.new⟩⟩
def DoW(W:World)(o:Mark)(i:Nat)(w:World)(p:Nat)(c:Int)(M:dN)(x:lN)(e:Ending)(w':World):Prop:=
 ∃o',Fh o' (gB M x).1 e w'∧Step o (Five i) w o' w'∧xK W o' i w' p (c+1) (gB M x).2
end
theorem XO(W:World):Marks W (fun _=>0) W:=⟨fun b hb=>absurd rfl hb,Below.refl _ _⟩
theorem yG{x:lN}(wk:0≤x.kind∧x.kind≤1000)(wf:0≤x.fd∧x.fd≤1000)(wa:0≤x.at_∧x.at_≤1000000)(wn:0≤x.n∧x.n≤1000000)(ws:0≤x.snap∧x.snap≤1000000)(wt:0≤x.aT∧x.aT≤18446744073709551615)(wp:x.path.length≤1000)(wq:x.gy.length≤1000)(wd:x.data.length≤1000000):wU x:=
 ⟨mg (by omega) (by omega),mg (by omega) (by omega),mg (by omega) (by omega),mg (by omega) (by omega),mg (by omega) (by omega),wt,by omega,by omega,by omega⟩
def fV(M:dN):List UInt8:=bA M.now 8++bA (f_ (dw M.t)).length 8++f_ (dw M.t)++gH M.s
def qo(S:rH):Prop:=∀x∈S.l,(0≤x.id∧x.id≤S.next)∧x.hash.length≤64
theorem qo.new:qo Hq:=fun x hx=>by cases hx
theorem qo.take{S:rH}(h:qo S)(h0:0≤S.next)(T:aI):qo (xI S T).2:=by
 unfold xI;split
 ·exact h
 ·intro x hx;rcases aas.1 hx with hx|hx
  ·have:=h x hx;exact⟨⟨this.1.1,by have:=this.1.2;show x.id≤S.next+1;omega⟩,this.2⟩
  ·rw[List.mem_singleton.1 hx];exact⟨⟨h0,by show S.next≤S.next+1;omega⟩,Ra _⟩
theorem qo.forget{S:rH}(h:qo S)(id now:Int):qo (kP S id now).2:=by
 rcases yD S id now with e|⟨k,e⟩
 ·rw[e];exact h
 ·rw[e];intro x hx;rcases aas.1 (show x∈S.l.take k++S.l.drop (k+1)from hx)with hx|hx
  ·exact h x (aaK hx)
  ·exact h x (abS hx)
theorem fP.sv{c:Int}{M:dN}(h:fP c M)(hc:c≤1000000000)(hi:qo M.s):Lm M.s:=
 ⟨h.s.few,h.s.last,⟨h.next.1,by have:=h.next.2;omega⟩,fun x hx=>by have:=hi x hx;have:=h.next.2;exact⟨⟨by omega,by omega⟩,by omega⟩⟩
theorem Pk{o:Mark}{i:Nat}{w:World}{s:Nat}{S:rH}(hS:jR o i w s S)(hv:Lm S):(gH S).length≤50001000:=by
 obtain⟨v,la,lc,vals,h1,h2,h3,h4,h5,h6,h7,h8⟩:=hS.at_;have:=EC h6 fun x hx=>(hv.each x hx).2;have:=hv.few;have:=hv.last;unfold gH;simp only[List.length_append,ay,vo];omega
section
variable{W w:World}{o:Mark}{i j k p:Nat}{M:dN}{c:Int}
theorem Fv(hS:bT o i j k w p M)(hM:Marks W o w)(hok:fP c M)(hv:Lm M.s):Calls Tryz.prog 38 #[ptr p] w (fJ w (fV M)):=by
 obtain⟨t,s,v,h1,h2,h3,h4⟩:=hS.at_;have hlow:=hS.low;have HC:=ab9 (rA h3 hM hok.t.1);have HM:=ab9 hM;have Fg:=ab9 h2;have HV:=ab9 hv;have iM:=ab9 hok.t.1.dw;have mP:=hok.now;have HH:acd (∀w',Below w.heap.size w w'→w'.cell? ⟨p,0,none⟩=some (ptr t)∧w'.cell? ⟨p,1,none⟩=some (ptr s)∧w'.cell? ⟨p,2,none⟩=some (.int .u64 M.now)):=fun w' hb=>by
  obtain⟨z0,z1,z2,-⟩:=iG ((hb.block p hlow).trans h1);exact⟨z0,z1,z2⟩
 obtain⟨c0,c1,c2⟩:=HH.o w acf;clear hS hM hok hv h1 h2 h3 h4;go_enter Tryz.func38,Tryz.ntmps38;go_wp2_with fail;refine HC.o.mono ?_;rintro e w1 ⟨q,rfl,hT,hb1⟩;have HT:=ab9 hT;have HB1:=ab9 hb1;clear hT hb1 HC;go_wp2_with fail;refine(Jm HT.o iM.o).mono ?_;rintro e w2 ⟨ba,bn,bc,rfl,hbc,hbr,hb2⟩;have hsb:=B_ iM.o;obtain⟨C,hC⟩:∃C,C=f_ (dw M.t):=⟨_,rfl⟩;rw[←hC]at hbr hsb;have HCE:=ab9 hC;have hbl:bn=C.length:=by have:=hbr.length;simpa using this.symm
 subst hbl;have FM:=ab9 hbr;have rX:=HB1.o.trans (hb2.mono HB1.o.size);have HB2:=ab9 rX;obtain⟨d0,d1,d2⟩:=HH.o w2 rX;clear hbr hb2 rX hC c0 c1 c2;go_wp2_with fail;refine(dB _).mono ?_;rintro e w3 ⟨rfl,hW3,hb3⟩;have HW3:=ab9 hW3;have HB3:=ab9 hb3;have TR:=HB2.o.trans (hb3.mono HB2.o.size);obtain⟨e0,e1,e2⟩:=HH.o w3 TR;clear hW3 hb3 TR d0 d1 d2;go_wp2_with fail;refine(iy HW3.o M.now mP.1 (by omega) (by simp)).mono ?_;intro e w4 ht4;obtain⟨rfl,x4,Np,hb4⟩:=b_.more HW3.o HB3.o ht4;have zm:=ab9 Np;have dh:=ab9 hb4;have hb14:=HB2.o.trans (hb4.mono HB2.o.size);obtain⟨f0,f1,f2⟩:=HH.o w4 hb14;have hcv:=Dg (C.length:Int) (by omega) (by omega);clear ht4 Np hb4 hb14 e0 e1 e2 HW3;go_wp2_with fail;refine(iy zm.o (C.length:Int) (by omega) (by omega) (by simp[ay])).mono ?_;intro e w5 ht5;obtain⟨rfl,x5,D5,hb5⟩:=b_.more zm.o dh.o ht5;have qB:=ab9 D5;have dX:=ab9 hb5;have hb15:=HB2.o.trans (hb5.mono HB2.o.size);obtain⟨g0,g1,g2⟩:=HH.o w5 hb15;have hbr5:=FM.o.kept hb5.size (fun b hb _=>hb5.block b hb.2);clear ht5 D5 hb5 hb15 f0 f1 f2 zm hcv;go_wp2_with fail;refine(gF qB.o ba C.length bc C hbr5 (by simp[ay]) (by omega)).mono ?_;intro e w6 ht6;obtain⟨rfl,x6,CW,hb6⟩:=b_.more qB.o dX.o ht6;have qN:=ab9 CW;have oK:=ab9 hb6;have XP:=HB2.o.trans (hb6.mono HB2.o.size);have HB16:=ab9 XP;obtain⟨k0,k1,k2⟩:=HH.o w6 XP;have HSN6:=ab9 (Fg.o.step (I:=fun _=>False) (fun e=>e) (fun e=>e) (Step.grow HM.o XP));have Ak:=ab9 (HM.o.grow XP);have hsl:=Pk HSN6.o HV.o;clear ht6 CW hb6 XP g0 g1 g2 qB hbr5;go_wp2_with fail;refine(SH HSN6.o Ak.o HV.o).mono ?_;rintro e w7 ⟨sa,sn,sc,rfl,hsc,hsr,iR⟩;have HSR:=ab9 hsr;have sQ:=ab9 (qN.o.below iR);have jw:=ab9 (oK.o.trans (iR.mono oK.o.size));have hsl2:sn=(gH M.s).length:=by have:=hsr.length;simpa using this.symm
 subst hsl2;clear hsr iR qN;go_wp2_with fail;refine(gF sQ.o sa (gH M.s).length sc (gH M.s) HSR.o (by simp[ay];omega) (by omega)).mono ?_;intro e w8 ht8;obtain⟨rfl,x8,Lb,gJ⟩:=b_.more sQ.o jw.o ht8;have Cy:=ab9 Lb;have nG:=ab9 gJ;clear ht8 Lb gJ sQ;go_wp2_with fail;refine(fK Cy.o (by simp[ay];omega)).mono ?_;rintro e w9 ⟨ra,rn,rc,rfl,hrc,hrr,iT⟩;have HRR:=ab9 hrr;have sU:=ab9 iT;clear hrr iT;go_wp2_with fail;go_ret;have hs2:=HB2.o.size;have Aj:=nG.o.size;refine⟨ra,rn,rc,rfl,hrc,?_,(HB2.o.trans (nG.o.mono hs2)).trans (sU.o.mono (by omega))⟩;have e:[]++bA M.now 8++bA (C.length:Int) 8++C++gH M.s=fV M:=by
  rw[HCE.o];unfold fV;simp
 have h9:=HRR.o;rw[e]at h9;exact h9.mono fun b hb=>⟨by omega,hb.2⟩
end
theorem oF.forget{S:rH}(h:oF S)(id now:Int):oF (kP S id now).2:=by
 rcases yD S id now with e|⟨k,e⟩
 ·rw[e];exact h
 ·rw[e];have hsub:∀x∈(cutM S k).l,x∈S.l:=fun x hx=>by
   rcases aas.1 (show x∈S.l.take k++S.l.drop (k+1)from hx)with hx|hx
   ·exact aaK hx
   ·exact abS hx
  refine⟨h.next,h.last,fun x hx=>h.each x (hsub x hx),?_⟩;show(S.l.take k++S.l.drop (k+1)).Pairwise _;have hs:(S.l.take k++S.l.drop (k+1)).Sublist S.l:=by
   have h1:(S.l.take k++S.l.drop (k+1)).Sublist (S.l.take k++S.l.drop k):=(List.Sublist.refl _).append (by
    rw[←aaS];exact List.drop_sublist _ _)
   rwa [aaQ]at h1
  exact h.up.sublist hs
section
variable{W w:World}{o:Mark}{i j s p:Nat}{S:rH}{T:aI}
open Classical in
theorem XQ{K:aI→Prop}{w9:World}{v v8:Value}{vals vsx:List Value}{x:lU}{la:Option Addr}{lc:Nat}(hM:Marks W o w)(hi:i≠0)(hos:o s=i)(hsw:s<w.heap.size)(hvo:∀b,v.ownBlock=some b→o b=i∧b≠s∧b<w.heap.size)
  (hO:gL K o w vals S.l)(hx:Bb K o w vsx x)(hlc:S.last.length≤lc)(hla:ah (fun b=>o b=0∧b<w.heap.size) w la S.last.length (S.last.map bv))(hh:w9.heap[s]? =some (.cells #[v8,.int .i64 S.next,.slice la S.last.length lc] 199 (0,0)))(hown:w9.ownsRow 0 197 3 v8 (S.l.length+1) (vals++vsx))
  (hat:v8.ownBlock=v.ownBlock∨∃b,v8.ownBlock=some b∧w.heap.size≤b)(hK:Keeps (fun b=>b=s∨v.ownBlock=some b) w w9):
  ∃o',Step o (fun k=>k=i) w o' w9∧oD K o' i w9 s ⟨S.l++[x],S.next,S.last⟩:=by
 obtain⟨o',ho⟩:∃o':Mark,∀b,o' b=if v8.ownBlock=some b∧w.heap.size≤b then i else o b:=⟨_,fun _=>rfl⟩;have vP:∀b,v8.ownBlock=some b→b<w9.heap.size:=jf hown;have hst:Step o (fun k=>k=i) w o' w9:=by
  refine⟨fun b hb=>by rw[ho,if_neg (fun h=>by omega)],fun b hb hn=> ?_,hK.mono fun b hb h=> ?_⟩
  ·by_cases h:v8.ownBlock=some b∧w.heap.size≤b
   ·rw[ho,if_pos h];exact⟨rfl,vP b h.1⟩
   ·rw[ho,if_neg h]at hn;have:=(hM.new b hn).2;omega
  ·rcases h with h|h
   ·rw[h];exact hos
   ·exact(hvo b h).1
 have hi0:¬(fun k=>k=i) 0:=fun e=>hi e.symm;refine⟨o',hst,⟨v8,la,lc,vals++vsx,hh,(hst.old s hsw).trans hos,Nat.lt_of_lt_of_le hsw hK.size,?_,fun b hb=> ?_,?_,hlc,?_⟩⟩
 ·rw[List.length_append];exact hown
 ·rcases hat with h1|⟨b',h1,h2⟩
  ·rw[h1]at hb;obtain⟨k1,k2,k3⟩:=hvo b hb;exact⟨(hst.old b k3).trans k1,k2,Nat.lt_of_lt_of_le k3 hK.size⟩
  ·rw[h1]at hb;cases hb;exact⟨by rw[ho,if_pos ⟨h1,h2⟩],by omega,vP _ h1⟩
 ·exact gL.append (hO.step hi0 hst) ⟨_,[],by simp,hx.step hi0 hst,rfl⟩
 ·exact hla.move hst.keep.size fun b hb hbw=>⟨⟨(hst.old b hb.2).trans hb.1,Nat.lt_of_lt_of_le hb.2 hst.keep.size⟩,hst.block hb.2 (by rw[hb.1];exact hi0)⟩
theorem Pm(hS:jR o i w s S)(hM:Marks W o w)(hi:i≠0)(hj:j≠0)(hij:i≠j)(x:lU)(rest:List UInt8)(xr:Nat)(hR:FQ o j w xr (kF x++rest,0))(hO:fH x.t)(hc:dw x.t=x.t)(hid:1≤x.id∧x.id<S.next)(hnx:S.next≤1000000000)(behind:Int)(hbh:0≤behind∧behind<x.id)(hh:x.hash.length=32)(I_:S.l.length<8)(hrs:rest.length≤100000000):
  Calls Tryz.prog 277 #[ptr s,ptr xr,.int .i64 behind] w fun e w'=>e= .returned (.bool true)∧∃o',Step o (fun k=>k=i∨k=j) w o' w'∧jR o' i w' s ⟨S.l++[x],S.next,S.last⟩∧FQ o' j w' xr (rest,0):=by
 have hsl:=Ll hO.1;obtain⟨sv,hsv⟩:∃sv,sv=f_ x.t:=⟨_,rfl⟩;have hs2:2≤sv.length:=by rw[hsv];unfold f_;rw[List.length_append,ay];omega
 have e8:(256:Int)^8=18446744073709551616:=rfl;rw[←hsv]at hsl;have n1:bB (kF x++rest,0) 8=(x.id,(oO x.hash++(bA sv.length 8++(sv++rest)),0)):=by
  unfold kF;rw[←hsv,List.append_assoc,List.append_assoc,List.append_assoc];exact eT 8 x.id _ (by omega) (by omega)
 have n2:aP (oO x.hash++(bA sv.length 8++(sv++rest)),0)=(x.hash,(bA sv.length 8++(sv++rest),0)):=m_ _ _ (by omega);have n3:bB (bA (sv.length:Int) 8++(sv++rest),0) 8=((sv.length:Int),(sv++rest,0)):=eT 8 _ _ (by omega) (by omega);have n4:jJ (sv++rest,0) (sv.length:Int)=(sv,(rest,0)):=rR _ _ _ rfl;have n5:lJ (sv++rest,0)=sv.length+rest.length:=by unfold lJ;rw[if_neg (by simp),List.length_append]
 have JO:=ab9 hsv;have HS:=ab9 hS;have HM:=ab9 hM;have CB:=ab9 (zW hR hM n1);have iM:=ab9 hO;have HCM:=ab9 hc;have MU:=ab9 n2;have Ji:=ab9 n3;have Wp:=ab9 n4;have HN5:=ab9 n5;have HHH:=ab9 hh;have hI:∀o0:Nat,o0=0→¬(fun k=>k=j) o0:=fun o0 h0 e=>hj (by rw[←e];exact h0);have hj0:¬(fun k=>k=j) 0:=fun e=>hj e.symm;have hji:¬(fun k=>k=j) i:=fun e=>hij e;have Js:=ab9 hj0;have HJI:=ab9 hji;obtain⟨id,hide⟩:∃id,id=x.id:=⟨_,rfl⟩;obtain⟨nx,JQ⟩:∃nx,nx=S.next:=⟨_,rfl⟩;rw[←hide]at CB hid hbh;rw[←JQ]at hid hnx;have HIDE:=ab9 hide;have HNXE:=ab9 JQ;obtain⟨L,hL⟩:∃L,L=sv.length:=⟨_,rfl⟩;rw[←hL]at hsl hs2 Ji Wp HN5 MU CB;have Gb:=ab9 hL;clear hS hM hR hO hc hh n1 n2 n3 n4 n5 hsv hI hj0 hji hide JQ hL;go_enter Tryz.func277,Tryz.ntmps277;go_wp2_with fail;refine CB.o.mono ?_;rintro e w1 ⟨rfl,kR,hs1⟩;have kr:=ab9 (HM.o.step Js.o hs1);have nH:=ab9 (HS.o.step Js.o HJI.o hs1);have qH:=ab9 hs1;have sI:=ab9 (LK kR kr.o MU.o);clear kR hs1 CB HS;go_wp2_with fail;refine sI.o.mono ?_;rintro e w2 ⟨a2,c2,rfl,hc2,hr2,hR2,vQ⟩;have pX:=ab9 (kr.o.step Js.o vQ);have HS2:=ab9 (nH.o.step Js.o HJI.o vQ);have Me:=ab9 (qH.o.trans vQ);have HROW2:acd (ah (Free o w2) w2 a2 x.hash.length (x.hash.map bv)):=hr2;have HCAP2:=ab9 hc2;have C9:=ab9 (zW hR2 pX.o Ji.o);rw[HHH.o];clear hc2 hr2 hR2 vQ sI nH kr qH;go_wp2_with fail;refine C9.o.mono ?_;rintro e w3 ⟨rfl,BR,hs3⟩;have uJ:=ab9 (pX.o.step Js.o hs3);have xV:=ab9 (HS2.o.step Js.o HJI.o hs3);have JR:=ab9 (Me.o.trans hs3);have Ez:=ab9 (HROW2.o.free Js.o hs3);have Dc:=ab9 (Ju BR);have Gi:=ab9 (OD BR uJ.o (L:Int) (by omega) (by omega) Wp.o);rw[HN5.o]at Dc;obtain⟨v,la,lc,vals,h1,h2,h3,h4,h5,h6,h7,h8⟩:=xV.o.at_;have q1:w3.cell? ⟨s,1,none⟩=some (.int .i64 nx):=by rw[HNXE.o];simp[World.cell?,h1]
 have z1:((L+rest.length:Nat):Int)≤9223372036854775807:=by omega
 have z2:IntKind.u64.wrap ((L+rest.length:Nat):Int)=((L+rest.length:Nat):Int):=by simp[IntKind.wrap,IntKind.bits,IntKind.signed];omega
 have z3:(((L+rest.length:Nat):Int)==0)=false:=abW.2 (by omega);have z4:decide (((L+rest.length:Nat):Int)<(L:Int))=false:=aaf (by omega);have z5:IntKind.u64.wrap nx=nx:=by simp[IntKind.wrap,IntKind.bits,IntKind.signed];omega
 have z6:decide (nx≤id)=false:=aaf (by omega);have z7:IntKind.i64.wrap id=id:=aah _ (by omega);have z8:decide (id≤behind)=false:=aaf (by omega);have z9:IntKind.i64.wrap (L:Int)=(L:Int):=aah _ (by omega);have zA:((32:Int)==32)=true:=rfl;obtain⟨R,hR⟩:∃R,R=L+rest.length:=⟨_,rfl⟩;rw[←hR]at Dc z1 z2 z3 z4;have zB:L≤R:=by omega
 have zC:decide (R<L)=false:=aaf (by omega);clear h1 h2 h3 h4 h5 h6 h7 h8 hR BR hs3 C9 HS2 pX Me HROW2;go_wp2_with fail;refine Dc.o.mono ?_;rintro e _ ⟨rfl,rfl⟩;go_wp2_with fail;refine Dc.o.mono ?_;rintro e _ ⟨rfl,rfl⟩;go_wp2_with fail;refine Gi.o.mono ?_;rintro e w4 ⟨a4,c4,rfl,hc4,hr4,xD,hs4⟩;rw[←Gb.o]at hr4⊢;have mo:=ab9 (uJ.o.step Js.o hs4);have pV:=ab9 (xV.o.step Js.o HJI.o hs4);have oV:=ab9 (JR.o.trans hs4);have Mf:=ab9 (Ez.o.free Js.o hs4);have dh:acd (ah (Free o w4) w4 a4 L (sv.map bv)):=hr4;have HR4:=ab9 xD;have VG:=ab9 (Ic a4 L c4 sv w4 (by omega) hr4);clear hc4 hr4 xD hs4 Gi Dc xV uJ JR Ez q1;go_wp2_with fail;refine VG.o.mono ?_;intro e w5 hld;obtain⟨p,rfl,hnt⟩:=jT.yes (T:=x.t) (by rw[←JO.o];exact hld) iM.o;have hb5:=hnt.below;have WR:=ab9 (hnt.froz mo.o);have vI:=ab9 (mo.o.grow hb5);have jV:=ab9 (pV.o.grow mo.o hb5);have Gw:=ab9 (oV.o.trans (Step.grow mo.o hb5));have Ei:=ab9 (Mf.o.free (I:=fun _=>False) (fun e=>e) (Step.grow mo.o hb5));have dX:=ab9 (dh.o.free (I:=fun _=>False) (fun e=>e) (Step.grow mo.o hb5));have sZ:=ab9 (HR4.o.grow mo.o hb5);have HC:=ab9 (rA WR.o vI.o iM.o.1);rw[HCM.o]at HC;clear hld hnt hb5 VG mo pV oV Mf dh HR4;go_wp2_with fail;refine HC.o.mono ?_;rintro e w6 ⟨q2,rfl,ZU,hb6⟩;have Pn:=ab9 (Jm ZU iM.o.1);rw[←JO.o]at Pn;have Po:=ab9 hb6;clear ZU hb6 HC;go_wp2_with fail;refine Pn.o.mono ?_;rintro e w7 ⟨a7,n7,c7,rfl,Gc,qC,iR⟩;have yH:Below w5.heap.size w5 w7:=Po.o.trans (iR.mono Po.o.size);have HT7:=ab9 (WR.o.grow yH);have Df:=ab9 (vI.o.grow yH);have HS7:=ab9 (jV.o.grow vI.o yH);have wW:=ab9 (Gw.o.trans (Step.grow vI.o yH));have Ej:=ab9 (Ei.o.free (I:=fun _=>False) (fun e=>e) (Step.grow vI.o yH));have tu:=ab9 (sZ.o.grow vI.o yH);have HEQ:=ab9 (qh a7 a4 n7 L c7 c4 sv w7 qC (dX.o.free (I:=fun _=>False) (fun e=>e) (Step.grow vI.o yH)));clear Gc qC iR yH Pn Po WR vI jV Gw Ei sZ dX;go_wp2_with fail;refine HEQ.o.mono ?_;rintro e _ ⟨rfl,rfl⟩;obtain⟨v,la,lc,vals,h1,h2,h3,h4,h5,h6,h7,h8⟩:=HS7.o.at_;obtain⟨a,c,rfl,hcap⟩:=bG h4;obtain⟨n,hn⟩:∃n,n=S.l.length:=⟨_,rfl⟩;have q0:w7.cell? ⟨s,0,none⟩=some (.slice a n c):=by rw[hn];simp[World.cell?,h1]
 obtain⟨i3,hi3⟩:∃i,Tryz.prog.info? 197=some i∧i.zero=some (.agg #[.int .i64 0,.slice none 0 0,.pointer none])∧i.size=3∧i.bytes=40:=aay (by kernel_rfl);have HI3:=ab9 hi3;have HOW7:acd (w7.ownsRow 0 197 3 (.slice a n c) n vals):=by rw[hn];exact ab9 h4
 have HVO:acd (∀b,(Value.slice a n c).ownBlock=some b→o b=i∧b≠s∧b<w7.heap.size):=by
  rw[hn];exact ab9 h5
 have Xu:acd (w7.heap[s]? =some (.cells #[.slice a n c,.int .i64 S.next,.slice la S.last.length lc] 199 (0,0))):=by
  rw[hn];exact ab9 h1
 have Rc:=ab9 (And.intro h2 (And.intro h6 (And.intro h7 h8)));have vY:n<8:=by omega
 have FP:=ab9 hn;clear h1 h2 h4 h5 h6 h7 h8 hcap hn hi3 I_;go_wp2_with (at_builtin;refine ji (by rfl) _ _ 194 (by rfl) 0 197 i3 _ 3 40 Tryz.underlying194 HI3.o.1 HI3.o.2.1 HI3.o.2.2.1 HI3.o.2.2.2 rfl (by omega) (.slice a n c) n vals (by rfl) (bR HOW7.o fun b hb hbw=>(wall w7 _).block b hbw) (some ⟨w7.heap.size,0,none⟩) 1 1 [.int .i64 id,.slice a2 32 c2,ptr p] (by rfl) (kQ (w:=w7) [.int .i64 id,.slice a2 32 c2,ptr p] 197 (by simp[maxLen])) (by simp[Value.oneCell']) (by unfold maxLen;omega) (by omega) (Nat.zero_le _) ?_;intro A8 c8 w8 L6 Ux hat8;have Aj:w8.heap[s]? =some (.cells #[.slice a n c,.int .i64 S.next,.slice la S.last.length lc] 199 (0,0)):=((Ux.block s (Nat.lt_of_lt_of_le h3 (wall w7 _).size) (fun e=>(HVO.o s e.symm).2.1 rfl)).trans ((wall w7 _).block s h3)).trans Xu.o;have r0:w8.cell? ⟨s,0,none⟩=some (.slice a n c):=bY Aj 0;have rf:w8.frozen? ⟨s,0,none⟩=false:=(by simp only[World.frozen?,Aj];rfl);have HOWN8:=ab9 L6;have HG8:=ab9 Ux;have HAT8:=ab9 hat8;have Ut:=ab9 Aj;clear L6 Ux hat8 Aj);go_ret;have F9:=wall w7 (.cells #[.int .i64 id,.slice a2 32 c2,ptr p] 197);have Gd:(w8.setCell ⟨s,0,none⟩ (.slice A8 (n+1) c8)).heap[s]? =some (.cells #[.slice A8 (n+1) c8,.int .i64 S.next,.slice la S.last.length lc] 199 (0,0)):=aK Ut.o;have hne:∀b,(Value.slice A8 (n+1) c8).ownBlock=some b→b≠s:=fun b hb e=>by
  rcases HAT8.o with h9|h9
  ·rw[h9]at hb;exact(HVO.o b hb).2.1 e
  ·rw[h9]at hb;simp only[aag,Pd]at hb;omega
 have CG:OneAt o w7 [.int .i64 id,.slice a2 32 c2,ptr p] x:=⟨a2,c2,p,by rw[HIDE.o,HHH.o],HCAP2.o.1,Ej.o,HT7.o,iM.o.1⟩;have k1:Keeps (fun b=>b=s∨(Value.slice a n c).ownBlock=some b) w7 (w7.alloc (.cells #[.int .i64 id,.slice a2 32 c2,ptr p] 197)):=(Keeps.below F9).mono fun z hz hz'=>by omega
 have k2:Keeps (fun b=>b=s∨(Value.slice a n c).ownBlock=some b) (w7.alloc (.cells #[.int .i64 id,.slice a2 32 c2,ptr p] 197)) w8:=(Keeps.grown HG8.o).mono fun z _ hz=>Or.inr hz;have k3:Keeps (fun b=>b=s∨(Value.slice a n c).ownBlock=some b) w8 (w8.setCell ⟨s,0,none⟩ (.slice A8 (n+1) c8)):=(Keeps.kX w8 ⟨s,0,none⟩ _).mono fun z _ hz=>Or.inl hz;obtain⟨o9,hst9,Xp⟩:=XQ (w9:=w8.setCell ⟨s,0,none⟩ (.slice A8 (n+1) c8)) (v:= .slice a n c) (v8:= .slice A8 (n+1) c8) (S:=S) Df.o hi Rc.o.1 h3 HVO.o Rc.o.2.1 CG Rc.o.2.2.1 Rc.o.2.2.2 Gd (by
   rw[←FP.o];exact bR HOWN8.o fun b hb hbw=>aL _ _ _ _ (hne b hb)) (by
   rcases HAT8.o with h9|h9
   ·exact .inl h9
   ·exact .inr ⟨_,h9,by rw[Pd];omega⟩) ((k1.trans k2 fun z _ hz=>hz).trans k3 fun z _ hz=>hz)
 refine⟨rfl,o9,(wW.o.mono fun k hk=> .inr hk).trans (hst9.mono fun k hk=> .inl hk),Xp,tu.o.step (fun e=>hi e.symm) (fun e=>hij e.symm) hst9⟩
end
def SlRel(W:World)(o:Mark)(i j:Nat)(w:World)(s xr:Nat)(S:rH)(bv' iv:Value)(wr:World):Prop:=
 ∃(k:Nat) (o':Mark) (bh:Int),iv= .int .i64 k∧k≤S.l.length∧bv'= .int .i64 bh∧0≤bh∧(∀x,S.l[k]? =some x→bh<x.id)∧Step o (fun m=>m=i∨m=j) w o' wr∧jR o' i wr s ⟨S.l.take k,S.next,S.last⟩∧FQ o' j wr xr ((S.l.drop k).flatMap kF,0)
theorem XR{w:World}{e:TypeId}{size:Nat}{v:Value}{n:Nat}{xs:List Value}(h:w.ownsRow 0 e size v n xs)(hn:0<n):∃b c,v= .slice (some ⟨b,0,none⟩) n c∧n≤c∧c≤maxLen∧∀i u,xs[i]? =some u→w.cell? ⟨b,i,none⟩=some u:=by
 obtain⟨h1,h2⟩:=h;rcases h2 with⟨h2,rfl⟩|⟨g,cap,cur,h2,hg,hcur,h3,h4,h5,h6⟩
 ·omega
 ·refine⟨g,cap,h2,h3,h4,fun i u hu=> ?_⟩;simp only[World.cell?,hcur];rw[←h6,aat]at hu;split at hu
  ·simpa using hu
  ·cases hu
section
variable{W w:World}{o:Mark}{i j s p:Nat}{S:rH}
theorem Pp{Q:Nat→Prop}(hM:Marks W o w)(hi:i≠0)(hj:j≠0)(hij:i≠j)(a:Option Addr)(n c:Nat)(hG:oF S)(hv:Lm S)(hOk:∀x∈S.l,fH x.t)(hr:ah Q w a n ((gH S).map bv))(hsl:(gH S).length≤90000000):
  Calls Tryz.prog 254 #[.slice a n c] w fun e w'=>∃s o',e= .returned (.tuple #[ptr s,.int .i64 0])∧Step o (fun m=>m=i∨m=j) w o' w'∧jR o' i w' s S:=by
 have hln:(gH S).length=n:=by simpa using hr.length
 have e8:(256:Int)^8=18446744073709551616:=rfl;have e1:(256:Int)^1=256:=rfl;have g1:=hG.next;have g2:=hv.next;have g3:=hv.few;have g4:=hv.last;have n1:bB (gH S,0) 8=(S.next,(oO S.last++(bA S.l.length 1++S.l.flatMap kF),0)):=by
  unfold gH;rw[List.append_assoc,List.append_assoc];exact eT 8 _ _ (by omega) (by omega)
 have n2:aP (oO S.last++(bA (S.l.length:Int) 1++S.l.flatMap kF),0)=(S.last,(bA (S.l.length:Int) 1++S.l.flatMap kF,0)):=m_ _ _ (by omega);have n3:bB (bA (S.l.length:Int) 1++S.l.flatMap kF,0) 1=((S.l.length:Int),(S.l.flatMap kF,0)):=eT 1 _ _ (by omega) (by omega);have hfl:(S.l.flatMap kF).length≤90000000:=by
  unfold gH at hsl;rw[List.length_append]at hsl;omega
 have Pj:=ab9 (WS hM j a n c (gH S) (by omega) hr);have HM:=ab9 hM;have zV:=ab9 n1;have MU:=ab9 n2;have Ji:=ab9 n3;have HG:=ab9 hG;have HV:=ab9 hv;have iM:=ab9 hOk;have DT:=ab9 hfl;have hj0:¬(fun k=>k=j) 0:=fun e=>hj e.symm;have hji:¬(fun k=>k=j) i:=fun e=>hij e;have Js:=ab9 hj0;have HJI:=ab9 hji;obtain⟨nx,JQ⟩:∃nx,nx=S.next:=⟨_,rfl⟩;rw[←JQ]at zV g1 g2;have HNXE:=ab9 JQ;obtain⟨N,hNe⟩:∃N,N=S.l.length:=⟨_,rfl⟩;rw[←hNe]at zV MU Ji g3;have FP:=ab9 hNe;obtain⟨L,ZB⟩:∃L,L=S.last.length:=⟨_,rfl⟩;rw[←ZB]at g4;have hcase:((nx==1)=true∧L=0)∨((nx==1)=false∧L=32):=by
  by_cases h1:nx=1
  ·left;exact⟨by simpa using h1,by rw[ZB,hG.last.1 (by rw[←JQ];exact h1)];rfl⟩
  ·right;exact⟨by simpa using h1,by rw[ZB];exact hG.last.2 (by rw[←JQ];exact h1)⟩
 have Gb:=ab9 ZB;have z1:IntKind.i64.wrap nx=nx:=aah _ (by omega);have z2:decide (nx<1)=false:=aaf (by omega);have z3:decide (1099511627776<nx)=false:=aaf (by omega);have z4:decide ((8:Int)<(N:Int))=false:=aaf (by omega);clear hM hG hv hOk hr n1 n2 n3 hfl hj0 hji JQ hNe ZB hln hsl;go_enter Tryz.func254,Tryz.ntmps254;go_wp2_with fail;refine Pj.o.mono ?_;rintro e w1 ⟨xr,o1,rfl,kR,hs1⟩;have kr:=ab9 (HM.o.step Js.o hs1);have qH:=ab9 hs1;have CB:=ab9 (zW kR kr.o zV.o);clear kR hs1 Pj;go_wp2_with fail;refine CB.o.mono ?_;rintro e w2 ⟨rfl,hR2,hs2⟩;have pX:=ab9 (kr.o.step Js.o hs2);have Me:=ab9 (qH.o.trans hs2);have sI:=ab9 (LK hR2 pX.o MU.o);clear hR2 hs2 CB kr qH;go_wp2_with fail;refine sI.o.mono ?_;rintro e w3 ⟨a3,c3,rfl,hc3,hr3,BR,hs3⟩;have uJ:=ab9 (pX.o.step Js.o hs3);have JR:=ab9 (Me.o.trans hs3);have Ez:acd (ah (Free o1 w3) w3 a3 S.last.length (S.last.map bv)):=hr3;have HCAP3:=ab9 hc3;have C9:=ab9 (ro_byte BR uJ.o Ji.o);rw[←Gb.o];clear hc3 hr3 BR hs3 sI pX Me;go_wp2_with fail;refine C9.o.mono ?_;rintro e w4 ⟨rfl,xD,hs4⟩;have mo:=ab9 (uJ.o.step Js.o hs4);have oV:=ab9 (JR.o.trans hs4);have Mf:=ab9 (Ez.o.free Js.o hs4);have HR4:=ab9 xD;clear xD hs4 C9 uJ JR Ez;obtain⟨w5,oL⟩:∃w5,w5=w4.alloc (.cells #[.slice none 0 0,.int .i64 nx,.slice a3 L c3] 199):=⟨_,rfl⟩;have hb5:Below w4.heap.size w4 w5:=by rw[oL];exact wall w4 _
 have hz5:w5.heap.size=w4.heap.size+1:=by rw[oL];simp
 have hsb:w5.heap[w4.heap.size]? =some (.cells #[.slice none 0 0,.int .i64 nx,.slice a3 L c3] 199 (0,0)):=by rw[oL];exact(MapKept.heap_alloc w4 _).1
 obtain⟨o5,hs5,m1,m2⟩:=dI mo.o i (fun b=>b=w4.heap.size) (w':=w5) (fun b hb=>by subst hb;exact⟨Nat.le_refl _,by omega⟩) hb5;have hi0:¬(fun k=>k=i) 0:=fun e=>hi e.symm;have Gw:acd (Step o (fun m=>m=i∨m=j) w o5 w5):=(oV.o.mono fun k hk=> .inr hk).trans (hs5.mono fun k hk=> .inl hk);have sZ:=ab9 (HR4.o.step hi0 (fun e=>hij e.symm) hs5);have HSN5:acd (jR o5 i w5 w4.heap.size ⟨S.l.take 0,S.next,S.last⟩):=by
  refine⟨.slice none 0 0,a3,c3,[],?_,m1 _ rfl,by omega,⟨rfl,.inl ⟨rfl,rfl⟩⟩,fun b hb=>by simp[Value.ownBlock]at hb,rfl,HCAP3.o.1,?_⟩
  ·show _=some (Obj.cells #[.slice none 0 0,.int .i64 S.next,.slice a3 S.last.length c3] _ _);rw[←HNXE.o,←Gb.o];exact hsb
  ·exact Mf.o.free hi0 hs5
 have qB:=ab9 oL;clear oL hb5 hz5 hsb hs5 m1 m2 hi0 mo oV Mf HR4 HCAP3;have hcase2:((nx==1)=true∧((L:Int)==0)=true∧((L:Int) !=0)=false)∨((nx==1)=false∧((L:Int)==32)=true∧((L:Int) !=32)=false):=by
  rcases hcase with⟨q1,q2⟩|⟨q1,q2⟩
  ·exact .inl ⟨q1,by rw[q2];rfl,by rw[q2];rfl⟩
  ·exact .inr ⟨q1,by rw[q2];rfl,by rw[q2];rfl⟩
 clear hcase;rcases hcase2 with⟨q1,q2,q3⟩|⟨q1,q2,q3⟩
 all_goals
  go_wp2_with fail;rw[←qB.o];clear qB
  go_loopw [10,43] (fun bv' iv wr=>SlRel W o i j w w4.heap.size xr S bv' iv wr) (fun _ iv _=>N-(intOf iv).toNat)
  case atStart=>
   refine⟨0,o5,0,rfl,Nat.zero_le _,rfl,Int.le_refl _,fun x hx=> ?_,Gw.o,HSN5.o,sZ.o⟩;have:=(HG.o.each x (aaI hx)).1.1;omega
  case round=>
   obtain⟨k,o6,bh,rfl,hk,rfl,hb0,hbx,hst,hsn,hrd⟩:=hrel;have HST:=ab9 hst;have Fg:=ab9 hsn;have zR:=ab9 hrd;have hI0:¬(fun m=>m=i∨m=j) 0:=fun e=>by rcases e with e|e<;>omega
   have HMR:=ab9 (HM.o.step hI0 hst);have HI0:=ab9 hI0;have HBX:=ab9 hbx;have hnn:=FP.o;clear hst hsn hrd hI0 hbx;by_cases hlt:k<N
   ·have hx:S.l[k]? =some (S.l[k]'(by omega)):=List.getElem?_eq_getElem (by omega);obtain⟨x,hxe⟩:∃x,x=S.l[k]'(by omega):=⟨_,rfl⟩;rw[←hxe]at hx;have hxm:=aaI hx;have hdr:(S.l.drop k).flatMap kF=kF x++(S.l.drop (k+1)).flatMap kF:=by
     rw[aa0 (by omega),←hxe,aaY]
    have htk:S.l.take (k+1)=S.l.take k++[x]:=by rw[aai (by omega),←hxe]
    have hrl:((S.l.drop (k+1)).flatMap kF).length≤100000000:=by
     have h9:=DT.o;have h8:(S.l.take (k+1)).flatMap kF++(S.l.drop (k+1)).flatMap kF=S.l.flatMap kF:=by rw[←abf,aaQ]
     rw[←h8,List.length_append]at h9;omega
    have hge:=HG.o.each x hxm;have rG:=ab9 (Pm Fg.o HMR.o hi hj hij x ((S.l.drop (k+1)).flatMap kF) xr (by rw[←hdr];exact zR.o) (iM.o x hxm) hge.2.2 hge.1 (by show S.next≤_;rw[←HNXE.o];omega) bh ⟨hb0,HBX.o x hx⟩ hge.2.1 (by show(S.l.take k).length<8;rw[List.length_take];omega) hrl);have HX:=ab9 hx;have yP:=ab9 htk;have hidw:x.id≤1000000000:=((HV.o.each x hxm).1.2);have hid1:=hge.1.1;have HUP:acd (∀y,S.l[k+1]? =some y→x.id<y.id):=fun y hy=>by
     obtain⟨hk1,e1⟩:=aaj.1 hy;obtain⟨hk0,e0⟩:=aaj.1 hx;have:=List.pairwise_iff_getElem.1 HG.o.up k (k+1) hk0 hk1 (by omega);rw[e0,e1]at this;exact this
    clear hx hxe hxm hdr htk hrl hge hb0 hnn;go_wp2_with fail;refine rG.o.mono ?_;rintro e w7 ⟨rfl,o7,hst7,hsn7,hrd7⟩;have wW:=ab9 (HST.o.trans hst7);have Df:=ab9 (HMR.o.step HI0.o hst7);have HSN7:=ab9 hsn7;have HRD7:=ab9 hrd7;obtain⟨v,la,lc,vals,h1,h2,h3,h4,h5,h6,h7,h8⟩:=hsn7.at_;dsimp only at h4 h6;rw[←yP.o]at h4 h6;have hlk:(S.l.take (k+1)).length=k+1:=by
     have:=FP.o;rw[List.length_take];omega
    rw[hlk]at h4;obtain⟨b,c9,rfl,xw,hcm,hcell⟩:=XR h4 (by omega);obtain⟨_,_,_,hv0,-⟩:=h6.at_ (k:=k) (x:=x) (by rw[aat,if_pos (by omega)];exact HX.o);have qs:w7.cell? ⟨w4.heap.size,0,none⟩=some (.slice (some ⟨b,0,none⟩) (k+1) c9):=by simp[World.cell?,h1]
    have qx:w7.cell? ⟨b,k*3,none⟩=some (.int .i64 x.id):=hcell _ _ hv0;have zk:IntKind.i64.wrap ((((k+1:Nat)):Int)-1)=(k:Int):=by rw[aah _ (by omega)];omega
    have zk2:IntKind.i64.wrap ((k:Int)+1-1)=(k:Int):=by rw[aah _ (by omega)];omega
    have zk3:(0:Int)≤(k:Int):=by omega
    have zk4:(k:Int)<((k+1:Nat):Int):=by omega
    have zk5:(k:Int)<(k:Int)+1:=by omega
    clear h1 h2 h3 h4 h5 h6 h7 h8 xw hcm hcell hv0 hlk hst7 hsn7 hrd7 rG Fg zR HST HMR;go_wp2_with fail
    go_quiet (fail)
    go_wp2_with fail;have hbq:Below w7.heap.size w7 (w7.drewN nq):=⟨rfl,rfl,rfl,Nat.le_refl _,fun _ _=>rfl⟩;go_roundw
    case rel=>exact⟨k+1,o7,x.id,by go_num,by have:=FP.o;omega,rfl,by omega,HUP.o,wW.o.trans (Step.grow Df.o hbq),by rw[yP.o];exact HSN7.o.grow Df.o hbq,HRD7.o.grow Df.o hbq⟩
    case measure=>simp[intOf];omega
   ·obtain rfl:k=N:=by omega
    have hall:S.l.take k=S.l:=by rw[hnn];exact List.take_length
    have hdn:(S.l.drop k).flatMap kF=[]:=by rw[hnn,List.drop_length];rfl
    have HE:=ab9 (ro_end zR.o);rw[hdn]at HE;have Gn:qF ([],0)=0:=rfl;rw[Gn]at HE;have HFIN:acd (jR o6 i wr w4.heap.size S):=by
     have h9:=Fg.o;rw[hall]at h9;exact h9
    clear hall hdn Gn Fg zR hnn;go_wp2_with fail;refine HE.o.mono ?_;rintro e _ ⟨rfl,rfl⟩;go_wp2_with fail
    go_ret2
    exact⟨_,o6,rfl,HST.o,HFIN.o⟩
end
end Go.Proofs.YtmflaonodghbcaaGreatDoor
