/- package state: Do, kinds 9 10 11 12. -/
import Derived.Test.YtmabllemjkcobaaGreatDoorM36
namespace Go.Proofs.YtmabllemjkcobaaGreatDoor
open Go.ChangeShapes Go.WideShapes Go.ChangeAt Go.RowKit
set_option linter.unusedVariables false
set_option linter.unusedSimpArgs false
section
variable {W w:World} {o:Mark} {i j k l n p:Nat} {M:eF}
set_option maxRecDepth 100000 in
set_option maxHeartbeats 8000000 in
theorem Us {S:Nat→Prop} (hS:aU o i j k w p M) (hM:Marks W o w) (hk:yB i j k l n) (cc:Int) (hok:eU cc M) (hcc:cc≤1000000000) (pa aA:List UInt8) (fd at_ nn au sn:Int) (dt:List UInt8) (hx:jL ⟨9,pa,aA,fd,at_,nn,au,sn,dt⟩) (da:Option Addr) (dc:Nat) (hda:aj S w da dt.length (dt.map bv)) (m:Int) (hm:w.cell? ⟨0,0,none⟩=some (.int .i64 m)) (hp:(bL ⟨9,pa,aA,fd,at_,nn,au,sn,dt⟩).2=0):
  Calls Tryz.prog 12 #[ptr p, .agg (opC ⟨9,pa,aA,fd,at_,nn,au,sn,dt⟩ da dc)] w (jO o i j k l n w p (bM M ⟨9,pa,aA,fd,at_,nn,au,sn,dt⟩)):=by
 obtain⟨kJ,hf0⟩:=je (a:=pa) hp
 have hps:bL ⟨9,pa,aA,fd,at_,nn,au,sn,dt⟩=([(av pa).1],0):=kJ
 have hsd:bM M ⟨9,pa,aA,fd,at_,nn,au,sn,dt⟩=oW M ⟨9,pa,aA,fd,at_,nn,au,sn,dt⟩ ((av pa).1) ([]):=by unfold bM;rw[hps];rfl
 have h80:=gM hf0
 obtain⟨q0,hq0⟩:∃q0,q0=(av pa).1:=⟨_,rfl⟩
 rw[←hq0]at hps hsd h80
 obtain⟨o1,hd2⟩:=gJ.start hk hS hM ⟨9,pa,aA,fd,at_,nn,au,sn,dt⟩ da dc
 have hb2:Below w.heap.size w ((w.alloc (.cells (opC ⟨9,pa,aA,fd,at_,nn,au,sn,dt⟩ da dc) 28)).alloc (.cells (b_ (bW 0) none none 0 0) 36)):=(wall w _).trans ((wall _ _).mono (by simp))
 obtain⟨w2,hw2⟩:∃w2,w2=(w.alloc (.cells (opC ⟨9,pa,aA,fd,at_,nn,au,sn,dt⟩ da dc) 28)).alloc (.cells (b_ (bW 0) none none 0 0) 36):=⟨_,rfl⟩
 rw[←hw2]at hd2 hb2
 have hm2:w2.cell? ⟨0,0,none⟩=some (.int .i64 m):=(hb2.cell (p:=⟨0,0,none⟩) (World.block_lt_of_cell? w _ hm)).trans hm
 have hpc:=dX p w2 ⟨9,pa,aA,fd,at_,nn,au,sn,dt⟩ da dc hx m hm2
 rw[hps]at hpc
 have gZ:Hid (Calls Tryz.prog 36 #[ptr p, .agg (opC ⟨9,pa,aA,fd,at_,nn,au,sn,dt⟩ da dc)] ((w.alloc (.cells (opC ⟨9,pa,aA,fd,at_,nn,au,sn,dt⟩ da dc) 28)).alloc (.cells (b_ (bW 0) none none 0 0) 36)) (aR w2 ([q0],0))):=by rw[←hw2];exact Lib.hid hpc
 unfold opC b_ bW at gZ
 dsimp only[List.length_nil]at gZ
 have gN:=Lib.hid hsd
 have fu:=Lib.hid hok
 have HX:=Lib.hid hx
 have j_:=Lib.hid (hda.below hb2 (Nat.le_refl _))
 have HD2:=Lib.hid hd2
 have HK:=Lib.hid hk
 clear hS hM hk hok hx hda hm hp hps hsd hd2 hb2 hm2 hpc hw2 kJ hf0 hq0
 unfold opC
 go_enter Tryz.func12,Tryz.ntmps12
 go_wp2_with fail
 (with_reducible refine gZ.out.mono ?_)
 clear gZ
 intro e w3 hpr
 obtain⟨b,off,c3,a0,c0,rfl,hb0,hbw,hn0,hb3⟩:=hpr.one
 clear hpr
 have HD:=Lib.hid (HD2.out.grow hb3)
 have HB3:=Lib.hid hb3
 have DY:Hid (o1 b=0∧b<w3.heap.size):=⟨Decidable.byContradiction fun h0=>by have:=(HD2.out.marks.new b h0).2;omega,hbw⟩
 have hc0:=hn0.cell
 have rM:=Lib.hid hn0
 clear hn0
 have qQ:=Lib.hid (j_.out.below hb3 (Nat.le_refl _))
 have g0:w3.cell? ⟨w.heap.size,0,none⟩=some (.int .i64 9):=by simp[World.cell?,HD.out.op,opC]
 clear hb3 HD2 j_
 have lX:=Lib.hid (HD.out.grow (Below.refl _ _).drew)
 have pR:=lX.out.marks
 have sG:=Lib.hid (rM.out.strs.below (Below.refl _ _).drew (Nat.le_refl _))
 obtain⟨t,z0,wI,htr⟩:=lX.out.Ig
 have F8:w3.cell? ⟨p,0,none⟩=some (ptr t):=z0
 have zu:=Lib.hid htr
 have hsd:bM M ⟨9,pa,aA,fd,at_,nn,au,sn,dt⟩=(bW (eT M.t q0).1,M.tr (eT M.t q0).2):=gN.out
 replace gN:=Lib.hid hsd
 clear hsd
 have HC:=Lib.hid (Mw wI pR HK.out.mm.ne.2.1 fu.out.t.1 a0 q0.length c0 q0 sG.out rM.out.cap (by omega))
 obtain⟨rr,hrr⟩:∃rr,rr=eT M.t q0:=⟨_,rfl⟩
 rw[←hrr]at HC gN
 clear hrr htr wI pR z0
 go_wp2_with fail
 refine wp_region_noPanic ?_
 refine bH (last:=9) (S:=(fun w'=>w'.cell? ⟨p,0,none⟩=some (ptr t)∧w'.cell? ⟨b,off,none⟩=some (.slice a0 q0.length c0))) (by kernel_rfl) ?_ (fun hS=> ?_)
 ·exact⟨F8,hc0⟩
 refine bf 0 (hS:=hS) (h:= ?_)
 refine bf 1 (hS:=hS) (h:= ?_)
 refine bf 2 (hS:=hS) (h:= ?_)
 refine bf 3 (hS:=hS) (h:= ?_)
 refine bf 4 (hS:=hS) (h:= ?_)
 refine bf 5 (hS:=hS) (h:= ?_)
 refine bf 6 (hS:=hS) (h:= ?_)
 refine jF 7 (h:=fun K hK=> ?_)
 go_simp
 (with_reducible refine HC.out.mono ?_)
 rintro e w4 ⟨rfl,o4,hs4,kN⟩
 obtain⟨hd4,wW⟩:=zu.out _ _ _ hs4 kN
 have HD4:=Lib.hid hd4
 have hb4:w4.heap[b]? =w3.heap[b]? :=lX.out.stays (hs4.mono fun m hm=> .inr (.inl hm)) DY.out
 have pX:w4.heap[p]? =w3.heap[p]? :=wW
 clear hd4 hs4 kN wW HC
 have iH:Hid ((fun w'=>w'.cell? ⟨p,0,none⟩=some (ptr t)∧w'.cell? ⟨b,off,none⟩=some (.slice a0 q0.length c0)) w4):=⟨(World.cell?_of_block pX).trans F8,(World.cell?_of_block hb4).trans hc0⟩
 clear hb4 pX
 go_wp2_with fail
 refine hK.out _ _ (fun _=>iH.out) (fun hS=> ?_)
 replace hS:=hS (by decide)
 clear hK K
 try simp only[Act.put,List.setIfInBounds_toArray,List.set_cons_zero,List.set_cons_succ]
 refine jF 8 (h:=fun K hK=> ?_)
 go_simp
 (with_reducible refine(gu _ _).mono ?_)
 rintro e w9 ⟨rfl,fM⟩
 unfold uV
 have vX:=Lib.hid (HD4.out.grow fM)
 have QN:Hid ((fun w'=>w'.cell? ⟨p,0,none⟩=some (ptr t)∧w'.cell? ⟨b,off,none⟩=some (.slice a0 q0.length c0)) w9):=⟨(fM.cell (World.block_lt_of_cell? w4 _ iH.out.1)).trans iH.out.1,(fM.cell (World.block_lt_of_cell? w4 _ iH.out.2)).trans iH.out.2⟩
 clear fM
 go_wp2_with fail
 refine hK.out _ _ (fun _=>QN.out) (fun hS=> ?_)
 replace hS:=hS (by decide)
 clear hK K
 try simp only[Act.put,List.setIfInBounds_toArray,List.set_cons_zero,List.set_cons_succ]
 refine aS (rs:=[9]) (by kernel_rfl) (by simp) ?_
 refine ay.cons (o:= ?o1) ?ho1 (fun K hK=> ?_) ay.nil
 case ho1=>simp only[List.getElem?_toArray,List.getElem?_cons_succ,List.getElem?_cons_zero];rfl
 refine bK rfl 36 _ _ rfl (w.heap.size+1) (b_ (bW (rr.1)) none none 0 0) rfl rfl _ vX.out.re bA rfl (bD _ _ _ _ _) ?_
 intro w5 hs5
 have fQ:=Lib.hid hs5
 clear hs5
 refine hK.out _ _ (fun h=>absurd rfl h) (fun hS=> ?_)
 clear hS hK K
 try simp only[Act.put,List.setIfInBounds_toArray,List.set_cons_zero,List.set_cons_succ]
 refine aT (by kernel_rfl) ?_ _
 refine NoPanic.normal ?_
 go_wp2_with fail
 exact bJ rfl rfl rfl fQ.out.1 (by rw[gN.out];exact vX.out.wK fQ.out rfl rfl)
set_option maxRecDepth 100000 in
set_option maxHeartbeats 8000000 in
theorem QO {S:Nat→Prop} (hS:aU o i j k w p M) (hM:Marks W o w) (hk:yB i j k l n) (cc:Int) (hok:eU cc M) (hcc:cc≤1000000000) (pa aA:List UInt8) (fd at_ nn au sn:Int) (dt:List UInt8) (hx:jL ⟨10,pa,aA,fd,at_,nn,au,sn,dt⟩) (da:Option Addr) (dc:Nat) (hda:aj S w da dt.length (dt.map bv)) (m:Int) (hm:w.cell? ⟨0,0,none⟩=some (.int .i64 m)) (hp:(bL ⟨10,pa,aA,fd,at_,nn,au,sn,dt⟩).2=0):
  Calls Tryz.prog 12 #[ptr p, .agg (opC ⟨10,pa,aA,fd,at_,nn,au,sn,dt⟩ da dc)] w (jO o i j k l n w p (bM M ⟨10,pa,aA,fd,at_,nn,au,sn,dt⟩)):=by
 obtain⟨kJ,hf0,hf1⟩:=yC (a:=pa) (b:=aA) hp
 have hps:bL ⟨10,pa,aA,fd,at_,nn,au,sn,dt⟩=([(av pa).1,(av aA).1],0):=kJ
 have hsd:bM M ⟨10,pa,aA,fd,at_,nn,au,sn,dt⟩=oW M ⟨10,pa,aA,fd,at_,nn,au,sn,dt⟩ ((av pa).1) ((av aA).1):=by unfold bM;rw[hps];rfl
 have h80:=gM hf0
 have h81:=gM hf1
 obtain⟨q0,hq0⟩:∃q0,q0=(av pa).1:=⟨_,rfl⟩
 rw[←hq0]at hps hsd h80
 obtain⟨q1,hq1⟩:∃q1,q1=(av aA).1:=⟨_,rfl⟩
 rw[←hq1]at hps hsd h81
 obtain⟨o1,hd2⟩:=gJ.start hk hS hM ⟨10,pa,aA,fd,at_,nn,au,sn,dt⟩ da dc
 have hb2:Below w.heap.size w ((w.alloc (.cells (opC ⟨10,pa,aA,fd,at_,nn,au,sn,dt⟩ da dc) 28)).alloc (.cells (b_ (bW 0) none none 0 0) 36)):=(wall w _).trans ((wall _ _).mono (by simp))
 obtain⟨w2,hw2⟩:∃w2,w2=(w.alloc (.cells (opC ⟨10,pa,aA,fd,at_,nn,au,sn,dt⟩ da dc) 28)).alloc (.cells (b_ (bW 0) none none 0 0) 36):=⟨_,rfl⟩
 rw[←hw2]at hd2 hb2
 have hm2:w2.cell? ⟨0,0,none⟩=some (.int .i64 m):=(hb2.cell (p:=⟨0,0,none⟩) (World.block_lt_of_cell? w _ hm)).trans hm
 have hpc:=dX p w2 ⟨10,pa,aA,fd,at_,nn,au,sn,dt⟩ da dc hx m hm2
 rw[hps]at hpc
 have gZ:Hid (Calls Tryz.prog 36 #[ptr p, .agg (opC ⟨10,pa,aA,fd,at_,nn,au,sn,dt⟩ da dc)] ((w.alloc (.cells (opC ⟨10,pa,aA,fd,at_,nn,au,sn,dt⟩ da dc) 28)).alloc (.cells (b_ (bW 0) none none 0 0) 36)) (aR w2 ([q0,q1],0))):=by rw[←hw2];exact Lib.hid hpc
 unfold opC b_ bW at gZ
 dsimp only[List.length_nil]at gZ
 have gN:=Lib.hid hsd
 have fu:=Lib.hid hok
 have HX:=Lib.hid hx
 have j_:=Lib.hid (hda.below hb2 (Nat.le_refl _))
 have HD2:=Lib.hid hd2
 have HK:=Lib.hid hk
 clear hS hM hk hok hx hda hm hp hps hsd hd2 hb2 hm2 hpc hw2 kJ hf0 hf1 hq0 hq1
 unfold opC
 go_enter Tryz.func12,Tryz.ntmps12
 go_wp2_with fail
 (with_reducible refine gZ.out.mono ?_)
 clear gZ
 intro e w3 hpr
 obtain⟨b,off,c3,a0,c0,a1,c1,rfl,hb0,hbw,hn0,hn1,hb3⟩:=hpr.two
 clear hpr
 have HD:=Lib.hid (HD2.out.grow hb3)
 have HB3:=Lib.hid hb3
 have DY:Hid (o1 b=0∧b<w3.heap.size):=⟨Decidable.byContradiction fun h0=>by have:=(HD2.out.marks.new b h0).2;omega,hbw⟩
 have hc0:=hn0.cell
 have rM:=Lib.hid hn0
 clear hn0
 have hc1:=hn1.cell
 have vS:=Lib.hid hn1
 clear hn1
 have qQ:=Lib.hid (j_.out.below hb3 (Nat.le_refl _))
 have g0:w3.cell? ⟨w.heap.size,0,none⟩=some (.int .i64 10):=by simp[World.cell?,HD.out.op,opC]
 clear hb3 HD2 j_
 have lX:=Lib.hid (HD.out.grow (Below.refl _ _).drew)
 have pR:=lX.out.marks
 have sG:=Lib.hid (rM.out.strs.below (Below.refl _ _).drew (Nat.le_refl _))
 have l8:=Lib.hid (vS.out.strs.below (Below.refl _ _).drew (Nat.le_refl _))
 obtain⟨t,z0,wI,htr⟩:=lX.out.Ig
 have F8:w3.cell? ⟨p,0,none⟩=some (ptr t):=z0
 have zu:=Lib.hid htr
 have hsd:bM M ⟨10,pa,aA,fd,at_,nn,au,sn,dt⟩=(bW (cu M.t q0 q1).1,M.tr (cu M.t q0 q1).2):=gN.out
 replace gN:=Lib.hid hsd
 clear hsd
 have HC:=Lib.hid (Jw wI pR HK.out.mm.ne.2.1 fu.out.t a0 q0.length c0 q0 a1 q1.length c1 q1 sG.out l8.out rM.out.cap (by omega) vS.out.cap (by omega))
 obtain⟨rr,hrr⟩:∃rr,rr=cu M.t q0 q1:=⟨_,rfl⟩
 rw[←hrr]at HC gN
 clear hrr htr wI pR z0
 go_wp2_with fail
 refine wp_region_noPanic ?_
 refine bH (last:=12) (S:=(fun w'=>w'.cell? ⟨p,0,none⟩=some (ptr t)∧w'.cell? ⟨b,off,none⟩=some (.slice a0 q0.length c0)∧w'.cell? ⟨b,off+1,none⟩=some (.slice a1 q1.length c1))) (by kernel_rfl) ?_ (fun hS=> ?_)
 ·exact⟨F8,hc0,hc1⟩
 refine bf 0 (hS:=hS) (h:= ?_)
 refine bf 1 (hS:=hS) (h:= ?_)
 refine bf 2 (hS:=hS) (h:= ?_)
 refine bf 3 (hS:=hS) (h:= ?_)
 refine bf 4 (hS:=hS) (h:= ?_)
 refine bf 5 (hS:=hS) (h:= ?_)
 refine bf 6 (hS:=hS) (h:= ?_)
 refine bf 7 (hS:=hS) (h:= ?_)
 refine bf 8 (hS:=hS) (h:= ?_)
 refine bf 9 (hS:=hS) (h:= ?_)
 refine jF 10 (h:=fun K hK=> ?_)
 go_simp
 (with_reducible refine HC.out.mono ?_)
 rintro e w4 ⟨rfl,o4,hs4,kN⟩
 obtain⟨hd4,wW⟩:=zu.out _ _ _ hs4 kN
 have HD4:=Lib.hid hd4
 have hb4:w4.heap[b]? =w3.heap[b]? :=lX.out.stays (hs4.mono fun m hm=> .inr (.inl hm)) DY.out
 have pX:w4.heap[p]? =w3.heap[p]? :=wW
 clear hd4 hs4 kN wW HC
 have iH:Hid ((fun w'=>w'.cell? ⟨p,0,none⟩=some (ptr t)∧w'.cell? ⟨b,off,none⟩=some (.slice a0 q0.length c0)∧w'.cell? ⟨b,off+1,none⟩=some (.slice a1 q1.length c1)) w4):=⟨(World.cell?_of_block pX).trans F8,(World.cell?_of_block hb4).trans hc0,(World.cell?_of_block hb4).trans hc1⟩
 clear hb4 pX
 go_wp2_with fail
 refine hK.out _ _ (fun _=>iH.out) (fun hS=> ?_)
 replace hS:=hS (by decide)
 clear hK K
 try simp only[Act.put,List.setIfInBounds_toArray,List.set_cons_zero,List.set_cons_succ]
 refine jF 11 (h:=fun K hK=> ?_)
 go_simp
 (with_reducible refine(gu _ _).mono ?_)
 rintro e w9 ⟨rfl,fM⟩
 unfold uV
 have vX:=Lib.hid (HD4.out.grow fM)
 have QN:Hid ((fun w'=>w'.cell? ⟨p,0,none⟩=some (ptr t)∧w'.cell? ⟨b,off,none⟩=some (.slice a0 q0.length c0)∧w'.cell? ⟨b,off+1,none⟩=some (.slice a1 q1.length c1)) w9):=⟨(fM.cell (World.block_lt_of_cell? w4 _ iH.out.1)).trans iH.out.1,(fM.cell (World.block_lt_of_cell? w4 _ iH.out.2.1)).trans iH.out.2.1,(fM.cell (World.block_lt_of_cell? w4 _ iH.out.2.2)).trans iH.out.2.2⟩
 clear fM
 go_wp2_with fail
 refine hK.out _ _ (fun _=>QN.out) (fun hS=> ?_)
 replace hS:=hS (by decide)
 clear hK K
 try simp only[Act.put,List.setIfInBounds_toArray,List.set_cons_zero,List.set_cons_succ]
 refine aS (rs:=[12]) (by kernel_rfl) (by simp) ?_
 refine ay.cons (o:= ?o2) ?ho2 (fun K hK=> ?_) ay.nil
 case ho2=>simp only[List.getElem?_toArray,List.getElem?_cons_succ,List.getElem?_cons_zero];rfl
 refine bK rfl 36 _ _ rfl (w.heap.size+1) (b_ (bW (rr.1)) none none 0 0) rfl rfl _ vX.out.re bA rfl (bD _ _ _ _ _) ?_
 intro w5 hs5
 have fQ:=Lib.hid hs5
 clear hs5
 refine hK.out _ _ (fun h=>absurd rfl h) (fun hS=> ?_)
 clear hS hK K
 try simp only[Act.put,List.setIfInBounds_toArray,List.set_cons_zero,List.set_cons_succ]
 refine aT (by kernel_rfl) ?_ _
 refine NoPanic.normal ?_
 go_wp2_with fail
 exact bJ rfl rfl rfl fQ.out.1 (by rw[gN.out];exact vX.out.wK fQ.out rfl rfl)
set_option maxRecDepth 100000 in
set_option maxHeartbeats 8000000 in
theorem QS {S:Nat→Prop} (hS:aU o i j k w p M) (hM:Marks W o w) (hk:yB i j k l n) (cc:Int) (hok:eU cc M) (hcc:cc≤1000000000) (pa aA:List UInt8) (fd at_ nn au sn:Int) (dt:List UInt8) (hx:jL ⟨11,pa,aA,fd,at_,nn,au,sn,dt⟩) (da:Option Addr) (dc:Nat) (hda:aj S w da dt.length (dt.map bv)) (m:Int) (hm:w.cell? ⟨0,0,none⟩=some (.int .i64 m)) (hp:(bL ⟨11,pa,aA,fd,at_,nn,au,sn,dt⟩).2=0):
  Calls Tryz.prog 12 #[ptr p, .agg (opC ⟨11,pa,aA,fd,at_,nn,au,sn,dt⟩ da dc)] w (jO o i j k l n w p (bM M ⟨11,pa,aA,fd,at_,nn,au,sn,dt⟩)):=by
 obtain⟨kJ,hf0⟩:=je (a:=pa) hp
 have hps:bL ⟨11,pa,aA,fd,at_,nn,au,sn,dt⟩=([(av pa).1],0):=kJ
 have hsd:bM M ⟨11,pa,aA,fd,at_,nn,au,sn,dt⟩=oW M ⟨11,pa,aA,fd,at_,nn,au,sn,dt⟩ ((av pa).1) ([]):=by unfold bM;rw[hps];rfl
 have h80:=gM hf0
 obtain⟨q0,hq0⟩:∃q0,q0=(av pa).1:=⟨_,rfl⟩
 rw[←hq0]at hps hsd h80
 obtain⟨o1,hd2⟩:=gJ.start hk hS hM ⟨11,pa,aA,fd,at_,nn,au,sn,dt⟩ da dc
 have hb2:Below w.heap.size w ((w.alloc (.cells (opC ⟨11,pa,aA,fd,at_,nn,au,sn,dt⟩ da dc) 28)).alloc (.cells (b_ (bW 0) none none 0 0) 36)):=(wall w _).trans ((wall _ _).mono (by simp))
 obtain⟨w2,hw2⟩:∃w2,w2=(w.alloc (.cells (opC ⟨11,pa,aA,fd,at_,nn,au,sn,dt⟩ da dc) 28)).alloc (.cells (b_ (bW 0) none none 0 0) 36):=⟨_,rfl⟩
 rw[←hw2]at hd2 hb2
 have hm2:w2.cell? ⟨0,0,none⟩=some (.int .i64 m):=(hb2.cell (p:=⟨0,0,none⟩) (World.block_lt_of_cell? w _ hm)).trans hm
 have hpc:=dX p w2 ⟨11,pa,aA,fd,at_,nn,au,sn,dt⟩ da dc hx m hm2
 rw[hps]at hpc
 have gZ:Hid (Calls Tryz.prog 36 #[ptr p, .agg (opC ⟨11,pa,aA,fd,at_,nn,au,sn,dt⟩ da dc)] ((w.alloc (.cells (opC ⟨11,pa,aA,fd,at_,nn,au,sn,dt⟩ da dc) 28)).alloc (.cells (b_ (bW 0) none none 0 0) 36)) (aR w2 ([q0],0))):=by rw[←hw2];exact Lib.hid hpc
 unfold opC b_ bW at gZ
 dsimp only[List.length_nil]at gZ
 have gN:=Lib.hid hsd
 have fu:=Lib.hid hok
 have HX:=Lib.hid hx
 have j_:=Lib.hid (hda.below hb2 (Nat.le_refl _))
 have HD2:=Lib.hid hd2
 have HK:=Lib.hid hk
 clear hS hM hk hok hx hda hm hp hps hsd hd2 hb2 hm2 hpc hw2 kJ hf0 hq0
 unfold opC
 go_enter Tryz.func12,Tryz.ntmps12
 go_wp2_with fail
 (with_reducible refine gZ.out.mono ?_)
 clear gZ
 intro e w3 hpr
 obtain⟨b,off,c3,a0,c0,rfl,hb0,hbw,hn0,hb3⟩:=hpr.one
 clear hpr
 have HD:=Lib.hid (HD2.out.grow hb3)
 have HB3:=Lib.hid hb3
 have DY:Hid (o1 b=0∧b<w3.heap.size):=⟨Decidable.byContradiction fun h0=>by have:=(HD2.out.marks.new b h0).2;omega,hbw⟩
 have hc0:=hn0.cell
 have rM:=Lib.hid hn0
 clear hn0
 have qQ:=Lib.hid (j_.out.below hb3 (Nat.le_refl _))
 have g0:w3.cell? ⟨w.heap.size,0,none⟩=some (.int .i64 11):=by simp[World.cell?,HD.out.op,opC]
 clear hb3 HD2 j_
 have lX:=Lib.hid (HD.out.grow (Below.refl _ _).drew)
 have pR:=lX.out.marks
 have sG:=Lib.hid (rM.out.strs.below (Below.refl _ _).drew (Nat.le_refl _))
 have hsd:bM M ⟨11,pa,aA,fd,at_,nn,au,sn,dt⟩=(og M ⟨11,pa,aA,fd,at_,nn,au,sn,dt⟩ q0,M):=gN.out
 replace gN:=Lib.hid hsd
 clear hsd
 have HC:=Lib.hid (Am lX.out.st pR fu.out.t.1 (by have:=fu.out.s.few;omega) ⟨11,pa,aA,fd,at_,nn,au,sn,dt⟩ da dc a0 q0.length c0 q0 sG.out (fun T hT=>tZ (fu.out.Bu hT).1 q0))
 obtain⟨rr,hrr⟩:∃rr,rr=og M ⟨11,pa,aA,fd,at_,nn,au,sn,dt⟩ q0:=⟨_,rfl⟩
 unfold opC at HC
 have g1:w3.cell? ⟨w.heap.size,1,none⟩=some (.string (strOf pa)):=by simp[World.cell?,HD.out.op,opC]
 have g2:w3.cell? ⟨w.heap.size,2,none⟩=some (.string (strOf aA)):=by simp[World.cell?,HD.out.op,opC]
 have g3:w3.cell? ⟨w.heap.size,3,none⟩=some (.int .i64 fd):=by simp[World.cell?,HD.out.op,opC]
 have g4:w3.cell? ⟨w.heap.size,4,none⟩=some (.int .i64 at_):=by simp[World.cell?,HD.out.op,opC]
 have g5:w3.cell? ⟨w.heap.size,5,none⟩=some (.int .i64 nn):=by simp[World.cell?,HD.out.op,opC]
 have g6:w3.cell? ⟨w.heap.size,6,none⟩=some (.int .u64 au):=by simp[World.cell?,HD.out.op,opC]
 have g7:w3.cell? ⟨w.heap.size,7,none⟩=some (.int .i64 sn):=by simp[World.cell?,HD.out.op,opC]
 have g8:w3.cell? ⟨w.heap.size,8,none⟩=some (.slice da dt.length dc):=by simp[World.cell?,HD.out.op,opC]
 rw[←hrr]at HC gN
 clear hrr pR
 go_wp2_with fail
 refine wp_region_noPanic ?_
 refine bH (last:=6) (S:=(fun w'=>w'.cell? ⟨b,off,none⟩=some (.slice a0 q0.length c0)∧w'.cell? ⟨w.heap.size,0,none⟩=some (.int .i64 11)∧w'.cell? ⟨w.heap.size,1,none⟩=some (.string (strOf pa))∧w'.cell? ⟨w.heap.size,2,none⟩=some (.string (strOf aA))∧w'.cell? ⟨w.heap.size,3,none⟩=some (.int .i64 fd)∧w'.cell? ⟨w.heap.size,4,none⟩=some (.int .i64 at_)∧w'.cell? ⟨w.heap.size,5,none⟩=some (.int .i64 nn)∧w'.cell? ⟨w.heap.size,6,none⟩=some (.int .u64 au)∧w'.cell? ⟨w.heap.size,7,none⟩=some (.int .i64 sn)∧w'.cell? ⟨w.heap.size,8,none⟩=some (.slice da dt.length dc))) (by kernel_rfl) ?_ (fun hS=> ?_)
 ·exact⟨hc0,g0,g1,g2,g3,g4,g5,g6,g7,g8⟩
 refine bf 0 (hS:=hS) (h:= ?_)
 refine bf 1 (hS:=hS) (h:= ?_)
 refine bf 2 (hS:=hS) (h:= ?_)
 refine bf 3 (hS:=hS) (h:= ?_)
 refine bf 4 (hS:=hS) (h:= ?_)
 refine jF 5 (h:=fun K hK=> ?_)
 go_simp
 (with_reducible refine HC.out.mono ?_)
 rintro e w4 ⟨⟨v4,rfl,Ch,Ci,Cj,Ck,rfl,k1,k2,k3,k4⟩,hb4⟩
 have HD4:=Lib.hid (lX.out.grow hb4)
 have ny:=Lib.hid (And.intro k1 (And.intro k2 (And.intro k3 k4)))
 have Ut:w4.heap[b]? =w3.heap[b]? :=hb4.block b DY.out.2
 have ou:w4.heap[w.heap.size]? =w3.heap[w.heap.size]? :=hb4.block _ lX.out.Vv.2
 clear k1 k2 k3 k4 HC
 have iH:Hid ((fun w'=>w'.cell? ⟨b,off,none⟩=some (.slice a0 q0.length c0)∧w'.cell? ⟨w.heap.size,0,none⟩=some (.int .i64 11)∧w'.cell? ⟨w.heap.size,1,none⟩=some (.string (strOf pa))∧w'.cell? ⟨w.heap.size,2,none⟩=some (.string (strOf aA))∧w'.cell? ⟨w.heap.size,3,none⟩=some (.int .i64 fd)∧w'.cell? ⟨w.heap.size,4,none⟩=some (.int .i64 at_)∧w'.cell? ⟨w.heap.size,5,none⟩=some (.int .i64 nn)∧w'.cell? ⟨w.heap.size,6,none⟩=some (.int .u64 au)∧w'.cell? ⟨w.heap.size,7,none⟩=some (.int .i64 sn)∧w'.cell? ⟨w.heap.size,8,none⟩=some (.slice da dt.length dc)) w4):=⟨(World.cell?_of_block Ut).trans hc0,(World.cell?_of_block ou).trans g0,(World.cell?_of_block ou).trans g1,(World.cell?_of_block ou).trans g2,(World.cell?_of_block ou).trans g3,(World.cell?_of_block ou).trans g4,(World.cell?_of_block ou).trans g5,(World.cell?_of_block ou).trans g6,(World.cell?_of_block ou).trans g7,(World.cell?_of_block ou).trans g8⟩
 clear hb4 ou
 go_wp2_with fail
 refine hK.out _ _ (fun _=>iH.out) (fun hS=> ?_)
 replace hS:=hS (by decide)
 clear hK K
 try simp only[Act.put,List.setIfInBounds_toArray,List.set_cons_zero,List.set_cons_succ]
 refine aS (rs:=[6]) (by kernel_rfl) (by simp) ?_
 refine ay.cons (o:= ?o3) ?ho3 (fun K hK=> ?_) ay.nil
 case ho3=>simp only[List.getElem?_toArray,List.getElem?_cons_succ,List.getElem?_cons_zero];rfl
 refine bK rfl 36 _ _ rfl (w.heap.size+1) (b_ (rr) Ch Ci Cj Ck) rfl rfl _ HD4.out.re bA rfl (bD _ _ _ _ _) ?_
 intro w5 hs5
 have fQ:=Lib.hid hs5
 clear hs5
 refine hK.out _ _ (fun h=>absurd rfl h) (fun hS=> ?_)
 clear hS hK K
 try simp only[Act.put,List.setIfInBounds_toArray,List.set_cons_zero,List.set_cons_succ]
 refine aT (by kernel_rfl) ?_ _
 refine NoPanic.normal ?_
 go_wp2_with fail
 exact bJ rfl rfl rfl fQ.out.1 (by rw[gN.out];exact HD4.out.fin fQ.out ny.out.1 ny.out.2.1 ny.out.2.2.1 ny.out.2.2.2)
set_option maxRecDepth 100000 in
set_option maxHeartbeats 8000000 in
theorem QT {S:Nat→Prop} (hS:aU o i j k w p M) (hM:Marks W o w) (hk:yB i j k l n) (cc:Int) (hok:eU cc M) (hcc:cc≤1000000000) (pa aA:List UInt8) (fd at_ nn au sn:Int) (dt:List UInt8) (hx:jL ⟨12,pa,aA,fd,at_,nn,au,sn,dt⟩) (da:Option Addr) (dc:Nat) (hda:aj S w da dt.length (dt.map bv)) (m:Int) (hm:w.cell? ⟨0,0,none⟩=some (.int .i64 m)) (hp:(bL ⟨12,pa,aA,fd,at_,nn,au,sn,dt⟩).2=0):
  Calls Tryz.prog 12 #[ptr p, .agg (opC ⟨12,pa,aA,fd,at_,nn,au,sn,dt⟩ da dc)] w (jO o i j k l n w p (bM M ⟨12,pa,aA,fd,at_,nn,au,sn,dt⟩)):=by
 obtain⟨kJ,hf0⟩:=je (a:=pa) hp
 have hps:bL ⟨12,pa,aA,fd,at_,nn,au,sn,dt⟩=([(av pa).1],0):=kJ
 have hsd:bM M ⟨12,pa,aA,fd,at_,nn,au,sn,dt⟩=oW M ⟨12,pa,aA,fd,at_,nn,au,sn,dt⟩ ((av pa).1) ([]):=by unfold bM;rw[hps];rfl
 have h80:=gM hf0
 obtain⟨q0,hq0⟩:∃q0,q0=(av pa).1:=⟨_,rfl⟩
 rw[←hq0]at hps hsd h80
 obtain⟨o1,hd2⟩:=gJ.start hk hS hM ⟨12,pa,aA,fd,at_,nn,au,sn,dt⟩ da dc
 have hb2:Below w.heap.size w ((w.alloc (.cells (opC ⟨12,pa,aA,fd,at_,nn,au,sn,dt⟩ da dc) 28)).alloc (.cells (b_ (bW 0) none none 0 0) 36)):=(wall w _).trans ((wall _ _).mono (by simp))
 obtain⟨w2,hw2⟩:∃w2,w2=(w.alloc (.cells (opC ⟨12,pa,aA,fd,at_,nn,au,sn,dt⟩ da dc) 28)).alloc (.cells (b_ (bW 0) none none 0 0) 36):=⟨_,rfl⟩
 rw[←hw2]at hd2 hb2
 have hm2:w2.cell? ⟨0,0,none⟩=some (.int .i64 m):=(hb2.cell (p:=⟨0,0,none⟩) (World.block_lt_of_cell? w _ hm)).trans hm
 have hpc:=dX p w2 ⟨12,pa,aA,fd,at_,nn,au,sn,dt⟩ da dc hx m hm2
 rw[hps]at hpc
 have gZ:Hid (Calls Tryz.prog 36 #[ptr p, .agg (opC ⟨12,pa,aA,fd,at_,nn,au,sn,dt⟩ da dc)] ((w.alloc (.cells (opC ⟨12,pa,aA,fd,at_,nn,au,sn,dt⟩ da dc) 28)).alloc (.cells (b_ (bW 0) none none 0 0) 36)) (aR w2 ([q0],0))):=by rw[←hw2];exact Lib.hid hpc
 unfold opC b_ bW at gZ
 dsimp only[List.length_nil]at gZ
 have gN:=Lib.hid hsd
 have fu:=Lib.hid hok
 have HX:=Lib.hid hx
 have j_:=Lib.hid (hda.below hb2 (Nat.le_refl _))
 have HD2:=Lib.hid hd2
 have HK:=Lib.hid hk
 clear hS hM hk hok hx hda hm hp hps hsd hd2 hb2 hm2 hpc hw2 kJ hf0 hq0
 unfold opC
 go_enter Tryz.func12,Tryz.ntmps12
 go_wp2_with fail
 (with_reducible refine gZ.out.mono ?_)
 clear gZ
 intro e w3 hpr
 obtain⟨b,off,c3,a0,c0,rfl,hb0,hbw,hn0,hb3⟩:=hpr.one
 clear hpr
 have HD:=Lib.hid (HD2.out.grow hb3)
 have HB3:=Lib.hid hb3
 have DY:Hid (o1 b=0∧b<w3.heap.size):=⟨Decidable.byContradiction fun h0=>by have:=(HD2.out.marks.new b h0).2;omega,hbw⟩
 have hc0:=hn0.cell
 have rM:=Lib.hid hn0
 clear hn0
 have qQ:=Lib.hid (j_.out.below hb3 (Nat.le_refl _))
 have g0:w3.cell? ⟨w.heap.size,0,none⟩=some (.int .i64 12):=by simp[World.cell?,HD.out.op,opC]
 clear hb3 HD2 j_
 have lX:=Lib.hid (HD.out.grow (Below.refl _ _).drew)
 have pR:=lX.out.marks
 have sG:=Lib.hid (rM.out.strs.below (Below.refl _ _).drew (Nat.le_refl _))
 have hsd:bM M ⟨12,pa,aA,fd,at_,nn,au,sn,dt⟩=(og M ⟨12,pa,aA,fd,at_,nn,au,sn,dt⟩ q0,M):=gN.out
 replace gN:=Lib.hid hsd
 clear hsd
 have HC:=Lib.hid (Am lX.out.st pR fu.out.t.1 (by have:=fu.out.s.few;omega) ⟨12,pa,aA,fd,at_,nn,au,sn,dt⟩ da dc a0 q0.length c0 q0 sG.out (fun T hT=>tZ (fu.out.Bu hT).1 q0))
 obtain⟨rr,hrr⟩:∃rr,rr=og M ⟨12,pa,aA,fd,at_,nn,au,sn,dt⟩ q0:=⟨_,rfl⟩
 unfold opC at HC
 have g1:w3.cell? ⟨w.heap.size,1,none⟩=some (.string (strOf pa)):=by simp[World.cell?,HD.out.op,opC]
 have g2:w3.cell? ⟨w.heap.size,2,none⟩=some (.string (strOf aA)):=by simp[World.cell?,HD.out.op,opC]
 have g3:w3.cell? ⟨w.heap.size,3,none⟩=some (.int .i64 fd):=by simp[World.cell?,HD.out.op,opC]
 have g4:w3.cell? ⟨w.heap.size,4,none⟩=some (.int .i64 at_):=by simp[World.cell?,HD.out.op,opC]
 have g5:w3.cell? ⟨w.heap.size,5,none⟩=some (.int .i64 nn):=by simp[World.cell?,HD.out.op,opC]
 have g6:w3.cell? ⟨w.heap.size,6,none⟩=some (.int .u64 au):=by simp[World.cell?,HD.out.op,opC]
 have g7:w3.cell? ⟨w.heap.size,7,none⟩=some (.int .i64 sn):=by simp[World.cell?,HD.out.op,opC]
 have g8:w3.cell? ⟨w.heap.size,8,none⟩=some (.slice da dt.length dc):=by simp[World.cell?,HD.out.op,opC]
 rw[←hrr]at HC gN
 clear hrr pR
 go_wp2_with fail
 refine wp_region_noPanic ?_
 refine bH (last:=6) (S:=(fun w'=>w'.cell? ⟨b,off,none⟩=some (.slice a0 q0.length c0)∧w'.cell? ⟨w.heap.size,0,none⟩=some (.int .i64 12)∧w'.cell? ⟨w.heap.size,1,none⟩=some (.string (strOf pa))∧w'.cell? ⟨w.heap.size,2,none⟩=some (.string (strOf aA))∧w'.cell? ⟨w.heap.size,3,none⟩=some (.int .i64 fd)∧w'.cell? ⟨w.heap.size,4,none⟩=some (.int .i64 at_)∧w'.cell? ⟨w.heap.size,5,none⟩=some (.int .i64 nn)∧w'.cell? ⟨w.heap.size,6,none⟩=some (.int .u64 au)∧w'.cell? ⟨w.heap.size,7,none⟩=some (.int .i64 sn)∧w'.cell? ⟨w.heap.size,8,none⟩=some (.slice da dt.length dc))) (by kernel_rfl) ?_ (fun hS=> ?_)
 ·exact⟨hc0,g0,g1,g2,g3,g4,g5,g6,g7,g8⟩
 refine bf 0 (hS:=hS) (h:= ?_)
 refine bf 1 (hS:=hS) (h:= ?_)
 refine bf 2 (hS:=hS) (h:= ?_)
 refine bf 3 (hS:=hS) (h:= ?_)
 refine bf 4 (hS:=hS) (h:= ?_)
 refine jF 5 (h:=fun K hK=> ?_)
 go_simp
 (with_reducible refine HC.out.mono ?_)
 rintro e w4 ⟨⟨v4,rfl,Ch,Ci,Cj,Ck,rfl,k1,k2,k3,k4⟩,hb4⟩
 have HD4:=Lib.hid (lX.out.grow hb4)
 have ny:=Lib.hid (And.intro k1 (And.intro k2 (And.intro k3 k4)))
 have Ut:w4.heap[b]? =w3.heap[b]? :=hb4.block b DY.out.2
 have ou:w4.heap[w.heap.size]? =w3.heap[w.heap.size]? :=hb4.block _ lX.out.Vv.2
 clear k1 k2 k3 k4 HC
 have iH:Hid ((fun w'=>w'.cell? ⟨b,off,none⟩=some (.slice a0 q0.length c0)∧w'.cell? ⟨w.heap.size,0,none⟩=some (.int .i64 12)∧w'.cell? ⟨w.heap.size,1,none⟩=some (.string (strOf pa))∧w'.cell? ⟨w.heap.size,2,none⟩=some (.string (strOf aA))∧w'.cell? ⟨w.heap.size,3,none⟩=some (.int .i64 fd)∧w'.cell? ⟨w.heap.size,4,none⟩=some (.int .i64 at_)∧w'.cell? ⟨w.heap.size,5,none⟩=some (.int .i64 nn)∧w'.cell? ⟨w.heap.size,6,none⟩=some (.int .u64 au)∧w'.cell? ⟨w.heap.size,7,none⟩=some (.int .i64 sn)∧w'.cell? ⟨w.heap.size,8,none⟩=some (.slice da dt.length dc)) w4):=⟨(World.cell?_of_block Ut).trans hc0,(World.cell?_of_block ou).trans g0,(World.cell?_of_block ou).trans g1,(World.cell?_of_block ou).trans g2,(World.cell?_of_block ou).trans g3,(World.cell?_of_block ou).trans g4,(World.cell?_of_block ou).trans g5,(World.cell?_of_block ou).trans g6,(World.cell?_of_block ou).trans g7,(World.cell?_of_block ou).trans g8⟩
 clear hb4 ou
 go_wp2_with fail
 refine hK.out _ _ (fun _=>iH.out) (fun hS=> ?_)
 replace hS:=hS (by decide)
 clear hK K
 try simp only[Act.put,List.setIfInBounds_toArray,List.set_cons_zero,List.set_cons_succ]
 refine aS (rs:=[6]) (by kernel_rfl) (by simp) ?_
 refine ay.cons (o:= ?o4) ?ou (fun K hK=> ?_) ay.nil
 case ou=>simp only[List.getElem?_toArray,List.getElem?_cons_succ,List.getElem?_cons_zero];rfl
 refine bK rfl 36 _ _ rfl (w.heap.size+1) (b_ (rr) Ch Ci Cj Ck) rfl rfl _ HD4.out.re bA rfl (bD _ _ _ _ _) ?_
 intro w5 hs5
 have fQ:=Lib.hid hs5
 clear hs5
 refine hK.out _ _ (fun h=>absurd rfl h) (fun hS=> ?_)
 clear hS hK K
 try simp only[Act.put,List.setIfInBounds_toArray,List.set_cons_zero,List.set_cons_succ]
 refine aT (by kernel_rfl) ?_ _
 refine NoPanic.normal ?_
 go_wp2_with fail
 exact bJ rfl rfl rfl fQ.out.1 (by rw[gN.out];exact HD4.out.fin fQ.out ny.out.1 ny.out.2.1 ny.out.2.2.1 ny.out.2.2.2)
end
end Go.Proofs.YtmabllemjkcobaaGreatDoor
