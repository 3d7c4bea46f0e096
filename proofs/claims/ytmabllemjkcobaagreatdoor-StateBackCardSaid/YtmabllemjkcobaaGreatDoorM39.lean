/- package state: Do, kinds 13 14 15 16 17. package state: Do. package state: New. A law's own state: New, Do, Now. -/
import Derived.Test.YtmabllemjkcobaaGreatDoorM36
import Derived.Test.YtmabllemjkcobaaGreatDoorM37
import Derived.Test.YtmabllemjkcobaaGreatDoorM38
import Derived.Test.YtmabllemjkcobaaGreatDoorM29
import Derived.Test.YtmabllemjkcobaaGreatDoorM13
namespace Go.Proofs.YtmabllemjkcobaaGreatDoor
open Go.ChangeShapes Go.WideShapes Go.ChangeAt Go.RowKit
set_option linter.unusedVariables false
set_option linter.unusedSimpArgs false
section
variable {W w:World} {o:Mark} {i j k l n p:Nat} {M:eF}
set_option maxRecDepth 100000 in
set_option maxHeartbeats 8000000 in
theorem QU {S:Nat→Prop} (hS:aU o i j k w p M) (hM:Marks W o w) (hk:yB i j k l n) (cc:Int) (hok:eU cc M) (hcc:cc≤1000000000) (pa aA:List UInt8) (fd at_ nn au sn:Int) (dt:List UInt8) (hx:jL ⟨13,pa,aA,fd,at_,nn,au,sn,dt⟩) (da:Option Addr) (dc:Nat) (hda:aj S w da dt.length (dt.map bv)) (m:Int) (hm:w.cell? ⟨0,0,none⟩=some (.int .i64 m)) (hp:(bL ⟨13,pa,aA,fd,at_,nn,au,sn,dt⟩).2=0):
  Calls Tryz.prog 12 #[ptr p, .agg (opC ⟨13,pa,aA,fd,at_,nn,au,sn,dt⟩ da dc)] w (jO o i j k l n w p (bM M ⟨13,pa,aA,fd,at_,nn,au,sn,dt⟩)):=by
 obtain⟨kJ,hf0⟩:=je (a:=pa) hp
 have hps:bL ⟨13,pa,aA,fd,at_,nn,au,sn,dt⟩=([(av pa).1],0):=kJ
 have hsd:bM M ⟨13,pa,aA,fd,at_,nn,au,sn,dt⟩=oW M ⟨13,pa,aA,fd,at_,nn,au,sn,dt⟩ ((av pa).1) ([]):=by unfold bM;rw[hps];rfl
 have h80:=gM hf0
 obtain⟨q0,hq0⟩:∃q0,q0=(av pa).1:=⟨_,rfl⟩
 rw[←hq0]at hps hsd h80
 obtain⟨o1,hd2⟩:=gJ.start hk hS hM ⟨13,pa,aA,fd,at_,nn,au,sn,dt⟩ da dc
 have hb2:Below w.heap.size w ((w.alloc (.cells (opC ⟨13,pa,aA,fd,at_,nn,au,sn,dt⟩ da dc) 28)).alloc (.cells (b_ (bW 0) none none 0 0) 36)):=(wall w _).trans ((wall _ _).mono (by simp))
 obtain⟨w2,hw2⟩:∃w2,w2=(w.alloc (.cells (opC ⟨13,pa,aA,fd,at_,nn,au,sn,dt⟩ da dc) 28)).alloc (.cells (b_ (bW 0) none none 0 0) 36):=⟨_,rfl⟩
 rw[←hw2]at hd2 hb2
 have hm2:w2.cell? ⟨0,0,none⟩=some (.int .i64 m):=(hb2.cell (p:=⟨0,0,none⟩) (World.block_lt_of_cell? w _ hm)).trans hm
 have hpc:=dX p w2 ⟨13,pa,aA,fd,at_,nn,au,sn,dt⟩ da dc hx m hm2
 rw[hps]at hpc
 have gZ:Hid (Calls Tryz.prog 36 #[ptr p, .agg (opC ⟨13,pa,aA,fd,at_,nn,au,sn,dt⟩ da dc)] ((w.alloc (.cells (opC ⟨13,pa,aA,fd,at_,nn,au,sn,dt⟩ da dc) 28)).alloc (.cells (b_ (bW 0) none none 0 0) 36)) (aR w2 ([q0],0))):=by rw[←hw2];exact Lib.hid hpc
 unfold opC b_ bW at gZ
 dsimp only[List.length_nil]at gZ
 have gN:=Lib.hid hsd
 have fu:=Lib.hid hok
 have HX:=Lib.hid hx
 have j_:=Lib.hid (hda.below hb2 (Nat.le_refl _))
 have HD2:=Lib.hid hd2
 have HK:=Lib.hid hk
 clear hS hM hk hok hx hda hm hp hps hsd hd2 hb2 hm2 hpc hw2 kJ hf0 hq0
 unfold opC
 go_enter Tryz.func12,Tryz.ntmps12
 go_wp2_with fail
 (with_reducible refine gZ.out.mono ?_)
 clear gZ
 intro e w3 hpr
 obtain⟨b,off,c3,a0,c0,rfl,hb0,hbw,hn0,hb3⟩:=hpr.one
 clear hpr
 have HD:=Lib.hid (HD2.out.grow hb3)
 have HB3:=Lib.hid hb3
 have DY:Hid (o1 b=0∧b<w3.heap.size):=⟨Decidable.byContradiction fun h0=>by have:=(HD2.out.marks.new b h0).2;omega,hbw⟩
 have hc0:=hn0.cell
 have rM:=Lib.hid hn0
 clear hn0
 have qQ:=Lib.hid (j_.out.below hb3 (Nat.le_refl _))
 have g0:w3.cell? ⟨w.heap.size,0,none⟩=some (.int .i64 13):=by simp[World.cell?,HD.out.op,opC]
 clear hb3 HD2 j_
 have lX:=Lib.hid (HD.out.grow (Below.refl _ _).drew)
 have pR:=lX.out.marks
 have sG:=Lib.hid (rM.out.strs.below (Below.refl _ _).drew (Nat.le_refl _))
 have hsd:bM M ⟨13,pa,aA,fd,at_,nn,au,sn,dt⟩=Bt (kG M q0 au):=gN.out
 replace gN:=Lib.hid hsd
 clear hsd
 have HC:=Lib.hid (JZ lX.out.st pR HK.out.mm fu.out.t.1 a0 q0.length c0 q0 sG.out rM.out.cap (by omega) (tZ fu.out.t.1 q0) au HX.out.wt (J3 fu.out.t.1 q0))
 obtain⟨rr,hrr⟩:∃rr,rr=kG M q0 au:=⟨_,rfl⟩
 rw[←hrr]at HC gN
 unfold Bt at gN
 clear hrr pR
 have g6:w3.cell? ⟨w.heap.size,6,none⟩=some (.int .u64 au):=by simp[World.cell?,HD.out.op,opC]
 go_wp2_with fail
 refine wp_region_noPanic ?_
 refine bH (last:=8) (S:=(fun w'=>w'.cell? ⟨b,off,none⟩=some (.slice a0 q0.length c0)∧w'.cell? ⟨w.heap.size,6,none⟩=some (.int .u64 au))) (by kernel_rfl) ?_ (fun hS=> ?_)
 ·exact⟨hc0,g6⟩
 refine bf 0 (hS:=hS) (h:= ?_)
 refine bf 1 (hS:=hS) (h:= ?_)
 refine bf 2 (hS:=hS) (h:= ?_)
 refine bf 3 (hS:=hS) (h:= ?_)
 refine bf 4 (hS:=hS) (h:= ?_)
 refine bf 5 (hS:=hS) (h:= ?_)
 refine jF 6 (h:=fun K hK=> ?_)
 go_simp
 (with_reducible refine HC.out.mono ?_)
 rintro e w4 ⟨rfl,o4,hs4,nS⟩
 have HD4:=Lib.hid (lX.out.turn hs4 nS)
 have hb4:w4.heap[b]? =w3.heap[b]? :=lX.out.stays hs4 DY.out
 have ou:w4.heap[w.heap.size]? =w3.heap[w.heap.size]? :=lX.out.stays hs4 lX.out.Vv
 clear hs4 nS HC
 have iH:Hid ((fun w'=>w'.cell? ⟨b,off,none⟩=some (.slice a0 q0.length c0)∧w'.cell? ⟨w.heap.size,6,none⟩=some (.int .u64 au)) w4):=⟨(World.cell?_of_block hb4).trans hc0,(World.cell?_of_block ou).trans g6⟩
 clear hb4 ou
 go_wp2_with fail
 refine hK.out _ _ (fun _=>iH.out) (fun hS=> ?_)
 replace hS:=hS (by decide)
 clear hK K
 try simp only[Act.put,List.setIfInBounds_toArray,List.set_cons_zero,List.set_cons_succ]
 refine jF 7 (h:=fun K hK=> ?_)
 go_simp
 (with_reducible refine(gu _ _).mono ?_)
 rintro e w9 ⟨rfl,fM⟩
 unfold uV
 have vX:=Lib.hid (HD4.out.grow fM)
 have QN:Hid ((fun w'=>w'.cell? ⟨b,off,none⟩=some (.slice a0 q0.length c0)∧w'.cell? ⟨w.heap.size,6,none⟩=some (.int .u64 au)) w9):=⟨(fM.cell (World.block_lt_of_cell? w4 _ iH.out.1)).trans iH.out.1,(fM.cell (World.block_lt_of_cell? w4 _ iH.out.2)).trans iH.out.2⟩
 clear fM
 go_wp2_with fail
 refine hK.out _ _ (fun _=>QN.out) (fun hS=> ?_)
 replace hS:=hS (by decide)
 clear hK K
 try simp only[Act.put,List.setIfInBounds_toArray,List.set_cons_zero,List.set_cons_succ]
 refine aS (rs:=[8]) (by kernel_rfl) (by simp) ?_
 refine ay.cons (o:= ?o1) ?ho1 (fun K hK=> ?_) ay.nil
 case ho1=>simp only[List.getElem?_toArray,List.getElem?_cons_succ,List.getElem?_cons_zero];rfl
 refine bK rfl 36 _ _ rfl (w.heap.size+1) (b_ (bW (rr.1)) none none 0 0) rfl rfl _ vX.out.re bA rfl (bD _ _ _ _ _) ?_
 intro w5 hs5
 have fQ:=Lib.hid hs5
 clear hs5
 refine hK.out _ _ (fun h=>absurd rfl h) (fun hS=> ?_)
 clear hS hK K
 try simp only[Act.put,List.setIfInBounds_toArray,List.set_cons_zero,List.set_cons_succ]
 refine aT (by kernel_rfl) ?_ _
 refine NoPanic.normal ?_
 go_wp2_with fail
 exact bJ rfl rfl rfl fQ.out.1 (by rw[gN.out];exact vX.out.wK fQ.out rfl rfl)
set_option maxRecDepth 100000 in
set_option maxHeartbeats 8000000 in
theorem QV {S:Nat→Prop} (hS:aU o i j k w p M) (hM:Marks W o w) (hk:yB i j k l n) (cc:Int) (hok:eU cc M) (hcc:cc≤1000000000) (pa aA:List UInt8) (fd at_ nn au sn:Int) (dt:List UInt8) (hx:jL ⟨14,pa,aA,fd,at_,nn,au,sn,dt⟩) (da:Option Addr) (dc:Nat) (hda:aj S w da dt.length (dt.map bv)) (m:Int) (hm:w.cell? ⟨0,0,none⟩=some (.int .i64 m)) (hp:(bL ⟨14,pa,aA,fd,at_,nn,au,sn,dt⟩).2=0):
  Calls Tryz.prog 12 #[ptr p, .agg (opC ⟨14,pa,aA,fd,at_,nn,au,sn,dt⟩ da dc)] w (jO o i j k l n w p (bM M ⟨14,pa,aA,fd,at_,nn,au,sn,dt⟩)):=by
 have hps:bL ⟨14,pa,aA,fd,at_,nn,au,sn,dt⟩=([],0):=rfl
 have hsd:bM M ⟨14,pa,aA,fd,at_,nn,au,sn,dt⟩=oW M ⟨14,pa,aA,fd,at_,nn,au,sn,dt⟩ ([]) ([]):=by unfold bM;rw[hps];rfl
 obtain⟨o1,hd2⟩:=gJ.start hk hS hM ⟨14,pa,aA,fd,at_,nn,au,sn,dt⟩ da dc
 have hb2:Below w.heap.size w ((w.alloc (.cells (opC ⟨14,pa,aA,fd,at_,nn,au,sn,dt⟩ da dc) 28)).alloc (.cells (b_ (bW 0) none none 0 0) 36)):=(wall w _).trans ((wall _ _).mono (by simp))
 obtain⟨w2,hw2⟩:∃w2,w2=(w.alloc (.cells (opC ⟨14,pa,aA,fd,at_,nn,au,sn,dt⟩ da dc) 28)).alloc (.cells (b_ (bW 0) none none 0 0) 36):=⟨_,rfl⟩
 rw[←hw2]at hd2 hb2
 have hm2:w2.cell? ⟨0,0,none⟩=some (.int .i64 m):=(hb2.cell (p:=⟨0,0,none⟩) (World.block_lt_of_cell? w _ hm)).trans hm
 have hpc:=dX p w2 ⟨14,pa,aA,fd,at_,nn,au,sn,dt⟩ da dc hx m hm2
 rw[hps]at hpc
 have gZ:Hid (Calls Tryz.prog 36 #[ptr p, .agg (opC ⟨14,pa,aA,fd,at_,nn,au,sn,dt⟩ da dc)] ((w.alloc (.cells (opC ⟨14,pa,aA,fd,at_,nn,au,sn,dt⟩ da dc) 28)).alloc (.cells (b_ (bW 0) none none 0 0) 36)) (aR w2 ([],0))):=by rw[←hw2];exact Lib.hid hpc
 unfold opC b_ bW at gZ
 dsimp only[List.length_nil]at gZ
 have gN:=Lib.hid hsd
 have fu:=Lib.hid hok
 have HX:=Lib.hid hx
 have j_:=Lib.hid (hda.below hb2 (Nat.le_refl _))
 have HD2:=Lib.hid hd2
 have HK:=Lib.hid hk
 clear hS hM hk hok hx hda hm hp hps hsd hd2 hb2 hm2 hpc hw2
 unfold opC
 go_enter Tryz.func12,Tryz.ntmps12
 go_wp2_with fail
 (with_reducible refine gZ.out.mono ?_)
 clear gZ
 intro e w3 hpr
 obtain⟨a3,c3,rfl,hb3⟩:=hpr.zero
 clear hpr
 have HD:=Lib.hid (HD2.out.grow hb3)
 have HB3:=Lib.hid hb3
 have qQ:=Lib.hid (j_.out.below hb3 (Nat.le_refl _))
 have g0:w3.cell? ⟨w.heap.size,0,none⟩=some (.int .i64 14):=by simp[World.cell?,HD.out.op,opC]
 clear hb3 HD2 j_
 have lX:=Lib.hid (HD.out.grow (Below.refl _ _).drew)
 have pR:=lX.out.marks
 obtain⟨t,s,z0,z1,z2,wI,EA,hsr⟩:=lX.out.Sm
 have F8:w3.cell? ⟨p,0,none⟩=some (ptr t):=z0
 have z1':w3.cell? ⟨p,1,none⟩=some (ptr s):=z1
 have z2':w3.cell? ⟨p,2,none⟩=some (.int .u64 M.now):=z2
 have WU:=Lib.hid hsr
 have hsd:bM M ⟨14,pa,aA,fd,at_,nn,au,sn,dt⟩=(⟨(iw M.s M.t).1.2,(iw M.s M.t).1.1,[],[],none⟩,M.sn (iw M.s M.t).2):=gN.out
 replace gN:=Lib.hid hsd
 clear hsd
 have HC:=Lib.hid (M6 EA wI pR HK.out.mm.ne.1 fu.out.t.1 fu.out.s.few fu.out.s.last fu.out.next.1 (by have:=fu.out.next.2;omega))
 obtain⟨rr,hrr⟩:∃rr,rr=iw M.s M.t:=⟨_,rfl⟩
 rw[←hrr]at HC gN
 clear hrr hsr wI EA pR z0 z1 z2
 go_wp2_with fail
 refine wp_region_noPanic ?_
 refine wp_region_held_drew (S:=(fun w'=>w'.cell? ⟨p,0,none⟩=some (ptr t)∧w'.cell? ⟨p,1,none⟩=some (ptr s))) (by kernel_rfl) ?_ (fun hS=> ?_)
 ·exact⟨F8,z1'⟩
 refine dz 0 (hS:=hS) (h:= ?_)
 refine dz 1 (hS:=hS) (h:= ?_)
 refine dz 2 (hS:=hS) (h:= ?_)
 refine dz 3 (hS:=hS) (h:= ?_)
 refine dz 4 (hS:=hS) (h:= ?_)
 refine dz 5 (hS:=hS) (h:= ?_)
 refine dz 6 (hS:=hS) (h:= ?_)
 refine dz 7 (hS:=hS) (h:= ?_)
 refine uW 8 (h:=fun K hK=> ?_)
 go_simp
 (with_reducible refine HC.out.mono ?_)
 rintro e w4 ⟨rfl,o4,hs4,nS⟩
 obtain⟨hd4,wW⟩:=WU.out _ _ _ hs4 nS
 have HD4:=Lib.hid hd4
 have pX:w4.heap[p]? =w3.heap[p]? :=wW
 clear hd4 hs4 nS wW HC
 have iH:Hid ((fun w'=>w'.cell? ⟨p,0,none⟩=some (ptr t)∧w'.cell? ⟨p,1,none⟩=some (ptr s)) w4):=⟨(World.cell?_of_block pX).trans F8,(World.cell?_of_block pX).trans z1'⟩
 clear pX
 go_wp2_with fail
 refine hK.out _ _ (iH.out) (fun hS=> ?_)
 clear hK K
 try simp only[Act.put,List.setIfInBounds_toArray,List.set_cons_zero,List.set_cons_succ]
 refine dz 9 (hS:=hS) (h:= ?_)
 refine dz 10 (hS:=hS) (h:= ?_)
 refine dz 11 (hS:=hS) (h:= ?_)
 refine dz 12 (hS:=hS) (h:= ?_)
 refine dz 13 (hS:=hS) (h:= ?_)
 refine wpAnyH_done (by kernel_rfl) ?_ _
 refine NoPanic.normal ?_
 go_wp2_with (refine ak (by rfl) 36 _ _ (by rfl) (w.heap.size+1) (b_ ⟨rr.1.2,rr.1.1,[],[],none⟩ none none 0 0) (by rfl) (by rfl) _ HD4.out.re bA rfl (bD _ _ _ _ _) ?_;intro w5 hs5;have fQ:=Lib.hid hs5;clear hs5)
 exact bJ rfl rfl rfl fQ.out.1 (by rw[gN.out];exact HD4.out.wK fQ.out rfl rfl)
set_option maxRecDepth 100000 in
set_option maxHeartbeats 8000000 in
theorem QW {S:Nat→Prop} (hS:aU o i j k w p M) (hM:Marks W o w) (hk:yB i j k l n) (cc:Int) (hok:eU cc M) (hcc:cc≤1000000000) (pa aA:List UInt8) (fd at_ nn au sn:Int) (dt:List UInt8) (hx:jL ⟨15,pa,aA,fd,at_,nn,au,sn,dt⟩) (da:Option Addr) (dc:Nat) (hda:aj S w da dt.length (dt.map bv)) (m:Int) (hm:w.cell? ⟨0,0,none⟩=some (.int .i64 m)) (hp:(bL ⟨15,pa,aA,fd,at_,nn,au,sn,dt⟩).2=0):
  Calls Tryz.prog 12 #[ptr p, .agg (opC ⟨15,pa,aA,fd,at_,nn,au,sn,dt⟩ da dc)] w (jO o i j k l n w p (bM M ⟨15,pa,aA,fd,at_,nn,au,sn,dt⟩)):=by
 have hps:bL ⟨15,pa,aA,fd,at_,nn,au,sn,dt⟩=([],0):=rfl
 have hsd:bM M ⟨15,pa,aA,fd,at_,nn,au,sn,dt⟩=oW M ⟨15,pa,aA,fd,at_,nn,au,sn,dt⟩ ([]) ([]):=by unfold bM;rw[hps];rfl
 obtain⟨o1,hd2⟩:=gJ.start hk hS hM ⟨15,pa,aA,fd,at_,nn,au,sn,dt⟩ da dc
 have hb2:Below w.heap.size w ((w.alloc (.cells (opC ⟨15,pa,aA,fd,at_,nn,au,sn,dt⟩ da dc) 28)).alloc (.cells (b_ (bW 0) none none 0 0) 36)):=(wall w _).trans ((wall _ _).mono (by simp))
 obtain⟨w2,hw2⟩:∃w2,w2=(w.alloc (.cells (opC ⟨15,pa,aA,fd,at_,nn,au,sn,dt⟩ da dc) 28)).alloc (.cells (b_ (bW 0) none none 0 0) 36):=⟨_,rfl⟩
 rw[←hw2]at hd2 hb2
 have hm2:w2.cell? ⟨0,0,none⟩=some (.int .i64 m):=(hb2.cell (p:=⟨0,0,none⟩) (World.block_lt_of_cell? w _ hm)).trans hm
 have hpc:=dX p w2 ⟨15,pa,aA,fd,at_,nn,au,sn,dt⟩ da dc hx m hm2
 rw[hps]at hpc
 have gZ:Hid (Calls Tryz.prog 36 #[ptr p, .agg (opC ⟨15,pa,aA,fd,at_,nn,au,sn,dt⟩ da dc)] ((w.alloc (.cells (opC ⟨15,pa,aA,fd,at_,nn,au,sn,dt⟩ da dc) 28)).alloc (.cells (b_ (bW 0) none none 0 0) 36)) (aR w2 ([],0))):=by rw[←hw2];exact Lib.hid hpc
 unfold opC b_ bW at gZ
 dsimp only[List.length_nil]at gZ
 have gN:=Lib.hid hsd
 have fu:=Lib.hid hok
 have HX:=Lib.hid hx
 have j_:=Lib.hid (hda.below hb2 (Nat.le_refl _))
 have HD2:=Lib.hid hd2
 have HK:=Lib.hid hk
 clear hS hM hk hok hx hda hm hp hps hsd hd2 hb2 hm2 hpc hw2
 unfold opC
 go_enter Tryz.func12,Tryz.ntmps12
 go_wp2_with fail
 (with_reducible refine gZ.out.mono ?_)
 clear gZ
 intro e w3 hpr
 obtain⟨a3,c3,rfl,hb3⟩:=hpr.zero
 clear hpr
 have HD:=Lib.hid (HD2.out.grow hb3)
 have HB3:=Lib.hid hb3
 have qQ:=Lib.hid (j_.out.below hb3 (Nat.le_refl _))
 have g0:w3.cell? ⟨w.heap.size,0,none⟩=some (.int .i64 15):=by simp[World.cell?,HD.out.op,opC]
 clear hb3 HD2 j_
 have lX:=Lib.hid (HD.out.grow (Below.refl _ _).drew)
 have pR:=lX.out.marks
 obtain⟨t,s,z0,z1,z2,wI,EA,hsr⟩:=lX.out.Sm
 have F8:w3.cell? ⟨p,0,none⟩=some (ptr t):=z0
 have z1':w3.cell? ⟨p,1,none⟩=some (ptr s):=z1
 have z2':w3.cell? ⟨p,2,none⟩=some (.int .u64 M.now):=z2
 have WU:=Lib.hid hsr
 have hsd:bM M ⟨15,pa,aA,fd,at_,nn,au,sn,dt⟩=(bW (f_ M.s sn M.now).1,M.sn (f_ M.s sn M.now).2):=gN.out
 replace gN:=Lib.hid hsd
 clear hsd
 have HC:=Lib.hid (FV EA pR HK.out.mm.ne.1 fu.out.s.few sn M.now)
 clear hsr wI EA pR z0 z1 z2
 have g7:w3.cell? ⟨w.heap.size,7,none⟩=some (.int .i64 sn):=by simp[World.cell?,HD.out.op,opC]
 go_wp2_with fail
 refine wp_region_noPanic ?_
 refine bH (last:=12) (S:=(fun w'=>w'.cell? ⟨p,1,none⟩=some (ptr s)∧w'.cell? ⟨p,2,none⟩=some (.int .u64 M.now)∧w'.cell? ⟨w.heap.size,7,none⟩=some (.int .i64 sn))) (by kernel_rfl) ?_ (fun hS=> ?_)
 ·exact⟨z1',z2',g7⟩
 refine bf 0 (hS:=hS) (h:= ?_)
 refine bf 1 (hS:=hS) (h:= ?_)
 refine bf 2 (hS:=hS) (h:= ?_)
 refine bf 3 (hS:=hS) (h:= ?_)
 refine bf 4 (hS:=hS) (h:= ?_)
 refine bf 5 (hS:=hS) (h:= ?_)
 refine bf 6 (hS:=hS) (h:= ?_)
 refine bf 7 (hS:=hS) (h:= ?_)
 refine bf 8 (hS:=hS) (h:= ?_)
 refine bf 9 (hS:=hS) (h:= ?_)
 refine jF 10 (h:=fun K hK=> ?_)
 go_simp
 (with_reducible refine HC.out.mono ?_)
 rintro e w4 ⟨er,S4,o4,rfl,hfr,hs4,nS⟩
 have hfe:=hfr.eq
 obtain⟨hd4,wW⟩:=WU.out _ _ _ hs4 nS
 have HD4:=Lib.hid hd4
 have pX:w4.heap[p]? =w3.heap[p]? :=wW
 have ou:w4.heap[w.heap.size]? =w3.heap[w.heap.size]? :=lX.out.stays (hs4.mono fun m hm=> .inl hm) lX.out.Vv
 rw[hfe]at gN
 clear hd4 hs4 nS wW HC hfr hfe
 have iH:Hid ((fun w'=>w'.cell? ⟨p,1,none⟩=some (ptr s)∧w'.cell? ⟨p,2,none⟩=some (.int .u64 M.now)∧w'.cell? ⟨w.heap.size,7,none⟩=some (.int .i64 sn)) w4):=⟨(World.cell?_of_block pX).trans z1',(World.cell?_of_block pX).trans z2',(World.cell?_of_block ou).trans g7⟩
 clear pX ou
 go_wp2_with fail
 refine hK.out _ _ (fun _=>iH.out) (fun hS=> ?_)
 replace hS:=hS (by decide)
 clear hK K
 try simp only[Act.put,List.setIfInBounds_toArray,List.set_cons_zero,List.set_cons_succ]
 refine jF 11 (h:=fun K hK=> ?_)
 go_simp
 (with_reducible refine(gu _ _).mono ?_)
 rintro e w9 ⟨rfl,fM⟩
 unfold uV
 have vX:=Lib.hid (HD4.out.grow fM)
 have QN:Hid ((fun w'=>w'.cell? ⟨p,1,none⟩=some (ptr s)∧w'.cell? ⟨p,2,none⟩=some (.int .u64 M.now)∧w'.cell? ⟨w.heap.size,7,none⟩=some (.int .i64 sn)) w9):=⟨(fM.cell (World.block_lt_of_cell? w4 _ iH.out.1)).trans iH.out.1,(fM.cell (World.block_lt_of_cell? w4 _ iH.out.2.1)).trans iH.out.2.1,(fM.cell (World.block_lt_of_cell? w4 _ iH.out.2.2)).trans iH.out.2.2⟩
 clear fM
 go_wp2_with fail
 refine hK.out _ _ (fun _=>QN.out) (fun hS=> ?_)
 replace hS:=hS (by decide)
 clear hK K
 try simp only[Act.put,List.setIfInBounds_toArray,List.set_cons_zero,List.set_cons_succ]
 refine aS (rs:=[12]) (by kernel_rfl) (by simp) ?_
 refine ay.cons (o:= ?o2) ?ho2 (fun K hK=> ?_) ay.nil
 case ho2=>simp only[List.getElem?_toArray,List.getElem?_cons_succ,List.getElem?_cons_zero];rfl
 refine bK rfl 36 _ _ rfl (w.heap.size+1) (b_ (bW er) none none 0 0) rfl rfl _ vX.out.re bA rfl (bD _ _ _ _ _) ?_
 intro w5 hs5
 have fQ:=Lib.hid hs5
 clear hs5
 refine hK.out _ _ (fun h=>absurd rfl h) (fun hS=> ?_)
 clear hS hK K
 try simp only[Act.put,List.setIfInBounds_toArray,List.set_cons_zero,List.set_cons_succ]
 refine aT (by kernel_rfl) ?_ _
 refine NoPanic.normal ?_
 go_wp2_with fail
 exact bJ rfl rfl rfl fQ.out.1 (by rw[gN.out];exact vX.out.wK fQ.out rfl rfl)
set_option maxRecDepth 100000 in
set_option maxHeartbeats 8000000 in
theorem QX {S:Nat→Prop} (hS:aU o i j k w p M) (hM:Marks W o w) (hk:yB i j k l n) (cc:Int) (hok:eU cc M) (hcc:cc≤1000000000) (pa aA:List UInt8) (fd at_ nn au sn:Int) (dt:List UInt8) (hx:jL ⟨16,pa,aA,fd,at_,nn,au,sn,dt⟩) (da:Option Addr) (dc:Nat) (hda:aj S w da dt.length (dt.map bv)) (m:Int) (hm:w.cell? ⟨0,0,none⟩=some (.int .i64 m)) (hp:(bL ⟨16,pa,aA,fd,at_,nn,au,sn,dt⟩).2=0):
  Calls Tryz.prog 12 #[ptr p, .agg (opC ⟨16,pa,aA,fd,at_,nn,au,sn,dt⟩ da dc)] w (jO o i j k l n w p (bM M ⟨16,pa,aA,fd,at_,nn,au,sn,dt⟩)):=by
 have hps:bL ⟨16,pa,aA,fd,at_,nn,au,sn,dt⟩=([],0):=rfl
 have hsd:bM M ⟨16,pa,aA,fd,at_,nn,au,sn,dt⟩=oW M ⟨16,pa,aA,fd,at_,nn,au,sn,dt⟩ ([]) ([]):=by unfold bM;rw[hps];rfl
 obtain⟨o1,hd2⟩:=gJ.start hk hS hM ⟨16,pa,aA,fd,at_,nn,au,sn,dt⟩ da dc
 have hb2:Below w.heap.size w ((w.alloc (.cells (opC ⟨16,pa,aA,fd,at_,nn,au,sn,dt⟩ da dc) 28)).alloc (.cells (b_ (bW 0) none none 0 0) 36)):=(wall w _).trans ((wall _ _).mono (by simp))
 obtain⟨w2,hw2⟩:∃w2,w2=(w.alloc (.cells (opC ⟨16,pa,aA,fd,at_,nn,au,sn,dt⟩ da dc) 28)).alloc (.cells (b_ (bW 0) none none 0 0) 36):=⟨_,rfl⟩
 rw[←hw2]at hd2 hb2
 have hm2:w2.cell? ⟨0,0,none⟩=some (.int .i64 m):=(hb2.cell (p:=⟨0,0,none⟩) (World.block_lt_of_cell? w _ hm)).trans hm
 have hpc:=dX p w2 ⟨16,pa,aA,fd,at_,nn,au,sn,dt⟩ da dc hx m hm2
 rw[hps]at hpc
 have gZ:Hid (Calls Tryz.prog 36 #[ptr p, .agg (opC ⟨16,pa,aA,fd,at_,nn,au,sn,dt⟩ da dc)] ((w.alloc (.cells (opC ⟨16,pa,aA,fd,at_,nn,au,sn,dt⟩ da dc) 28)).alloc (.cells (b_ (bW 0) none none 0 0) 36)) (aR w2 ([],0))):=by rw[←hw2];exact Lib.hid hpc
 unfold opC b_ bW at gZ
 dsimp only[List.length_nil]at gZ
 have gN:=Lib.hid hsd
 have fu:=Lib.hid hok
 have HX:=Lib.hid hx
 have j_:=Lib.hid (hda.below hb2 (Nat.le_refl _))
 have HD2:=Lib.hid hd2
 have HK:=Lib.hid hk
 clear hS hM hk hok hx hda hm hp hps hsd hd2 hb2 hm2 hpc hw2
 unfold opC
 go_enter Tryz.func12,Tryz.ntmps12
 go_wp2_with fail
 (with_reducible refine gZ.out.mono ?_)
 clear gZ
 intro e w3 hpr
 obtain⟨a3,c3,rfl,hb3⟩:=hpr.zero
 clear hpr
 have HD:=Lib.hid (HD2.out.grow hb3)
 have HB3:=Lib.hid hb3
 have qQ:=Lib.hid (j_.out.below hb3 (Nat.le_refl _))
 have g0:w3.cell? ⟨w.heap.size,0,none⟩=some (.int .i64 16):=by simp[World.cell?,HD.out.op,opC]
 clear hb3 HD2 j_
 have lX:=Lib.hid (HD.out.grow (Below.refl _ _).drew)
 have pR:=lX.out.marks
 have hsd:bM M ⟨16,pa,aA,fd,at_,nn,au,sn,dt⟩=(bW 0,{M with now:=oV M.now au}):=gN.out
 replace gN:=Lib.hid hsd
 clear hsd
 obtain⟨z2,z3,hcl⟩:=lX.out.clock (oV M.now au)
 have z2':w3.cell? ⟨p,2,none⟩=some (.int .u64 M.now):=z2
 have z3':w3.frozen? ⟨p,2,none⟩=false:=z3
 have hHC:=Kt M.now au w3.drew
 have HC:=Lib.hid hHC
 clear pR hHC z2 z3 hcl
 have g6:w3.cell? ⟨w.heap.size,6,none⟩=some (.int .u64 au):=by simp[World.cell?,HD.out.op,opC]
 go_wp2_with fail
 refine wp_region_noPanic ?_
 refine bH (last:=10) (S:=(fun w'=>w'.cell? ⟨p,2,none⟩=some (.int .u64 M.now)∧w'.frozen? ⟨p,2,none⟩=false∧w'.cell? ⟨w.heap.size,6,none⟩=some (.int .u64 au))) (by kernel_rfl) ?_ (fun hS=> ?_)
 ·exact⟨z2',z3',g6⟩
 refine bf 0 (hS:=hS) (h:= ?_)
 refine bf 1 (hS:=hS) (h:= ?_)
 refine bf 2 (hS:=hS) (h:= ?_)
 refine bf 3 (hS:=hS) (h:= ?_)
 refine bf 4 (hS:=hS) (h:= ?_)
 refine bf 5 (hS:=hS) (h:= ?_)
 refine bf 6 (hS:=hS) (h:= ?_)
 refine jF 7 (h:=fun K hK=> ?_)
 go_simp
 (with_reducible refine HC.out.mono ?_)
 rintro e w4 ⟨rfl,hb4⟩
 have G8:=Lib.hid (lX.out.grow hb4)
 obtain⟨y2,y3,hcl⟩:=G8.out.clock (oV M.now au)
 have Ce:=Lib.hid hcl
 have iH:Hid ((fun w'=>w'.cell? ⟨p,2,none⟩=some (.int .u64 M.now)∧w'.frozen? ⟨p,2,none⟩=false∧w'.cell? ⟨w.heap.size,6,none⟩=some (.int .u64 au)) w4):=⟨y2,y3,(hb4.cell (p:=⟨w.heap.size,6,none⟩) lX.out.Vv.2).trans g6⟩
 clear hb4 HC hcl y2 y3
 go_wp2_with fail
 refine hK.out _ _ (fun _=>iH.out) (fun hS=> ?_)
 replace hS:=hS (by decide)
 clear hK K
 try simp only[Act.put,List.setIfInBounds_toArray,List.set_cons_zero,List.set_cons_succ]
 refine bf 8 (hS:=hS) (h:= ?_)
 refine bf 9 (hS:=hS) (h:= ?_)
 refine jF 10 (h:=fun K hK=> ?_)
 go_simp
 refine hK.out _ _ (fun h=>absurd rfl h) (fun hS=> ?_)
 clear hS hK K
 try simp only[Act.put,List.setIfInBounds_toArray,List.set_cons_zero,List.set_cons_succ]
 refine aT (by kernel_rfl) ?_ _
 refine NoPanic.normal ?_
 go_wp2_with (refine ak (by rfl) 36 _ _ (by rfl) (w.heap.size+1) (b_ (bW 0) none none 0 0) (by rfl) (by rfl) _ Ce.out.re bA rfl (bD _ _ _ _ _) ?_;intro w5 hs5;have fQ:=Lib.hid hs5;clear hs5)
 exact bJ rfl rfl rfl fQ.out.1 (by rw[gN.out];exact Ce.out.wK fQ.out rfl rfl)
set_option maxRecDepth 100000 in
set_option maxHeartbeats 8000000 in
theorem QY {S:Nat→Prop} (hS:aU o i j k w p M) (hM:Marks W o w) (hk:yB i j k l n) (cc:Int) (hok:eU cc M) (hcc:cc≤1000000000) (pa aA:List UInt8) (fd at_ nn au sn:Int) (dt:List UInt8) (hx:jL ⟨17,pa,aA,fd,at_,nn,au,sn,dt⟩) (da:Option Addr) (dc:Nat) (hda:aj S w da dt.length (dt.map bv)) (m:Int) (hm:w.cell? ⟨0,0,none⟩=some (.int .i64 m)) (hp:(bL ⟨17,pa,aA,fd,at_,nn,au,sn,dt⟩).2=0):
  Calls Tryz.prog 12 #[ptr p, .agg (opC ⟨17,pa,aA,fd,at_,nn,au,sn,dt⟩ da dc)] w (jO o i j k l n w p (bM M ⟨17,pa,aA,fd,at_,nn,au,sn,dt⟩)):=by
 have hps:bL ⟨17,pa,aA,fd,at_,nn,au,sn,dt⟩=([],0):=rfl
 have hsd:bM M ⟨17,pa,aA,fd,at_,nn,au,sn,dt⟩=oW M ⟨17,pa,aA,fd,at_,nn,au,sn,dt⟩ ([]) ([]):=by unfold bM;rw[hps];rfl
 obtain⟨o1,hd2⟩:=gJ.start hk hS hM ⟨17,pa,aA,fd,at_,nn,au,sn,dt⟩ da dc
 have hb2:Below w.heap.size w ((w.alloc (.cells (opC ⟨17,pa,aA,fd,at_,nn,au,sn,dt⟩ da dc) 28)).alloc (.cells (b_ (bW 0) none none 0 0) 36)):=(wall w _).trans ((wall _ _).mono (by simp))
 obtain⟨w2,hw2⟩:∃w2,w2=(w.alloc (.cells (opC ⟨17,pa,aA,fd,at_,nn,au,sn,dt⟩ da dc) 28)).alloc (.cells (b_ (bW 0) none none 0 0) 36):=⟨_,rfl⟩
 rw[←hw2]at hd2 hb2
 have hm2:w2.cell? ⟨0,0,none⟩=some (.int .i64 m):=(hb2.cell (p:=⟨0,0,none⟩) (World.block_lt_of_cell? w _ hm)).trans hm
 have hpc:=dX p w2 ⟨17,pa,aA,fd,at_,nn,au,sn,dt⟩ da dc hx m hm2
 rw[hps]at hpc
 have gZ:Hid (Calls Tryz.prog 36 #[ptr p, .agg (opC ⟨17,pa,aA,fd,at_,nn,au,sn,dt⟩ da dc)] ((w.alloc (.cells (opC ⟨17,pa,aA,fd,at_,nn,au,sn,dt⟩ da dc) 28)).alloc (.cells (b_ (bW 0) none none 0 0) 36)) (aR w2 ([],0))):=by rw[←hw2];exact Lib.hid hpc
 unfold opC b_ bW at gZ
 dsimp only[List.length_nil]at gZ
 have gN:=Lib.hid hsd
 have fu:=Lib.hid hok
 have HX:=Lib.hid hx
 have j_:=Lib.hid (hda.below hb2 (Nat.le_refl _))
 have HD2:=Lib.hid hd2
 have HK:=Lib.hid hk
 clear hS hM hk hok hx hda hm hp hps hsd hd2 hb2 hm2 hpc hw2
 unfold opC
 go_enter Tryz.func12,Tryz.ntmps12
 go_wp2_with fail
 (with_reducible refine gZ.out.mono ?_)
 clear gZ
 intro e w3 hpr
 obtain⟨a3,c3,rfl,hb3⟩:=hpr.zero
 clear hpr
 have HD:=Lib.hid (HD2.out.grow hb3)
 have HB3:=Lib.hid hb3
 have qQ:=Lib.hid (j_.out.below hb3 (Nat.le_refl _))
 have g0:w3.cell? ⟨w.heap.size,0,none⟩=some (.int .i64 17):=by simp[World.cell?,HD.out.op,opC]
 clear hb3 HD2 j_
 have hsd:bM M ⟨17,pa,aA,fd,at_,nn,au,sn,dt⟩=(bW 0,M):=gN.out
 replace gN:=Lib.hid hsd
 clear hsd
 go_wp2_with (refine ak (by rfl) 36 _ _ (by rfl) (w.heap.size+1) (b_ (bW 0) none none 0 0) (by rfl) (by rfl) _ HD.out.re bA rfl (bD _ _ _ _ _) ?_;intro w5 hs5;have fQ:=Lib.hid hs5;clear hs5)
 exact bJ rfl rfl rfl fQ.out.1 (by rw[gN.out];exact HD.out.wK fQ.out rfl rfl)
end
section
variable {W w:World} {o:Mark} {i j k l n p:Nat} {M:eF}
set_option maxRecDepth 100000 in
set_option maxHeartbeats 8000000 in
theorem QZ (hS:aU o i j k w p M) (hM:Marks W o w) (hk:yB i j k l n) (x:kQ) (hx:jL x) (da:Option Addr) (dc:Nat) (m:Int) (hm:w.cell? ⟨0,0,none⟩=some (.int .i64 m)) (hp:(bL x).2≠0):
  Calls Tryz.prog 12 #[ptr p, .agg (opC x da dc)] w (jO o i j k l n w p (bM M x)):=by
 have hsd:bM M x=(bW (bL x).2,M):=if_pos hp
 obtain⟨o1,hd2⟩:=gJ.start hk hS hM x da dc
 have hb2:Below w.heap.size w ((w.alloc (.cells (opC x da dc) 28)).alloc (.cells (b_ (bW 0) none none 0 0) 36)):=(wall w _).trans ((wall _ _).mono (by simp))
 obtain⟨w2,hw2⟩:∃w2,w2=(w.alloc (.cells (opC x da dc) 28)).alloc (.cells (b_ (bW 0) none none 0 0) 36):=⟨_,rfl⟩
 rw[←hw2]at hd2 hb2
 have hm2:w2.cell? ⟨0,0,none⟩=some (.int .i64 m):=(hb2.cell (p:=⟨0,0,none⟩) (World.block_lt_of_cell? w _ hm)).trans hm
 have hpc:=dX p w2 x da dc hx m hm2
 obtain⟨ps,er,hpe⟩:∃ps er,bL x=(ps,er):=⟨_,_,rfl⟩
 rw[hpe]at hpc hsd hp
 have hp:er≠0:=hp
 have hnz:(er !=0)=true:=by simpa using hp
 have gZ:Hid (Calls Tryz.prog 36 #[ptr p, .agg (opC x da dc)] ((w.alloc (.cells (opC x da dc) 28)).alloc (.cells (b_ (bW 0) none none 0 0) 36)) (aR w2 (ps,er))):=by rw[←hw2];exact Lib.hid hpc
 unfold opC b_ bW at gZ
 dsimp only[List.length_nil]at gZ
 have gN:=Lib.hid hsd
 have HD2:=Lib.hid hd2
 clear hS hM hk hx hm hp hsd hd2 hb2 hm2 hpc hw2 hpe
 unfold opC
 go_enter Tryz.func12,Tryz.ntmps12
 go_wp2_with fail
 (with_reducible refine gZ.out.mono ?_)
 clear gZ
 rintro e w3 ⟨a3,n3,c3,vs,rfl,-,-,-,-,hb3⟩
 have HD:=Lib.hid (HD2.out.grow hb3)
 clear hb3 HD2
 go_wp2_with fail
 (with_reducible refine(gu _ _).mono ?_)
 rintro e w9 ⟨rfl,fM⟩
 unfold uV
 have vX:=Lib.hid (HD.out.grow fM)
 clear fM
 go_wp2_with (refine ak (by rfl) 36 _ _ (by rfl) (w.heap.size+1) (b_ (bW er) none none 0 0) (by rfl) (by rfl) _ vX.out.re bA rfl (bD _ _ _ _ _) ?_;intro w5 hs5;have fQ:=Lib.hid hs5;clear hs5)
 exact bJ rfl rfl rfl fQ.out.1 (by rw[gN.out];exact vX.out.wK fQ.out rfl rfl)
theorem Q0 {S:Nat→Prop} (hS:aU o i j k w p M) (hM:Marks W o w) (hk:yB i j k l n) (cc:Int) (hok:eU cc M) (hcc:cc≤1000000000) (x:kQ) (hx:jL x) (da:Option Addr) (dc:Nat) (hda:aj S w da x.data.length (x.data.map bv)) (m:Int) (hm:w.cell? ⟨0,0,none⟩=some (.int .i64 m)):
  Calls Tryz.prog 12 #[ptr p, .agg (opC x da dc)] w (jO o i j k l n w p (bM M x)):=by
 by_cases hp:(bL x).2=0
 ·have hr:1≤x.kind∧x.kind≤17:=by
   unfold bL at hp
   split at hp
   ·assumption
   ·simp at hp
  obtain⟨kd,pa,aA,fd,at_,nn,au,sn,dt⟩:=x
  have h':1≤kd∧kd≤17:=hr
  rcases (show kd=1∨kd=2∨kd=3∨kd=4∨kd=5∨kd=6∨kd=7∨kd=8∨kd=9∨kd=10∨kd=11∨kd=12∨kd=13∨kd=14∨kd=15∨kd=16∨kd=17 by omega)with rfl|rfl|rfl|rfl|rfl|rfl|rfl|rfl|rfl|rfl|rfl|rfl|rfl|rfl|rfl|rfl|rfl
  ·exact Uj hS hM hk cc hok hcc pa aA fd at_ nn au sn dt hx da dc hda m hm hp
  ·exact Uk hS hM hk cc hok hcc pa aA fd at_ nn au sn dt hx da dc hda m hm hp
  ·exact Ul hS hM hk cc hok hcc pa aA fd at_ nn au sn dt hx da dc hda m hm hp
  ·exact Um hS hM hk cc hok hcc pa aA fd at_ nn au sn dt hx da dc hda m hm hp
  ·exact Un hS hM hk cc hok hcc pa aA fd at_ nn au sn dt hx da dc hda m hm hp
  ·exact Uo hS hM hk cc hok hcc pa aA fd at_ nn au sn dt hx da dc hda m hm hp
  ·exact Uq hS hM hk cc hok hcc pa aA fd at_ nn au sn dt hx da dc hda m hm hp
  ·exact Ur hS hM hk cc hok hcc pa aA fd at_ nn au sn dt hx da dc hda m hm hp
  ·exact Us hS hM hk cc hok hcc pa aA fd at_ nn au sn dt hx da dc hda m hm hp
  ·exact QO hS hM hk cc hok hcc pa aA fd at_ nn au sn dt hx da dc hda m hm hp
  ·exact QS hS hM hk cc hok hcc pa aA fd at_ nn au sn dt hx da dc hda m hm hp
  ·exact QT hS hM hk cc hok hcc pa aA fd at_ nn au sn dt hx da dc hda m hm hp
  ·exact QU hS hM hk cc hok hcc pa aA fd at_ nn au sn dt hx da dc hda m hm hp
  ·exact QV hS hM hk cc hok hcc pa aA fd at_ nn au sn dt hx da dc hda m hm hp
  ·exact QW hS hM hk cc hok hcc pa aA fd at_ nn au sn dt hx da dc hda m hm hp
  ·exact QX hS hM hk cc hok hcc pa aA fd at_ nn au sn dt hx da dc hda m hm hp
  ·exact QY hS hM hk cc hok hcc pa aA fd at_ nn au sn dt hx da dc hda m hm hp
 ·exact QZ hS hM hk x hx da dc m hm hp
end
theorem BA (W w:World) (o:Mark) (hM:Marks W o w) (j:Nat):Calls Tryz.prog 32 #[] w fun e w'=>∃p o',e= .returned (ptr p)∧Step o (fun k=>k=j) w o' w'∧dN o' j w' p uF∧Below w.heap.size w w':=by
 refine(PI w).mono ?_
 rintro e w' ⟨g,mb,ib,nb,p,rfl,hA,hg,hb⟩
 obtain⟨o',hs,h1,h2⟩:=fZ hM j (fun b=>g b≠ .none) (w':=w') (fun b hb'=>⟨hg b hb',hA.low b hb'⟩) hb
 exact⟨p,o',rfl,hs,⟨g,_,mb,ib,nb,hA,fun b hb'=>h1 b hb',fun b hb'=>hb'.elim⟩,hb⟩
set_option maxRecDepth 100000 in
theorem NS (W w:World) (o:Mark) (hM:Marks W o w) {i j k l:Nat} (hk:Mk i j k l):Calls Tryz.prog 9 #[] w fun e w'=>∃p o',e= .returned (ptr p)∧Step o (fun m=>m=i∨m=j∨m=k∨m=l) w o' w'∧aU o' i j k w' p xW∧Below w.heap.size w w':=by
 obtain⟨n1,n2,n3,n4,n5,n6,n7,n8,n9,n10⟩:=hk.ne
 have HM:=Lib.hid hM
 clear hM hk
 go_enter Tryz.func9,Tryz.ntmps9
 go_wp2_with fail
 (with_reducible refine(BA W w o HM.out j).mono ?_)
 rintro e w1 ⟨t,o1,rfl,hs1,hT1,hb1⟩
 have jB:=Lib.hid (HM.out.step (fun e=>n2 e.symm) hs1)
 have mU:=Lib.hid hs1
 have HT1:=Lib.hid hT1
 have HB1:=Lib.hid hb1
 clear hs1 hT1 hb1
 go_wp2_with fail
 (with_reducible refine(Jy jB.out i n1).mono ?_)
 rintro e w2 ⟨s,o2,rfl,hs2,hS2,hb2⟩
 have h0i:¬(fun m=>m=i) 0:=fun e=>n1 e.symm
 have h0k:¬(fun m=>m=k) 0:=fun e=>n3 e.symm
 have vO:=Lib.hid (jB.out.step h0i hs2)
 have HT2:=Lib.hid (HT1.out.step h0i (fun e=>n5 e.symm) hs2)
 have HS2:=Lib.hid hs2
 have Pg:=Lib.hid hS2
 have HB2:=Lib.hid hb2
 clear hs2 hS2 hb2
 go_wp2_with fail
 go_ret
 have hb3:Below w2.heap.size w2 (w2.alloc (.cells (wU t s 0 fun _=> .pointer none) 66)):=wall w2 _
 obtain⟨o3,hs3,h1,h2⟩:=fZ vO.out k (fun b=>b=w2.heap.size) (w':=w2.alloc (.cells (wU t s 0 fun _=> .pointer none) 66)) (fun b hb=>by subst hb;exact⟨Nat.le_refl _,by simp⟩) hb3
 exact⟨w2.heap.size,o3,rfl,((mU.out.mono fun m hm=> .inr (.inl hm)).trans (HS2.out.mono fun m hm=> .inl hm)).trans (hs3.mono fun m hm=> .inr (.inr (.inl hm))),⟨⟨t,s,fun _=> .pointer none,(MapKept.heap_alloc w2 _).1,Pg.out.step h0k n6 hs3,HT2.out.step h0k n8 hs3,fun n hn=>rfl⟩,h1 _ rfl,by simp⟩,HB1.out.trans ((HB2.out.trans (hb3.mono HB2.out.size)).mono HB1.out.size)⟩
abbrev Five (i:Nat):Nat→Prop:=fun m=>i≤m∧m≤i+4
structure uy (W:World) (o:Mark) (i:Nat) (w:World) (p:Nat) (c:Int) (M:eF):Prop where
 st:aU o i (i+1) (i+2) w p M
 marks:Marks W o w
 ok:eU c M
theorem mk5 {i:Nat} (hi:0<i):yB i (i+1) (i+2) (i+3) (i+4):=⟨⟨by omega⟩,by omega⟩
section
variable {W w w':World} {o o':Mark} {i p:Nat} {c:Int} {M:eF}
theorem uy.grow (h:uy W o i w p c M) (hb:Below w.heap.size w w'):uy W o i w' p c M:=⟨h.st.grow h.marks hb,h.marks.grow hb,h.ok⟩
theorem uy.below (h:uy W o i w p c M):Below W.heap.size W w:=h.marks.below
theorem uy.mono {d:Int} (h:uy W o i w p c M) (hcd:c≤d):uy W o i w p d M:=⟨h.st,h.marks,h.ok.mono hcd⟩
theorem uy.other {j:Nat} (h:uy W o i w p c M) (hi:0<i) (hj:0<j) (hd:i+4<j∨j+4<i) (hs:Step o (Five j) w o' w'):uy W o' i w' p c M:=
 ⟨h.st.step (fun e=>by have:=e.1;omega) (fun e=>by have:=e.1;have:=e.2;omega) (fun e=>by have:=e.1;have:=e.2;omega) (fun e=>by have:=e.1;have:=e.2;omega) hs,h.marks.step (fun e=>by have:=e.1;omega) hs,h.ok⟩
theorem nT {i m:Nat} (h:m=i∨m=i+1∨m=i+2∨m=i+3∨m=i+4):Five i m:=⟨by omega,by omega⟩
theorem NT (hM:Marks W o w) (hi:0<i):Calls Tryz.prog 9 #[] w fun e w'=>∃p o',e= .returned (ptr p)∧Step o (Five i) w o' w'∧uy W o' i w' p 1 xW:=by
 refine(NS W w o hM (mk5 hi).mm).mono ?_
 rintro e w' ⟨p,o',rfl,hs,hS,hb⟩
 have hs5:Step o (Five i) w o' w':=hs.mono fun m hm=>nT (by omega)
 exact⟨p,o',rfl,hs5,⟨hS,hM.step (fun e=>by have:=e.1;omega) hs5,eU.new⟩⟩
def DoW (W:World) (o:Mark) (i:Nat) (w:World) (p:Nat) (c:Int) (M:eF) (x:kQ) (e:Ending) (w':World):Prop:=
 ∃o',vk o' (bM M x).1 e w'∧Step o (Five i) w o' w'∧uy W o' i w' p (c+1) (bM M x).2
theorem WV {S:Nat→Prop} (h:uy W o i w p c M) (hi:0<i) (hc:c≤1000000000) (x:kQ) (hx:jL x) (da:Option Addr) (dc:Nat) (hda:aj S w da x.data.length (x.data.map bv)) (m:Int) (hm:W.cell? ⟨0,0,none⟩=some (.int .i64 m)):
  Calls Tryz.prog 12 #[ptr p, .agg (opC x da dc)] w (DoW W o i w p c M x):=by
 have hmw:w.cell? ⟨0,0,none⟩=some (.int .i64 m):=(h.marks.below.cell (p:=⟨0,0,none⟩) (World.block_lt_of_cell? W _ hm)).trans hm
 refine(Q0 h.st h.marks (mk5 hi) c h.ok hc x hx da dc hda m hmw).mono ?_
 rintro e w' ⟨o',h1,hs,hS⟩
 have hs5:Step o (Five i) w o' w':=hs.mono fun m hm=>nT hm
 exact⟨o',h1,hs5,⟨hS,h.marks.step (fun e=>by have:=e.1;omega) hs5,h.ok.do_ x hx⟩⟩
theorem Ih (h:uy W o i w p c M):Calls Tryz.prog 31 #[ptr p] w fun e w'=>e= .returned (.int .u64 M.now)∧Below w.heap.size w w':=Qt h.st
end
theorem NU (W:World):Marks W (fun _=>0) W:=⟨fun b hb=>absurd rfl hb,Below.refl _ _⟩
theorem F9 {x:kQ} (wk:0≤x.kind∧x.kind≤1000) (wf:0≤x.fd∧x.fd≤1000) (wa:0≤x.at_∧x.at_≤1000000) (wn:0≤x.n∧x.n≤1000000) (ws:0≤x.snap∧x.snap≤1000000) (wt:0≤x.au∧x.au≤18446744073709551615) (wp:x.path.length≤1000) (wq:x.aA.length≤1000) (wd:x.data.length≤1000000):jL x:=
 ⟨gB (by omega) (by omega),gB (by omega) (by omega),gB (by omega) (by omega),gB (by omega) (by omega),gB (by omega) (by omega),wt,by omega,by omega,by omega⟩
end Go.Proofs.YtmabllemjkcobaaGreatDoor
