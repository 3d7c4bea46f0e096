/- package -/
import Derived.Test.YtjnhnlabpccgjaaGreatDoorM22
import Derived.Test.YtjnhnlabpccgjaaGreatDoorM20
import Derived.Test.YtjnhnlabpccgjaaGreatDoorM11
import Derived.Test.YtjnhnlabpccgjaaGreatDoorM16
import Derived.Test.YtjnhnlabpccgjaaGreatDoorM18
set_option maxRecDepth 100000
set_option maxHeartbeats 64000000
set_option linter.all false
namespace Go.Proofs.YtjnhnlabpccgjaaGreatDoor
open Go.ChangeShapes Go.WideShapes Go.ChangeAt Go.RowKit
section
variable{W w:World}{o:Mark}{i j k l n p:Nat}{M:dQ}{S:Nat→Prop}{cc m:Int}{pa ig:List UInt8}{fd at_ nn aF sn:Int}{dt:List UInt8}{da:Option Addr}{dc:Nat}
theorem sdo_k5(h:QK S W o i j k l n w p M cc ⟨5,pa,ig,fd,at_,nn,aF,sn,dt⟩ da dc m):
  Calls Tryz.prog 25 #[ptr p,.agg (opC ⟨5,pa,ig,fd,at_,nn,aF,sn,dt⟩ da dc)] w (Bq o i j k l n w p (fE M ⟨5,pa,ig,fd,at_,nn,aF,sn,dt⟩)):=by
 obtain⟨o1,w2,HD2,uT,zP,jO,HX,HK,hcc⟩:=h.pre;have hps:gu ⟨5,pa,ig,fd,at_,nn,aF,sn,dt⟩=([],0):=rfl;have hsd:=OE M hps;rw[hps]at zP;unfold opC jd dR at zP;dsimp only[List.length_nil]at zP uT;have kG:=acr hsd;clear h hps hsd;unfold opC;go_enter Tryz.func25,Tryz.ntmps25;go_wp2_with fail;refine zP.o.mono ?_;clear zP;intro e w3 hpr;obtain⟨a3,c3,rfl,HD,HB3,Fp,g0⟩:=HD2.o.none_ hpr uT.o;dsimp only at g0 Fp;clear hpr HD2 uT;have hsd:fE M ⟨5,pa,ig,fd,at_,nn,aF,sn,dt⟩=iY M ⟨5,pa,ig,fd,at_,nn,aF,sn,dt⟩:=kG.o;replace kG:=acr hsd;clear hsd;obtain⟨rr,hrr⟩:∃rr,rr=iY M ⟨5,pa,ig,fd,at_,nn,aF,sn,dt⟩:=⟨_,rfl⟩;have HC:=acr (Mr HD.o.st HD.o.marks HD.o.mm.mm jO.o.t.1 ⟨5,pa,ig,fd,at_,nn,aF,sn,dt⟩ HX.o (fun q f hf=>kD (by have:=jO.o.fd q f hf;have:=this.1;omega) (by have:=jO.o.fd q f hf;have:=this.2.1;omega)) da dc Fp.o);unfold opC at HC;rw[←hrr]at HC kG;clear hrr;have g1:w3.cell? ⟨w.heap.size,1,none⟩=some (.string (strOf pa)):=by simp[World.cell?,HD.o.op,opC]
 have g2:w3.cell? ⟨w.heap.size,2,none⟩=some (.string (strOf ig)):=by simp[World.cell?,HD.o.op,opC]
 have g3:w3.cell? ⟨w.heap.size,3,none⟩=some (.int .i64 fd):=by simp[World.cell?,HD.o.op,opC]
 have g4:w3.cell? ⟨w.heap.size,4,none⟩=some (.int .i64 at_):=by simp[World.cell?,HD.o.op,opC]
 have g5:w3.cell? ⟨w.heap.size,5,none⟩=some (.int .i64 nn):=by simp[World.cell?,HD.o.op,opC]
 have g6:w3.cell? ⟨w.heap.size,6,none⟩=some (.int .u64 aF):=by simp[World.cell?,HD.o.op,opC]
 have g7:w3.cell? ⟨w.heap.size,7,none⟩=some (.int .i64 sn):=by simp[World.cell?,HD.o.op,opC]
 have g8:w3.cell? ⟨w.heap.size,8,none⟩=some (.slice da dt.length dc):=by simp[World.cell?,HD.o.op,opC]
 go_wp2_with fail;refine HC.o.mono ?_;rintro e w4 ⟨o4,⟨v4,rfl,JN,JO,JQ,JR,rfl,k1,k2,k3,k4⟩,hs4,uH⟩;have HD4:=acr (HD.o.turn hs4 uH);have Bc:=acr (And.intro k1 (And.intro k2 (And.intro k3 k4)));clear k1 k2 k3 k4 HC hs4 uH;go_wp2_with (refine aJ (by rfl) 41 _ _ (by rfl) (w.heap.size+1) (jd (rr.1) JN JO JQ JR) (by rfl) (by rfl) _ HD4.o.re iH rfl (iX _ _ _ _ _) ?_;intro w5 hs5;have eU:=acr hs5;clear hs5);exact kC rfl rfl rfl eU.o.1 (by rw[kG.o];exact HD4.o.fin eU.o Bc.o.1 Bc.o.2.1 Bc.o.2.2.1 Bc.o.2.2.2)
theorem sdo_k6(h:QK S W o i j k l n w p M cc ⟨6,pa,ig,fd,at_,nn,aF,sn,dt⟩ da dc m):
  Calls Tryz.prog 25 #[ptr p,.agg (opC ⟨6,pa,ig,fd,at_,nn,aF,sn,dt⟩ da dc)] w (Bq o i j k l n w p (fE M ⟨6,pa,ig,fd,at_,nn,aF,sn,dt⟩)):=by
 obtain⟨o1,w2,HD2,uT,zP,jO,HX,HK,hcc⟩:=h.pre;have hps:gu ⟨6,pa,ig,fd,at_,nn,aF,sn,dt⟩=([],0):=rfl;have hsd:=OE M hps;rw[hps]at zP;unfold opC jd dR at zP;dsimp only[List.length_nil]at zP uT;have kG:=acr hsd;clear h hps hsd;unfold opC;go_enter Tryz.func25,Tryz.ntmps25;go_wp2_with fail;refine zP.o.mono ?_;clear zP;intro e w3 hpr;obtain⟨a3,c3,rfl,HD,HB3,Fp,g0⟩:=HD2.o.none_ hpr uT.o;dsimp only at g0 Fp;clear hpr HD2 uT;have hsd:fE M ⟨6,pa,ig,fd,at_,nn,aF,sn,dt⟩=tJ (iZ M ⟨6,pa,ig,fd,at_,nn,aF,sn,dt⟩):=kG.o;replace kG:=acr hsd;clear hsd;obtain⟨rr,hrr⟩:∃rr,rr=iZ M ⟨6,pa,ig,fd,at_,nn,aF,sn,dt⟩:=⟨_,rfl⟩;have HC:=acr (Mt HD.o.st HD.o.marks HD.o.mm.mm ⟨6,pa,ig,fd,at_,nn,aF,sn,dt⟩ HX.o (fun q f hf=>kD (by have:=jO.o.fd q f hf;have:=this.1;omega) (by have:=jO.o.fd q f hf;have:=this.2.1;omega)) da dc);unfold opC at HC;rw[←hrr]at HC kG;unfold tJ at kG;clear hrr;have g1:w3.cell? ⟨w.heap.size,1,none⟩=some (.string (strOf pa)):=by simp[World.cell?,HD.o.op,opC]
 have g2:w3.cell? ⟨w.heap.size,2,none⟩=some (.string (strOf ig)):=by simp[World.cell?,HD.o.op,opC]
 have g3:w3.cell? ⟨w.heap.size,3,none⟩=some (.int .i64 fd):=by simp[World.cell?,HD.o.op,opC]
 have g4:w3.cell? ⟨w.heap.size,4,none⟩=some (.int .i64 at_):=by simp[World.cell?,HD.o.op,opC]
 have g5:w3.cell? ⟨w.heap.size,5,none⟩=some (.int .i64 nn):=by simp[World.cell?,HD.o.op,opC]
 have g6:w3.cell? ⟨w.heap.size,6,none⟩=some (.int .u64 aF):=by simp[World.cell?,HD.o.op,opC]
 have g7:w3.cell? ⟨w.heap.size,7,none⟩=some (.int .i64 sn):=by simp[World.cell?,HD.o.op,opC]
 have g8:w3.cell? ⟨w.heap.size,8,none⟩=some (.slice da dt.length dc):=by simp[World.cell?,HD.o.op,opC]
 go_wp2_with fail;refine HC.o.mono ?_;rintro e w4 ⟨rfl,o4,hs4,uH⟩;have HD4:=acr (HD.o.turn hs4 uH);clear hs4 uH HC;go_wp2_with fail;refine(vD _ _).mono ?_;rintro e w9 ⟨rfl,eH⟩;unfold pz;have ZO:=acr (HD4.o.grow eH);clear eH;go_wp2_with (refine aJ (by rfl) 41 _ _ (by rfl) (w.heap.size+1) (jd (dR (rr.1)) none none 0 0) (by rfl) (by rfl) _ ZO.o.re iH rfl (iX _ _ _ _ _) ?_;intro w5 hs5;have eU:=acr hs5;clear hs5);exact kC rfl rfl rfl eU.o.1 (by rw[kG.o];exact ZO.o.Ux eU.o rfl rfl)
theorem sdo_k8(h:QK S W o i j k l n w p M cc ⟨8,pa,ig,fd,at_,nn,aF,sn,dt⟩ da dc m):
  Calls Tryz.prog 25 #[ptr p,.agg (opC ⟨8,pa,ig,fd,at_,nn,aF,sn,dt⟩ da dc)] w (Bq o i j k l n w p (fE M ⟨8,pa,ig,fd,at_,nn,aF,sn,dt⟩)):=by
 obtain⟨o1,w2,HD2,uT,zP,jO,HX,HK,hcc⟩:=h.pre;obtain⟨q0,hps,hsd,h80⟩:=Uy M rfl h.paths;rw[hps]at zP;unfold opC jd dR at zP;dsimp only[List.length_nil]at zP uT;have kG:=acr hsd;clear h hps hsd;unfold opC;go_enter Tryz.func25,Tryz.ntmps25;go_wp2_with fail;refine zP.o.mono ?_;clear zP;intro e w3 hpr;obtain⟨b,off,c3,a0,c0,rfl,HD,HB3,HBF,QL,Fp,g0,hc0⟩:=HD2.o.one hpr uT.o;dsimp only at g0 Fp;clear hpr HD2 uT;have hsd:fE M ⟨8,pa,ig,fd,at_,nn,aF,sn,dt⟩=tJ (fP M q0):=kG.o;replace kG:=acr hsd;clear hsd;obtain⟨rr,hrr⟩:∃rr,rr=fP M q0:=⟨_,rfl⟩;have HC:=acr (JK HD.o.st HD.o.marks HD.o.mm.mm jO.o.t.1 a0 q0.length c0 q0 QL.o.strs QL.o.cap (by omega) (XO jO.o.t.1 q0));rw[←hrr]at HC kG;unfold tJ at kG;clear hrr;go_wp2_with fail;refine HC.o.mono ?_;rintro e w4 ⟨rfl,o4,hs4,uH⟩;have HD4:=acr (HD.o.turn hs4 uH);clear hs4 uH HC;go_wp2_with fail;refine(vD _ _).mono ?_;rintro e w9 ⟨rfl,eH⟩;unfold pz;have ZO:=acr (HD4.o.grow eH);clear eH;go_wp2_with (refine aJ (by rfl) 41 _ _ (by rfl) (w.heap.size+1) (jd (dR (rr.1)) none none 0 0) (by rfl) (by rfl) _ ZO.o.re iH rfl (iX _ _ _ _ _) ?_;intro w5 hs5;have eU:=acr hs5;clear hs5);exact kC rfl rfl rfl eU.o.1 (by rw[kG.o];exact ZO.o.Ux eU.o rfl rfl)
end
section
variable{W w:World}{o:Mark}{i j k l n p:Nat}{M:dQ}{S:Nat→Prop}{cc m:Int}{pa ig:List UInt8}{fd at_ nn aF sn:Int}{dt:List UInt8}{da:Option Addr}{dc:Nat}
end
section
variable{W w:World}{o:Mark}{i j k l n p:Nat}{M:dQ}{S:Nat→Prop}{cc m:Int}{pa ig:List UInt8}{fd at_ nn aF sn:Int}{dt:List UInt8}{da:Option Addr}{dc:Nat}
end
section
variable{W w:World}{o:Mark}{i j k l n p:Nat}{M:dQ}
theorem XT(hS:eG o i j k w p M)(hM:Marks W o w)(hk:ZN i j k l n)(x:jK)(hx:nN x)(da:Option Addr)(dc:Nat)(m:Int)(hm:w.cell? ⟨0,0,none⟩=some (.int .i64 m))(hp:(gu x).2≠0):
  Calls Tryz.prog 25 #[ptr p,.agg (opC x da dc)] w (Bq o i j k l n w p (fE M x)):=by
 have hsd:fE M x=(dR (gu x).2,M):=if_pos hp;obtain⟨o1,hd2⟩:=mZ.start hk hS hM x da dc;have hb2:Below w.heap.size w ((w.alloc (.cells (opC x da dc) 30)).alloc (.cells (jd (dR 0) none none 0 0) 41)):=(wall w _).trans ((wall _ _).mono (by simp));obtain⟨w2,hw2⟩:∃w2,w2=(w.alloc (.cells (opC x da dc) 30)).alloc (.cells (jd (dR 0) none none 0 0) 41):=⟨_,rfl⟩;rw[←hw2]at hd2 hb2;have hm2:w2.cell? ⟨0,0,none⟩=some (.int .i64 m):=(hb2.cell (p:=⟨0,0,none⟩) (aaj w _ hm)).trans hm;have hpc:=Ga p w2 x da dc hx m hm2;obtain⟨ps,er,hpe⟩:∃ps er,gu x=(ps,er):=⟨_,_,rfl⟩;rw[hpe]at hpc hsd hp;have hp:er≠0:=hp;have hnz:(er !=0)=true:=by simpa using hp
 have zP:acs (Calls Tryz.prog 69 #[ptr p,.agg (opC x da dc)] ((w.alloc (.cells (opC x da dc) 30)).alloc (.cells (jd (dR 0) none none 0 0) 41)) (gU w2 (ps,er))):=by rw[←hw2];exact acr hpc
 unfold opC jd dR at zP;dsimp only[List.length_nil]at zP;have kG:=acr hsd;have HD2:=acr hd2;clear hS hM hk hx hm hp hsd hd2 hb2 hm2 hpc hw2 hpe;unfold opC;go_enter Tryz.func25,Tryz.ntmps25;go_wp2_with fail;refine zP.o.mono ?_;clear zP;rintro e w3 ⟨a3,n3,c3,vs,rfl,-,-,-,-,hb3⟩;have HD:=acr (HD2.o.grow hb3);clear hb3 HD2;go_wp2_with fail;refine(vD _ _).mono ?_;rintro e w9 ⟨rfl,eH⟩;unfold pz;have ZO:=acr (HD.o.grow eH);clear eH;go_wp2_with (refine aJ (by rfl) 41 _ _ (by rfl) (w.heap.size+1) (jd (dR er) none none 0 0) (by rfl) (by rfl) _ ZO.o.re iH rfl (iX _ _ _ _ _) ?_;intro w5 hs5;have eU:=acr hs5;clear hs5);exact kC rfl rfl rfl eU.o.1 (by rw[kG.o];exact ZO.o.Ux eU.o rfl rfl)
end
theorem Hw(W w:World)(o:Mark)(hM:Marks W o w)(j:Nat):Calls Tryz.prog 20 #[] w fun e w'=>∃p o',e= .returned (ptr p)∧Step o (fun k=>k=j) w o' w'∧gZ o' j w' p wO∧Below w.heap.size w w':=by
 refine(Xg w).mono ?_;rintro e w' ⟨g,mb,ib,nb,p,rfl,hA,hg,hb⟩;obtain⟨o',hs,h1,h2⟩:=iQ hM j (fun b=>g b≠ .none) (w':=w') (fun b hb'=>⟨hg b hb',hA.low b hb'⟩) hb;exact⟨p,o',rfl,hs,⟨g,_,mb,ib,nb,hA,fun b hb'=>h1 b hb',fun b hb'=>hb'.elim⟩,hb⟩
theorem Uz(W w:World)(o:Mark)(hM:Marks W o w){i j k l:Nat}(hk:Mk i j k l):Calls Tryz.prog 7 #[] w fun e w'=>∃p o',e= .returned (ptr p)∧Step o (fun m=>m=i∨m=j∨m=k∨m=l) w o' w'∧eG o' i j k w' p Bg∧Below w.heap.size w w':=by
 obtain⟨n1,n2,n3,n4,n5,n6,n7,n8,n9,n10⟩:=hk.ne;have HM:=acr hM;clear hM hk;go_enter Tryz.func7,Tryz.ntmps7;go_wp2_with fail;refine(Hw W w o HM.o j).mono ?_;rintro e w1 ⟨t,o1,rfl,hs1,hT1,hb1⟩;have nM:=acr (HM.o.step (fun e=>n2 e.symm) hs1);have ko:=acr hs1;have HT1:=acr hT1;have HB1:=acr hb1;clear hs1 hT1 hb1;go_wp2_with fail;refine(Qp nM.o i n1).mono ?_;rintro e w2 ⟨s,o2,rfl,hs2,hS2,hb2⟩;have h0i:¬(fun m=>m=i) 0:=fun e=>n1 e.symm;have h0k:¬(fun m=>m=k) 0:=fun e=>n3 e.symm;have zO:=acr (nM.o.step h0i hs2);have HT2:=acr (HT1.o.step h0i (fun e=>n5 e.symm) hs2);have HS2:=acr hs2;have OG:=acr hS2;have HB2:=acr hb2;clear hs2 hS2 hb2;go_wp2_with fail;go_ret;have hb3:Below w2.heap.size w2 (w2.alloc (.cells (EK t s 0 fun _=> .pointer none) 57)):=wall w2 _;obtain⟨o3,hs3,h1,h2⟩:=iQ zO.o k (fun b=>b=w2.heap.size) (w':=w2.alloc (.cells (EK t s 0 fun _=> .pointer none) 57)) (fun b hb=>by subst hb;exact⟨Nat.le_refl _,by simp⟩) hb3;exact⟨w2.heap.size,o3,rfl,((ko.o.mono fun m hm=> .inr (.inl hm)).trans (HS2.o.mono fun m hm=> .inl hm)).trans (hs3.mono fun m hm=> .inr (.inr (.inl hm))),⟨⟨t,s,fun _=> .pointer none,(MapKept.heap_alloc w2 _).1,OG.o.step h0k n6 hs3,HT2.o.step h0k n8 hs3,fun n hn=>rfl⟩,h1 _ rfl,by simp⟩,HB1.o.trans ((HB2.o.trans (hb3.mono HB2.o.size)).mono HB1.o.size)⟩
abbrev Five(i:Nat):Nat→Prop:=fun m=>i≤m∧m≤i+4
structure Hy(W:World)(o:Mark)(i:Nat)(w:World)(p:Nat)(c:Int)(M:dQ):Prop where
 st:eG o i (i+1) (i+2) w p M
 marks:Marks W o w
 ok:fQ c M
theorem mk5{i:Nat}(hi:0<i):ZN i (i+1) (i+2) (i+3) (i+4):=⟨⟨by omega⟩,by omega⟩
section
variable{W w w':World}{o o':Mark}{i p:Nat}{c:Int}{M:dQ}
theorem Hy.grow(h:Hy W o i w p c M)(hb:Below w.heap.size w w'):Hy W o i w' p c M:=⟨h.st.grow h.marks hb,h.marks.grow hb,h.ok⟩
theorem Hy.below(h:Hy W o i w p c M):Below W.heap.size W w:=h.marks.below
theorem Hy.mono{d:Int}(h:Hy W o i w p c M)(hcd:c≤d):Hy W o i w p d M:=⟨h.st,h.marks,h.ok.mono hcd⟩
theorem OH{i m:Nat}(h:m=i∨m=i+1∨m=i+2∨m=i+3∨m=i+4):Five i m:=⟨by omega,by omega⟩
theorem st_new(hM:Marks W o w)(hi:0<i):Calls Tryz.prog 7 #[] w fun e w'=>∃p o',e= .returned (ptr p)∧Step o (Five i) w o' w'∧Hy W o' i w' p 1 Bg:=by
 refine(Uz W w o hM (mk5 hi).mm).mono ?_;rintro e w' ⟨p,o',rfl,hs,hS,hb⟩;have hs5:Step o (Five i) w o' w':=hs.mono fun m hm=>OH (by omega);exact⟨p,o',rfl,hs5,⟨hS,hM.step (fun e=>by have:=e.1;omega) hs5,fQ.new⟩⟩
def DoW(W:World)(o:Mark)(i:Nat)(w:World)(p:Nat)(c:Int)(M:dQ)(x:jK)(e:Ending)(w':World):Prop:=
 ∃o',DC o' (fE M x).1 e w'∧Step o (Five i) w o' w'∧Hy W o' i w' p (c+1) (fE M x).2
end
theorem UA(W:World):Marks W (fun _=>0) W:=⟨fun b hb=>absurd rfl hb,Below.refl _ _⟩
theorem MK{x:jK}(wk:0≤x.kind∧x.kind≤1000)(wf:0≤x.fd∧x.fd≤1000)(wa:0≤x.at_∧x.at_≤1000000)(wn:0≤x.n∧x.n≤1000000)(ws:0≤x.snap∧x.snap≤1000000)(wt:0≤x.aF∧x.aF≤18446744073709551615)(wp:x.path.length≤1000)(wq:x.ig.length≤1000)(wd:x.data.length≤1000000):nN x:=
 ⟨kD (by omega) (by omega),kD (by omega) (by omega),kD (by omega) (by omega),kD (by omega) (by omega),kD (by omega) (by omega),wt,by omega,by omega,by omega⟩
theorem flat_get{α β:Type}(f:α→List β)(k:Nat)(hk:∀x,(f x).length=k):∀(L:List α) (i j:Nat) (x:α),L[i]? =some x→j<k→(L.flatMap f)[i*k+j]? =(f x)[j]?
 |[],i,j,x,h,_=>by simp at h
 |y::r,0,j,x,h,hj=>by
  simp only[aai,Pd]at h;subst h;rw[List.flatMap_cons,abG,Nat.zero_add,aaN (by rw[hk];exact hj)]
 |y::r,i+1,j,x,h,hj=>by
  rw[List.flatMap_cons,aaw (by rw[hk,Nat.add_mul];omega),hk,show(i+1)*k+j-k=i*k+j by rw[Nat.add_mul];omega];exact flat_get f k hk r i j x (by simpa using h) hj
abbrev jT:=Int×Nm×Int
def dM(q:Int×bJ):List Value:=[.int .i64 q.1,.int .i64 q.2.kind,.int .i64 q.2.links,.int .i64 q.2.b.length,.int .u64 q.2.aF,.bool q.2.closed]
def fH(e:jT):List Value:=[.int .i64 e.1,.string (strOf e.2.1),.int .i64 e.2.2]
def lQ(q:Int×bJ):List jT:=q.2.names.map fun e=>(q.1,e.1,e.2)
def aW(T:aA):List jT:=T.flatMap lQ
def BytesAt(F:Nat→Prop)(w:World)(a:Option Addr)(bs:List (List UInt8)):Prop:=
 ∃vs:List Value,ah F w a bs.length vs∧∀(i:Nat) (b:List UInt8),bs[i]? =some b→∃(a:Option Addr) (c:Nat),vs[i]? =some (.slice a b.length c)∧ny b.length c∧ah F w a b.length (b.map bv)
theorem BytesAt.move{F F':Nat→Prop}{w w':World}{a:Option Addr}{bs:List (List UInt8)}(h:BytesAt F w a bs)(hs:w.heap.size≤w'.heap.size)(hk:∀b,F b→b<w.heap.size→F' b∧w'.heap[b]? =w.heap[b]?):BytesAt F' w' a bs:=by
 obtain⟨vs,h1,h2⟩:=h;refine⟨vs,h1.move hs hk,fun i b hb=> ?_⟩;obtain⟨a,c,h3,h4,h5⟩:=h2 i b hb;exact⟨a,c,h3,h4,h5.move hs hk⟩
def sl(a:Option Addr)(n c:Nat):Value:= .slice a n c
def Base(a:Option Addr)(c:Nat):Prop:=(a=none∧c=0)∨∃b,a=some ⟨b,0,none⟩
def Off(F:Nat→Prop)(r:Nat):Nat→Prop:=fun b=>F b∧b≠r
structure gX(F:Nat→Prop)(w:World)(r:Nat)(T:aA)(D:List (List UInt8))(E:List jT):Prop where
 head:∃aN cN aD cD aE cE,w.heap[r]? =some (.cells #[.slice aN T.length cN,.slice aD D.length cD,.slice aE E.length cE] 113 (0,0))∧T.length≤cN∧D.length≤cD∧E.length≤cE∧
  ah (Off F r) w aN (T.length*6) (T.flatMap dM)∧BytesAt (Off F r) w aD D∧ah (Off F r) w aE (E.length*3) (E.flatMap fH)∧Base aE cE
 own:F r
 low:∀b,F b→b<w.heap.size
abbrev jC(F:Nat→Prop)(w:World)(r:Nat)(T:aA):Prop:=gX F w r T (T.map fun q=>q.2.b) (aW T)
theorem gX.keeps{F fp:Nat→Prop}{w w':World}{r:Nat}{T:aA}{D:List (List UInt8)}{E:List jT}(h:gX F w r T D E)(hK:Keeps fp w w')(hn:∀b,F b→¬fp b):gX F w' r T D E:=by
 have hk:∀b,Off F r b→b<w.heap.size→Off F r b∧w'.heap[b]? =w.heap[b]? :=fun b hb hbw=>⟨hb,hK.block b hbw (hn b hb.1)⟩;obtain⟨aN,cN,aD,cD,aE,cE,h1,h2,h3,h4,h8,h9,h10,h11⟩:=h.head;exact⟨⟨aN,cN,aD,cD,aE,cE,(hK.block r (h.low r h.own) (hn r h.own)).trans h1,h2,h3,h4,h8.move hK.size hk,h9.move hK.size hk,h10.move hK.size hk,h11⟩,h.own,fun b hb=>Nat.lt_of_lt_of_le (h.low b hb) hK.size⟩
theorem gX.below{F:Nat→Prop}{w w':World}{B r:Nat}{T:aA}{D:List (List UInt8)}{E:List jT}(h:gX F w r T D E)(hb:Below B w w')(hB:w.heap.size≤B):gX F w' r T D E:=
 h.keeps (fp:=fun x=>B≤x) (Keeps.below hb) fun x hx hf=>by have:=h.low x hx;omega
theorem gK(q:Int×bJ):(dM q).length=6:=rfl
theorem jI(e:jT):(fH e).length=3:=rfl
theorem ah.wide{α:Type}{F:Nat→Prop}{w:World}{a:Option Addr}{n k:Nat}{f:α→List Value}{L:List α}(h:ah F w a (n*k) (L.flatMap f))(hk:∀x,(f x).length=k)(hn:L.length=n){i:Nat}{x:α}(hx:L[i]? =some x)(hk0:0<k):
  ∃b off,a=some ⟨b,off,none⟩∧F b∧b<w.heap.size∧i<n∧∀j,j<k→w.cell? ⟨b,off+i*k+j,none⟩=(f x)[j]? :=by
 have hi:i<n:=by rw[←hn];exact(aac.1 hx).1
 have hik:i*k+k≤n*k:=by rw[←Nat.succ_mul];exact ab8 k hi
 obtain⟨b,off,e,hF,hb,hc⟩:=h.at_ (by omega);refine⟨b,off,e,hF,hb,hi,fun j hj=> ?_⟩;rw[Nat.add_assoc,hc (i*k+j) (by omega),flat_get f k hk L i j x hx hj]
section
variable{F:Nat→Prop}{r:Nat}{T:aA}{D:List (List UInt8)}{E:List jT}
def qR(id:Int)(q:Int×bJ):Bool:=decide (q.1=id)
theorem zn(id:Int)(w:World)(h:gX F w r T D E)(hl:T.length≤64):Calls Tryz.prog 174 #[ptr r,.int .i64 id] w fun e w'=>e= .returned (.int .i64 (rG (qR id) T))∧w=w':=by
 obtain⟨aN,cN,aD,cD,aE,cE,h1,-,-,-,hN,-,-,-⟩:=h.head;have hr0:=h.low r h.own;have hc0:w.cell? ⟨r,0,none⟩=some (.slice aN T.length cN):=by simp[World.cell?,h1]
 have HN:=acr hN;obtain⟨n,hn⟩:∃n,n=T.length:=⟨_,rfl⟩;rw[←hn]at hc0 hl HN;have HL:=acr hn;clear h h1 hN hn;go_enter Tryz.func174,Tryz.ntmps174;go_wp2
 go_loop [5] (fun i=>∃k:Nat,k≤n∧i= .int .i64 k∧(T.take k).any (qR id)=false) (fun i=>n-(intOf i).toNat)
 case atStart=>exact⟨0,by omega,rfl,by simp⟩
 case round=>
  obtain⟨k,hk,rfl,hany⟩:=hrel;have HA:=acr hany;clear hany;by_cases hlt:k<n
  ·have hx:T[k]? =some (T[k]'(by have:=HL.o;omega)):=List.getElem?_eq_getElem _;obtain⟨q,hq⟩:∃q,q=T[k]'(by have:=HL.o;omega):=⟨_,rfl⟩;rw[←hq]at hx;have HX:=acr hx;obtain⟨b,off,rfl,hF,hb,hi,hc⟩:=HN.o.wide gK HL.o.symm hx (by omega);have c0:w.cell? ⟨b,off+k*6,none⟩=some (.int .i64 q.1):=hc 0 (by omega);clear hx hq hc;have i0:(0:Int)≤k:=by omega
   have i1:(k:Int)<n:=by omega
   by_cases hp:q.1=id
   ·have hpp:(q.1==id)=true:=by simpa using hp
    have HP:acs (qR id q=true):=by show qR id q=true;simp[qR,hp]
    clear hp;go_wp2;go_ret;exact⟨fI (zR HA.o HX.o HP.o).symm,rfl⟩
   ·have hpp:(q.1==id)=false:=by simpa using hp
    have HP:acs (qR id q=false):=by show qR id q=false;simp[qR,hp]
    clear hp;go_wp2
    go_round
    case rel=>exact⟨k+1,by omega,by go_num,any_take_succ HA.o HX.o HP.o⟩
    case measure=>simp[intOf];omega
  ·go_wp2;go_ret;exact⟨fI (pJ (by have:=HA.o;rwa [List.take_of_length_le (by have:=HL.o;omega)]at this)).symm,rfl⟩
end
theorem DJ{T:aA}{id:Int}(h:aj id T=none):rG (qR id) T= -1:=by
 refine pJ ?_;rw[List.any_eq_false];intro q hq;have:=iP.1 h q hq;simpa[qR]using this
theorem lC{T:aA}(hs:aI iA T){id:Int}{x:bJ}(h:aj id T=some x):∃k:Nat,rG (qR id) T=k∧T[k]? =some (id,x):=by
 cases hf:T.findIdx? (qR id)with
 |none=>
  rw[abb]at hf;have:=hf _ (bM h);simp[qR]at this
 |some k=>
  refine⟨k,by simp[rG,hf],?_⟩;rw[aa6]at hf;obtain⟨hk,hp,_⟩:=hf;have h1:T[k]? =some T[k]:=List.getElem?_eq_getElem hk;have h2:T[k].1=id:=by simpa[qR]using hp
  have h3:=aS bY hs (abQ hk);rw[h2,h]at h3;rw[h1];congr 1;exact aaE h2 (aaH h3).symm
def iR(d:Int)(n:Nm)(e:jT):Bool:=decide (e.1=d∧e.2.1=n)
section
variable{F:Nat→Prop}{r:Nat}{T:aA}{D:List (List UInt8)}{E:List jT}
theorem gX.node{w:World}(h:gX F w r T D E){k:Nat}{q:Int×bJ}(hq:T[k]? =some q):∃b off c,w.cell? ⟨r,0,none⟩=some (.slice (some ⟨b,off,none⟩) T.length c)∧Off F r b∧b<w.heap.size∧k<T.length∧w.cell? ⟨b,off+k*6,none⟩=some (.int .i64 q.1)∧w.cell? ⟨b,off+k*6+1,none⟩=some (.int .i64 q.2.kind)∧w.cell? ⟨b,off+k*6+2,none⟩=some (.int .i64 q.2.links)∧w.cell? ⟨b,off+k*6+3,none⟩=some (.int .i64 q.2.b.length)∧w.cell? ⟨b,off+k*6+4,none⟩=some (.int .u64 q.2.aF)∧w.cell? ⟨b,off+k*6+5,none⟩=some (.bool q.2.closed):=by
 obtain⟨aN,cN,aD,cD,aE,cE,h1,-,-,-,hN,-,-,-⟩:=h.head;obtain⟨b,off,rfl,hF,hb,hi,hc⟩:=hN.wide gK rfl hq (by omega);exact⟨b,off,cN,by simp[World.cell?,h1],hF,hb,hi,hc 0 (by omega),hc 1 (by omega),hc 2 (by omega),hc 3 (by omega),hc 4 (by omega),hc 5 (by omega)⟩
theorem gX.data{w:World}(h:gX F w r T D E){k:Nat}{d:List UInt8}(hq:D[k]? =some d):∃b off c a c',w.cell? ⟨r,1,none⟩=some (.slice (some ⟨b,off,none⟩) D.length c)∧Off F r b∧b<w.heap.size∧w.cell? ⟨b,off+k,none⟩=some (.slice a d.length c')∧ny d.length c'∧ah (Off F r) w a d.length (d.map bv):=by
 obtain⟨aN,cN,aD,cD,aE,cE,h1,-,-,-,-,hD,-,-⟩:=h.head;obtain⟨vs,hv,hrow⟩:=hD;have hk:k<D.length:=(aac.1 hq).1;obtain⟨b,off,rfl,hF,hb,hc⟩:=hv.at_ (by omega);obtain⟨a,c',h3,h4,h5⟩:=hrow k d hq;exact⟨b,off,cD,a,c',by simp[World.cell?,h1],hF,hb,by rw[hc k hk];exact h3,h4,h5⟩
theorem gX.ent{w:World}(h:gX F w r T D E):∃a c,w.cell? ⟨r,2,none⟩=some (.slice a E.length c)∧E.length≤c∧ah (Off F r) w a (E.length*3) (E.flatMap fH)∧Base a c:=by
 obtain⟨aN,cN,aD,cD,aE,cE,h1,-,-,h4,-,-,hE,hz⟩:=h.head;exact⟨aE,cE,by simp[World.cell?,h1],h4,hE,hz⟩
theorem gX.nodes{w:World}(h:gX F w r T D E):∃a c,w.cell? ⟨r,0,none⟩=some (.slice a T.length c)∧T.length≤c:=by
 obtain⟨aN,cN,aD,cD,aE,cE,h1,h4,-,-,-,-,-,-⟩:=h.head;exact⟨aN,cN,by simp[World.cell?,h1],h4⟩
theorem mg(id:Int)(w:World)(h:gX F w r T D E)(hT:wP T):Calls Tryz.prog 104 #[ptr r,.int .i64 id] w fun e w'=>e= .returned (.tuple #[jN T id,.bool (aj id T).isSome])∧Below w.heap.size w w':=by
 have hlen:=hT.len;have HR:=acr (fun o=>zn id (w.alloc o) (h.below (wall w o) acu) hlen);have hr0:=h.low r h.own;unfold jN;cases hx:aj id T with
 |none=>
  rw[DJ hx]at HR;clear h hx hT;go_enter Tryz.func104,Tryz.ntmps104;go_wp2_with fail;refine(HR.o _).mono ?_;rintro e w1 ⟨rfl,rfl⟩;go_wp2_with fail;exact aaB (v:= .tuple #[.agg #[.int .i64 0,.int .i64 0,.int .i64 0,.int .i64 0,.int .u64 0,.bool false],.bool false]) (by simp[results,Tryz.results104,go_sem]) rfl ⟨rfl,wall w _⟩
 |some x=>
  obtain⟨k,hk,hq⟩:=lC hT.sorted hx;rw[hk]at HR;obtain⟨b,off,c,hc0,hF,hb,hkl,c0,c1,c2,c3,c4,c5⟩:=h.node hq;have i0:(0:Int)≤k:=by omega
  have i1:(k:Int)<T.length:=by omega
  have i2:¬(k:Int)<0:=by omega
  simp only at c0 c1 c2 c3 c4 c5;clear h hx hk hq hT;unfold kE;go_enter Tryz.func104,Tryz.ntmps104;go_wp2_with fail;refine(HR.o _).mono ?_;rintro e w1 ⟨rfl,rfl⟩;go_wp2_with fail;exact aaB (v:= .tuple #[.agg #[.int .i64 id,.int .i64 x.kind,.int .i64 x.links,.int .i64 x.b.length,.int .u64 x.aF,.bool x.closed],.bool true]) (by simp[results,Tryz.results104,go_sem]) rfl ⟨rfl,wall w _⟩
theorem kH(d:Int)(nm:Nm)(w:World)(h:gX F w r T D E)(hl:E.length≤1000000):Calls Tryz.prog 112 #[ptr r,.int .i64 d,.string (strOf nm)] w fun e w'=>e= .returned (.int .i64 (rG (iR d nm) E))∧w=w':=by
 obtain⟨aE,cE,hc0,-,hE,-⟩:=h.ent;have hr0:=h.low r h.own;have HN:=acr hE;obtain⟨n,hn⟩:∃n,n=E.length:=⟨_,rfl⟩;rw[←hn]at hc0 hl HN;have HL:=acr hn;clear h hE hn;go_enter Tryz.func112,Tryz.ntmps112;go_wp2
 go_loop [7] (fun i=>∃k:Nat,k≤n∧i= .int .i64 k∧(E.take k).any (iR d nm)=false) (fun i=>n-(intOf i).toNat)
 case atStart=>exact⟨0,by omega,rfl,by simp⟩
 case round=>
  obtain⟨k,hk,rfl,hany⟩:=hrel;have HA:=acr hany;clear hany;by_cases hlt:k<n
  ·have hx:E[k]? =some (E[k]'(by have:=HL.o;omega)):=List.getElem?_eq_getElem _;obtain⟨q,hq⟩:∃q,q=E[k]'(by have:=HL.o;omega):=⟨_,rfl⟩;rw[←hq]at hx;have HX:=acr hx;obtain⟨b,off,rfl,hF,hb,hi,hc⟩:=HN.o.wide jI HL.o.symm hx (by omega);have c0:w.cell? ⟨b,off+k*3,none⟩=some (.int .i64 q.1):=hc 0 (by omega);have c1:w.cell? ⟨b,off+k*3+1,none⟩=some (.string (strOf q.2.1)):=hc 1 (by omega);clear hx hq hc;have i0:(0:Int)≤k:=by omega
   have i1:(k:Int)<n:=by omega
   by_cases hp:q.1=d
   ·have hpp:(q.1==d)=true:=by simpa using hp
    by_cases hp2:q.2.1=nm
    ·have HP:acs (iR d nm q=true):=by show iR d nm q=true;simp[iR,hp,hp2]
     rw[hp2]at c1;clear hp hp2;go_wp2;go_ret;exact⟨fI (zR HA.o HX.o HP.o).symm,rfl⟩
    ·have HP:acs (iR d nm q=false):=by show iR d nm q=false;simp[iR,hp,hp2]
     obtain⟨hs1,hs2⟩:=IZ hp2;clear hp hp2;go_wp2
     go_round
     case rel=>exact⟨k+1,by omega,by go_num,any_take_succ HA.o HX.o HP.o⟩
     case measure=>simp[intOf];omega
   ·have hpp:(q.1==d)=false:=by simpa using hp
    have HP:acs (iR d nm q=false):=by show iR d nm q=false;simp[iR,hp]
    clear hp;go_wp2
    go_round
    case rel=>exact⟨k+1,by omega,by go_num,any_take_succ HA.o HX.o HP.o⟩
    case measure=>simp[intOf];omega
  ·go_wp2;go_ret;exact⟨fI (pJ (by have:=HA.o;rwa [List.take_of_length_le (by have:=HL.o;omega)]at this)).symm,rfl⟩
end
theorem Fq{α:Type}{l l':List α}{k:Nat}{x y:α}(hx:l[k]? =some x)(hy:l'[k]? =some y)(h:x≠y):l≠l':=by
 intro e;rw[e,hy]at hx;exact h (aaH hx).symm
theorem Hz{α:Type}{l l':List α}{k:Nat}{x:α}(h:l.take k=l'.take k)(hx:l[k]? =some x)(hy:l'[k]? =some x):l.take (k+1)=l'.take (k+1):=by
 rw[abK,abK,h,hx,hy]
theorem QM{x y:ByteArray}(h:x≠y):(x.toList==y.toList)=false:=by
 rw[aa1,abm,abm];intro e;exact h (WideShapes.bytes_inj e)
theorem JU(s:ByteArray)(k:Nat)(h:k<s.size):s[k]=s.data.toList.getD k 0:=by
 have h2:k<s.data.toList.length:=by simpa using h
 simp only[List.getD,List.getElem?_eq_getElem h2,Option.getD_some];rfl
theorem Ap(s:ByteArray)(w:World)(hs:s.size≤maxLen):
  Calls Tryz.prog 99 #[.string s] w fun e w'=>e= .returned (.bool (bT s.data.toList))∧Below w.heap.size w w':=by
 unfold maxLen at hs;have hb:=Below.refl w.heap.size w;go_enter Tryz.func99,Tryz.ntmps99;go_wp2
 go_loop [3] (fun i=>∃k:Nat,k≤s.size∧i= .int .i64 k∧(s.data.toList.take k).all jh=true) (fun i=>s.size-(intOf i).toNat)
 case atStart=>exact⟨0,by omega,rfl,rfl⟩
 case round=>
  obtain⟨k,hk,rfl,ha⟩:=hrel;have HA:=acr ha;clear ha;by_cases hlt:k<s.size
  ·obtain⟨c,hcc⟩:∃c,c=s.data.toList.getD k 0:=⟨_,rfl⟩;have hix:=JU s k hlt;rw[←hcc]at hix;have hsn:=I4 jh s.data.toList k (by simpa using hlt);rw[←hcc]at hsn;have HS:=acr hsn;have HG:acs (jh c=false→bT s.data.toList=false):=fun h=>by
    have:=I5 jh s.data.toList k (by simpa using hlt);rw[←hcc]at this;simp[bT,this h]
   clear hsn hcc;have hbd:=N7 c;rcases NZ c with⟨ho,h1,h2⟩|⟨ho,h1,h2,h3⟩|⟨ho,h1⟩|⟨ho,h1⟩|⟨ho,h1⟩|⟨ho,h1,h2,h3,h4,h5,h6⟩|⟨ho,h1,h2,h3,h4,h5,h6⟩|⟨ho,h1,h2,h3,h4,h5⟩
   iterate 5
    ·have HO:=acr ho;clear ho HG;go_wp2
     go_round
     case rel=>exact⟨k+1,by omega,by go_num,by rw[HS.o,HA.o,HO.o];rfl⟩
     case measure=>simp[intOf];omega
   iterate 3
    ·have HO:=acr ho;clear ho;go_wp2;go_ret;exact⟨kV (HG.o HO.o).symm,hb⟩
  ·have hk':k=s.size:=by omega
   have HA2:s.data.toList.all jh=true:=by
    have:=HA.o;rw[hk',List.take_of_length_le (by simp)]at this;exact this
   have hl:s.data.toList.length=s.size:=by simp
   have he:=abm s
   have ways:(s.toList=[]∧s.toList.isEmpty=true∧bT s.data.toList=false)∨
     (¬s.toList=[]∧s.toList.isEmpty=false∧16<s.size∧bT s.data.toList=false)∨
     (¬s.toList=[]∧s.toList.isEmpty=false∧s.size≤16∧s.toList=[46]∧(s.toList==[46])=true∧bT s.data.toList=false)∨
     (¬s.toList=[]∧s.toList.isEmpty=false∧s.size≤16∧¬s.toList=[46]∧(s.toList==[46])=false∧s.toList=[46,46]∧(s.toList==[46,46])=true∧bT s.data.toList=false)∨
     (¬s.toList=[]∧s.toList.isEmpty=false∧s.size≤16∧¬s.toList=[46]∧(s.toList==[46])=false∧¬s.toList=[46,46]∧(s.toList==[46,46])=false∧bT s.data.toList=true):=by
    rw[he];generalize s.data.toList=l at HA2 hl;rw[←hl];exact Fy l HA2
   have hz1:acs (s.toList=[]→s.size<1):=fun h=>by rw[he]at h;rw[h]at hl;simp at hl;omega
   have hz2:acs (¬s.toList=[]→1≤s.size):=fun h=>by
    rw[he]at h;have:=List.length_pos_iff.2 h;omega
   clear HA2 hl he HA hk';rcases ways with⟨h1,h2,hg⟩|⟨h1,h2,h3,hg⟩|⟨h1,h2,h3,h4,h5,hg⟩|⟨h1,h2,h3,h4,h5,h6,h7,hg⟩|⟨h1,h2,h3,h4,h5,h6,h7,hg⟩
   ·have hz:=hz1.o h1;have HG:=acr hg;clear hg;go_wp2;go_ret;exact⟨kV HG.o.symm,hb⟩
   all_goals
    have hz:=hz2.o h1;have HG:=acr hg;clear hg;go_wp2;go_ret;exact⟨kV HG.o.symm,hb⟩
theorem JV{S S':Nat→Prop}(a a':Option Addr)(len cap len' cap':Nat)(ss ss':List ByteArray)(w:World)(h:aT S w a len ss)(h':aT S' w a' len' ss'):
  Calls Tryz.prog 117 #[.slice a len cap,.slice a' len' cap'] w fun e w'=>e= .returned (.bool (sZ ss ss'))∧Below w.heap.size w w':=by
 have hl:=h.length;have hl':=h'.length;have hm:=h.row.small;have hm':=h'.row.small;unfold maxLen at hm hm';by_cases hle:len'≤len
 ·have HL:=acr hl;have HL':=acr hl';clear hl hl';go_enter Tryz.func117,Tryz.ntmps117;go_wp2
  go_loopw [5] (fun i wr=>∃k:Nat,k≤len'∧i= .int .i64 k∧ss.take k=ss'.take k∧Below w.heap.size w wr) (fun i _=>len'-(intOf i).toNat)
  case atStart=>exact⟨0,by omega,rfl,rfl,Below.refl _ _⟩
  case round=>
   obtain⟨k,hk,rfl,ht,hb⟩:=hrel;have HT:=acr ht;clear ht;by_cases hlt:k<len'
   ·obtain⟨b,off,x,rfl,_,_,hx,_,hc⟩:=(h.below hb acu).cell k (by omega);obtain⟨b',off',y,rfl,_,_,hy,_,hc'⟩:=(h'.below hb acu).cell k hlt;have HX:=acr hx;have HY:=acr hy;clear hx hy h h';have hk0:(0:Int)≤(k:Int):=by omega
    have hk1:(k:Int)<(len:Int):=by omega
    have hk2:(k:Int)<(len':Int):=by omega
    by_cases hxy:x=y
    ·subst hxy;go_wp2
     go_quiet (fail)
     go_wp2;go_roundw
     case rel=>exact⟨k+1,by omega,by go_num,Hz HT.o HX.o HY.o,hb.trans ⟨rfl,rfl,rfl,Nat.le_refl _,fun _ _=>rfl⟩⟩
     case measure=>simp[intOf];omega
    ·have hxl:=QM hxy;have HN:=acr hxy;clear hxy;go_wp2
     go_quiet (fail)
     go_wp2;go_ret;refine⟨kV ?_,hb.trans ⟨rfl,rfl,rfl,Nat.le_refl _,fun _ _=>rfl⟩⟩
     symm
     unfold sZ;rw[aa8];refine Fq (k:=k) ?_ HY.o HN.o;rw[aaD,if_pos (by have:=HL'.o;omega)];exact HX.o
   ·have hk':k=len':=by omega
    have HK:=acr hk';clear hk';go_wp2;go_ret;refine⟨kV ?_,hb⟩;have:=HT.o;rw[HK.o]at this;unfold sZ;rw[HL'.o,this,List.take_of_length_le (by have:=HL'.o;omega)];simp
 ·have hp:sZ ss ss'=false:=by
   unfold sZ;rw[aa8];intro hh;have:=aaF List.length hh;simp at this;omega
  have HP:=acr hp;clear hp hl hl';go_enter Tryz.func117,Tryz.ntmps117;go_wp2;go_ret;exact⟨kV HP.o.symm,Below.refl _ _⟩
theorem lD{T:aA}(hs:aI iA T){e:jT}:e∈aW T↔∃x,aj e.1 T=some x∧e.2∈x.names:=by
 unfold aW;rw[List.mem_flatMap];constructor
 ·rintro ⟨q,hq,he⟩;obtain⟨y,hy,rfl⟩:=List.mem_map.1 he;exact⟨q.2,aS bY hs hq,hy⟩
 ·rintro ⟨x,hx,he⟩;exact⟨(e.1,x),bM hx,List.mem_map.2 ⟨e.2,he,rfl⟩⟩
theorem vI{T:aA}(hs:aI iA T){id:Int}{x:bJ}{nm:Nm}(hx:aj id T=some x)(hn:aj nm x.names=none):rG (iR id nm) (aW T)= -1:=by
 refine pJ ?_;rw[List.any_eq_false];intro e he h;obtain⟨y,hy,hm⟩:=(lD hs).1 he;simp only[iR,aah]at h;rw[h.1,hx]at hy;cases hy;exact iP.1 hn _ hm h.2
theorem sD{T:aA}(hT:wP T){id j:Int}{x:bJ}{nm:Nm}(hx:aj id T=some x)(hn:aj nm x.names=some j):∃k:Nat,rG (iR id nm) (aW T)=k∧(aW T)[k]? =some (id,nm,j):=by
 have hmem:((id,nm,j):jT)∈aW T:=(lD hT.sorted).2 ⟨x,hx,bM hn⟩;cases hf:(aW T).findIdx? (iR id nm)with
 |none=>
  rw[abb]at hf;have:=hf _ hmem;simp[iR]at this
 |some k=>
  refine⟨k,by simp[rG,hf],?_⟩;rw[aa6]at hf;obtain⟨hk,hp,_⟩:=hf;have h1:(aW T)[k]? =some (aW T)[k]:=List.getElem?_eq_getElem hk;obtain⟨e,he⟩:∃e,e=(aW T)[k]:=⟨_,rfl⟩;have hm:=abQ hk;rw[←he]at h1 hp hm;simp only[iR,aah]at hp;obtain⟨y,hy,hm2⟩:=(lD hT.sorted).1 hm;rw[hp.1,hx]at hy;cases hy;have h3:=aS uO (hT.each id x hx).sorted hm2;rw[hp.2,hn]at h3;rw[h1];congr 1;exact aaE hp.1 (aaE hp.2 (aaH h3).symm)
theorem DK{S:Nat→Prop}{w:World}{a:Option Addr}{n:Nat}{ls:List Nm}(h:aT S w a n (ls.map strOf))(k:Nat)(hk:k<n):∃b off nm,a=some ⟨b,off,none⟩∧S b∧b<w.heap.size∧ls[k]? =some nm∧nm.length≤maxLen∧w.cell? ⟨b,off+k,none⟩=some (.string (strOf nm)):=by
 obtain⟨b,off,s,e,hS,hb,hs,hsz,hc⟩:=h.cell k hk;rw[List.getElem?_map]at hs;cases hq:ls[k]? with
 |none=>rw[hq]at hs;cases hs
 |some nm=>
  rw[hq]at hs;have:strOf nm=s:=by simpa using hs
  subst this;rw[fK]at hsz;exact⟨b,off,nm,e,hS,hb,rfl,hsz,hc⟩
theorem QN{ls:List Nm}(h:ls.any (fun x=> !bT x)=true):bH ls=12:=by unfold bH;rw[if_pos h]
theorem UC{ls:List Nm}(h:ls.any (fun x=> !bT x)=false):bH ls=if 8<ls.length then 3 else 0:=by unfold bH;rw[if_neg (by rw[h];decide)]
theorem tN{S:Nat→Prop}(a:Option Addr)(n c:Nat)(ls:List Nm)(w:World)(hS:aT S w a n (ls.map strOf)):
  Calls Tryz.prog 173 #[.slice a n c] w fun e w'=>e= .returned (.int .i64 (bH ls))∧Below w.heap.size w w':=by
 have hln:ls.length=n:=by have:=hS.length;simpa using this
 have hnm:=hS.row.small;unfold maxLen at hnm;have HS:=acr (fun w1 (hb:Below w.heap.size w w1)=>hS.below hb acu);have HL:=acr hln;clear hS hln;go_enter Tryz.func173,Tryz.ntmps173;go_wp2
 go_loopw [3] (fun i wr=>∃k:Nat,k≤n∧i= .int .i64 k∧(ls.take k).any (fun x=> !bT x)=false∧Below w.heap.size w wr) (fun i _=>n-(intOf i).toNat)
 case atStart=>exact⟨0,by omega,rfl,by simp,Below.refl _ _⟩
 case round=>
  obtain⟨k,hk,rfl,hany,hB⟩:=hrel;have HA:=acr hany;have HB:=acr hB;clear hany hB;by_cases hlt:k<n
  ·obtain⟨b,off,nm,rfl,_,hbw,hx,hsz,hc⟩:=DK (HS.o wr HB.o) k hlt;have HX:=acr hx;have HG:=acr (Ap (strOf nm) wr (by rw[fK];exact hsz));have e0:(strOf nm).data.toList=nm:=by simp[strOf]
   rw[e0]at HG;clear hx hsz e0;have i0:(0:Int)≤k:=by omega
   have i1:(k:Int)<n:=by omega
   cases hp:bT nm with
   |true=>
    rw[hp]at HG;have HP:acs ((fun x:Nm=> !bT x) nm=false):=by show(!bT nm)=false;rw[hp];rfl
    clear hp;go_wp2_with fail;refine HG.o.mono ?_;rintro e w1 ⟨rfl,hb1⟩;go_wp2_with fail;go_roundw
    case rel=>exact⟨k+1,by omega,by go_num,any_take_succ HA.o HX.o HP.o,HB.o.trans (hb1.mono HB.o.size)⟩
    case measure=>simp[intOf];omega
   |false=>
    rw[hp]at HG;have HP:acs (ls.any (fun x=> !bT x)=true):=by
     show ls.any _=true;rw[List.any_eq_true];exact⟨nm,aat HX.o,by rw[hp];rfl⟩
    clear hp;go_wp2_with fail;refine HG.o.mono ?_;rintro e w1 ⟨rfl,hb1⟩;go_wp2_with fail;go_ret;exact⟨fI (QN HP.o).symm,HB.o.trans (hb1.mono HB.o.size)⟩
  ·have HF:acs (bH ls=if 8<n then 3 else 0):=by
    have:=HA.o;rw[List.take_of_length_le (by have:=HL.o;omega)]at this;have h2:=UC this;rw[HL.o]at h2;exact h2
   by_cases h8:8<n
   ·have hd:decide ((8:Int)<(n:Int))=true:=by simp only[aah];omega
    rw[if_pos h8]at HF;clear h8;go_wp2;go_ret;exact⟨fI HF.o.symm,HB.o⟩
   ·have hd:decide ((8:Int)<(n:Int))=false:=by simp only[aa8];omega
    rw[if_neg h8]at HF;clear h8;go_wp2;go_ret;exact⟨fI HF.o.symm,HB.o⟩
section
variable{F:Nat→Prop}{r:Nat}{T:aA}
theorem wG{S:Nat→Prop}(a:Option Addr)(n c:Nat)(ls:List Nm)(w:World)(h:jC F w r T)(hT:dZ T)(hE:(aW T).length≤1000000)(hS:aT S w a n (ls.map strOf)):
  Calls Tryz.prog 110 #[ptr r,.slice a n c] w fun e w'=>e= .returned (.tuple #[.int .i64 (aG T 0 ls).1,.int .i64 (aG T 0 ls).2])∧Below w.heap.size w w':=by
 have hln:ls.length=n:=by have:=hS.length;simpa using this
 have hnm:=hS.row.small;unfold maxLen at hnm;have HS:=acr (fun w1 (hb:Below w.heap.size w w1)=>hS.below hb acu);have HH:=acr (fun w1 (hb:Below w.heap.size w w1)=>h.below hb acu);have hr0:=h.low r h.own;have HT:=acr hT;have HL:=acr hln;have HE:=acr hE;clear hS hln h hT hE;go_enter Tryz.func110,Tryz.ntmps110;go_wp2
 go_loopw [6,7] (fun s i wr=>∃(k:Nat) (id:Int),k≤n∧i= .int .i64 k∧s= .int .i64 id∧(aj id T).isSome=true∧aG T id (ls.drop k)=aG T 0 ls∧Below w.heap.size w wr) (fun _ i _=>n-(intOf i).toNat)
 case atStart=>exact⟨0,0,by omega,rfl,rfl,fD HT.o,by simp,Below.refl _ _⟩
 case round=>
  obtain⟨k,id,hk,rfl,rfl,hid,hlk,hB⟩:=hrel;obtain⟨x,hx⟩:=aaf.1 hid;have qP:=acr hlk;have HX:=acr hx;have HB:=acr hB;have HSZ:=acr hB.size;clear hlk hid hx hB;by_cases hlt:k<n
  ·obtain⟨b,off,nm,rfl,_,hbw,hn,hsz,hc⟩:=DK (HS.o wr HB.o) k hlt;have HN:=acr hn;have wu:=acr (mg id wr (HH.o wr HB.o) HT.o.towP);have hnd:jN T id=kE id x:=by unfold jN;rw[HX.o]
   rw[hnd]at wu;unfold kE at wu;have i0:(0:Int)≤k:=by omega
   have i1:(k:Int)<n:=by omega
   clear hn hnd hsz;by_cases hk2:x.kind=2
   ·rw[hk2]at wu;cases hj:aj nm x.names with
    |none=>
     have hfin:=acr (CZ HX.o hk2 HN.o hj);have Md:=acr (fun w1 (hb:Below w.heap.size w w1)=>kH id nm w1 (HH.o w1 hb) HE.o);rw[vI HT.o.sorted HX.o hj]at Md;clear hj hk2;go_wp2_with fail;refine wu.o.mono ?_;rintro e w1 ⟨rfl,hb1⟩;have HB1:=acr (HB.o.trans (hb1.mono HB.o.size));have hcb:b<w1.heap.size:=Nat.lt_of_lt_of_le hbw hb1.size;have hc1:w1.cell? ⟨b,off+k,none⟩=some (.string (strOf nm)):=by rw[hb1.cell (p:=⟨b,off+k,none⟩) hbw];exact hc
     have hr1:r<w1.heap.size:=Nat.lt_of_lt_of_le hr0 HB1.o.size;clear hb1;go_wp2_with fail;refine(Md.o _ (HB1.o.trans ((wall w1 _).mono HB1.o.size))).mono ?_;rintro e w2 ⟨rfl,rfl⟩;go_wp2_with fail
     go_ret2
     exact⟨rV (by rw[←qP.o,hfin.o]),HB1.o.trans ((wall w1 _).mono HB1.o.size)⟩
    |some j=>
     have hfin:=acr (CX HX.o hk2 HN.o hj);have HJ:=acr ((HT.o.leads id x HX.o _ (bM hj)).1);have Md:=acr (fun w1 (hb:Below w.heap.size w w1)=>kH id nm w1 (HH.o w1 hb) HE.o);obtain⟨m,hm1,hm2⟩:=sD HT.o.towP HX.o hj;rw[hm1]at Md;have zO:=acr hm2;clear hj hk2 hm1 hm2;go_wp2_with fail;refine wu.o.mono ?_;rintro e w1 ⟨rfl,hb1⟩;have HB1:=acr (HB.o.trans (hb1.mono HB.o.size));have hcb:b<w1.heap.size:=Nat.lt_of_lt_of_le hbw hb1.size;have hc1:w1.cell? ⟨b,off+k,none⟩=some (.string (strOf nm)):=by rw[hb1.cell (p:=⟨b,off+k,none⟩) hbw];exact hc
     have hr1:r<w1.heap.size:=Nat.lt_of_lt_of_le hr0 HB1.o.size;obtain⟨aE,cE,q2,-,hrow,-⟩:=(HH.o w1 HB1.o).ent;obtain⟨b2,off2,rfl,-,hb2,hml,hc2⟩:=hrow.wide jI rfl zO.o (by omega);have q3:w1.cell? ⟨b2,off2+m*3+2,none⟩=some (.int .i64 j):=hc2 2 (by omega);have m0:(0:Int)≤m:=by omega
     have m1:(m:Int)<(aW T).length:=by omega
     have m2:¬(m:Int)<0:=by omega
     clear hb1 hrow hc2;go_wp2_with fail;refine(Md.o _ (HB1.o.trans ((wall w1 _).mono HB1.o.size))).mono ?_;rintro e w2 ⟨rfl,rfl⟩;go_wp2_with fail;go_roundw
     case rel=>exact⟨k+1,j,by omega,by go_num,rfl,HJ.o,by rw[←hfin.o];exact qP.o,HB1.o.trans ((wall w1 _).mono HB1.o.size)⟩
     case measure=>simp[intOf];omega
   ·have e1:(x.kind==2)=false:=by simpa using hk2
    have e2:(x.kind !=2)=true:=by simpa using hk2
    have hfin:=acr (CY HX.o hk2 HN.o);clear hk2;go_wp2_with fail;refine wu.o.mono ?_;rintro e w1 ⟨rfl,hb1⟩;have HB1:=acr (HB.o.trans (hb1.mono HB.o.size));clear hb1;go_wp2_with fail
    go_ret2
    exact⟨rV (by rw[←qP.o,hfin.o]),HB1.o.trans ((wall w1 _).mono HB1.o.size)⟩
  ·go_wp2
   go_ret2
   exact⟨rV (by rw[←qP.o,aaC (by have:=HL.o;omega)];rfl),HB.o⟩
end
end Go.Proofs.YtjnhnlabpccgjaaGreatDoor
