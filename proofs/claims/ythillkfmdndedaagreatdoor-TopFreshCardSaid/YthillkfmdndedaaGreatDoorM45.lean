/- package -/
import Derived.Test.YthillkfmdndedaaGreatDoorM42
set_option maxRecDepth 100000
set_option maxHeartbeats 64000000
set_option linter.all false
namespace Go.Proofs.YthillkfmdndedaaGreatDoor
open Go.ChangeShapes Go.WideShapes Go.ChangeAt Go.RowKit
structure mF(x:iI):Prop where
 kind:(Lit.int .i64 x.kind).wf=true
 path:x.path.length<=200
 bT:x.bT.length<=200
 data:x.data.length<=600
 fd:0<=x.fd/\x.fd<=65535
 at_:0<=x.at_/\x.at_<=65535
 n:0<=x.n/\x.n<=65535
 snap:0<=x.snap/\x.snap<=65535
 aL:0<=x.aL/\x.aL<=18446744073709551615
theorem fit_ok{x:iI}(h:mF x):wM x:=by
 have y:=h.fd;have C:=h.at_;have u:=h.n;have A:=h.snap;have z:=h.path;have m:=h.bT;have B:=h.data;exact⟨h.kind,gG (by omega) (by omega),gG (by omega) (by omega),gG (by omega) (by omega),gG (by omega) (by omega),h.aL,by omega,by omega,by omega⟩
theorem zw{w:World}{b:Nat}{x:iI}{m:Mx}{u:Nat}(h:w.heap[b]? =some (.cells (opC x m u) 32 (0,0))):w.cell? ⟨b,0,none⟩=some (.int .i64 x.kind)/\w.cell? ⟨b,1,none⟩=some (.string (strOf x.path))/\w.cell? ⟨b,2,none⟩=some (.string (strOf x.bT))/\w.cell? ⟨b,3,none⟩=some (.int .i64 x.fd)/\w.cell? ⟨b,4,none⟩=some (.int .i64 x.at_)/\w.cell? ⟨b,5,none⟩=some (.int .i64 x.n)/\w.cell? ⟨b,6,none⟩=some (.int .u64 x.aL)/\w.cell? ⟨b,7,none⟩=some (.int .i64 x.snap)/\w.cell? ⟨b,8,none⟩=some (.slice m x.data.length u):=by
 refine⟨?_,?_,?_,?_,?_,?_,?_,?_,?_⟩<;>simp[World.cell?,h,opC]
theorem F3{w:World}{b:Nat}{p t f r u s d:Bool}(h:w.heap[b]? =some (.cells (uF p t f r u s d) 132 (0,0))):w.cell? ⟨b,0,none⟩=some (.bool p)/\w.cell? ⟨b,1,none⟩=some (.bool t)/\w.cell? ⟨b,2,none⟩=some (.bool f)/\w.cell? ⟨b,3,none⟩=some (.bool r)/\w.cell? ⟨b,4,none⟩=some (.bool u)/\w.cell? ⟨b,5,none⟩=some (.bool s)/\w.cell? ⟨b,6,none⟩=some (.bool d):=by
 refine⟨?_,?_,?_,?_,?_,?_,?_⟩<;>simp[World.cell?,h,uF]
def Ct:List (Int×(Bool×Bool×Bool×Bool×Bool×Bool×Bool)):=[(1,true,false,false,false,false,false,false),(2,true,false,false,false,false,false,false),(3,true,false,false,false,false,true,false),(5,false,false,true,false,false,false,true),(6,false,false,true,false,true,false,false),(7,true,true,false,false,false,false,false),(8,true,false,false,false,false,false,false),(9,true,false,false,false,false,false,false),(10,true,true,false,false,false,false,false),(13,true,false,false,false,true,false,false),(14,false,false,false,false,false,false,false),(15,false,false,false,false,false,true,false),(16,false,false,false,false,true,false,false)]
theorem Ze(k:Int)(p t f r u s d:Bool)(h:(k,p,t,f,r,u,s,d)∈Ct)(w:World):Dy 71 #[.int .i64 k] w λ e w'=>e= .returned (.tuple #[.agg (uF p t f r u s d),.bool true])/\Below w.heap.size w w':=by
 obtain⟨C,m⟩:∃C,C=w.alloc (.cells (uF false false false false false false false) 132):=⟨_,rfl⟩;have B:Below w.heap.size w C:=by rw[m];exact wall w _
 have z:C.heap[w.heap.size]? =some (.cells (uF false false false false false false false) 132 (0,0)):=by rw[m];exact(MapKept.heap_alloc w _).1
 have F:=acp B;have I:=acp z;unfold uF at m;have E:=acp m;clear m B z;obtain⟨A,D⟩:∃A,A=uF p t f r u s d:=⟨_,rfl⟩;have y:=acp D;rw[<-D];clear D;simp only[Ct,List.mem_cons,Prod.mk.injEq,aaX,abM]at h;rcases h with⟨rfl,rfl,rfl,rfl,rfl,rfl,rfl,rfl⟩|⟨rfl,rfl,rfl,rfl,rfl,rfl,rfl,rfl⟩|⟨rfl,rfl,rfl,rfl,rfl,rfl,rfl,rfl⟩|⟨rfl,rfl,rfl,rfl,rfl,rfl,rfl,rfl⟩|⟨rfl,rfl,rfl,rfl,rfl,rfl,rfl,rfl⟩|⟨rfl,rfl,rfl,rfl,rfl,rfl,rfl,rfl⟩|⟨rfl,rfl,rfl,rfl,rfl,rfl,rfl,rfl⟩|⟨rfl,rfl,rfl,rfl,rfl,rfl,rfl,rfl⟩|⟨rfl,rfl,rfl,rfl,rfl,rfl,rfl,rfl⟩|⟨rfl,rfl,rfl,rfl,rfl,rfl,rfl,rfl⟩|⟨rfl,rfl,rfl,rfl,rfl,rfl,rfl,rfl⟩|⟨rfl,rfl,rfl,rfl,rfl,rfl,rfl,rfl⟩|⟨rfl,rfl,rfl,rfl,rfl,rfl,rfl,rfl⟩
 all_goals
  go_enter Tryz.func71,Tryz.ntmps71;go_wp2_with (rw[<-E.o];refine aj (by rfl) 132 _ _ (by rfl) w.heap.size A (by rfl) (by rw[y.o];rfl) _ I.o (by rw[y.o];exact RN) (by rw[y.o];rfl) (by rw[y.o];exact YZ _ _ _ _ _ _ _) ?_;intro J H;have G:=acp H;clear H)
  first
   |(exact RO rfl rfl rfl rfl G.o.1 (by rw[y.o];rfl) ⟨rfl,G.o.below F.o acs⟩)
   |(rw[y.o];exact RO rfl rfl rfl rfl (MapKept.heap_alloc w _).1 rfl ⟨rfl,wall w _⟩)
def Zf:List (Bool×Bool×Bool×Bool×Bool×Bool×Bool):=[(true,false,false,false,false,false,false),(true,false,false,false,false,true,false),(false,false,true,false,false,false,true),(false,false,true,false,true,false,false),(true,true,false,false,false,false,false),(true,false,false,false,true,false,false),(false,false,false,false,false,false,false),(false,false,false,false,false,true,false),(false,false,false,false,true,false,false)]
theorem M7(x:iI)(y:mF x)(p t f r u s d:Bool)(h:(p,t,f,r,u,s,d)∈Zf)(I:Mx)(F:Nat)(w:World):
  Dy 72 #[.agg (opC x I F),.agg (uF p t f r u s d)] w λ e w'=>e= .returned (.int .i64 0)/\Below w.heap.size w w':=by
 obtain⟨D,m⟩:∃D,D=(w.alloc (.cells (opC x I F) 32)).alloc (.cells (uF p t f r u s d) 132):=⟨_,rfl⟩;obtain⟨H,B,C⟩:=jQ _ _ _ _ m;have A:D.heap[w.heap.size+1]? =some (.cells (uF p t f r u s d) 132 (0,0)):=by
  have V:=(MapKept.heap_alloc (w.alloc (.cells (opC x I F) 32)) (.cells (uF p t f r u s d) 132)).1;rw[Pe]at V;rw[m];exact V
 obtain⟨M,N,U,O,P,K,J,R,W⟩:=zw C;obtain⟨a0,Q,X,a3,a4,a5,S⟩:=F3 A;have z:=acp B;have Z:decide (200<(x.path.length:Int))=false:=aad (by have:=y.path;omega);have d2:decide (600<(x.data.length:Int))=false:=aad (by have:=y.data;omega);have d3:decide (200<(x.bT.length:Int))=false:=aad (by have:=y.bT;omega);have e1:=jf x.path;have e2:=jf x.bT;have E:=acp (FX x.fd y.fd.1 y.fd.2 D);have Y:=acp (FX x.snap y.snap.1 y.snap.2 D);unfold opC uF at m⊢;have G:=acp m;rw[m]at M N U O P K J R W a0 Q X a3 a4 a5 S;clear H B C A m;simp only[Zf,List.mem_cons,Prod.mk.injEq,aaX,abM]at h;rcases h with⟨rfl,rfl,rfl,rfl,rfl,rfl,rfl⟩|⟨rfl,rfl,rfl,rfl,rfl,rfl,rfl⟩|⟨rfl,rfl,rfl,rfl,rfl,rfl,rfl⟩|⟨rfl,rfl,rfl,rfl,rfl,rfl,rfl⟩|⟨rfl,rfl,rfl,rfl,rfl,rfl,rfl⟩|⟨rfl,rfl,rfl,rfl,rfl,rfl,rfl⟩|⟨rfl,rfl,rfl,rfl,rfl,rfl,rfl⟩|⟨rfl,rfl,rfl,rfl,rfl,rfl,rfl⟩|⟨rfl,rfl,rfl,rfl,rfl,rfl,rfl⟩
 all_goals
  go_enter Tryz.func72,Tryz.ntmps72;go_wp2_with fail;rw[<-G.o]at M N U O P K J R W a0 Q X a3 a4 a5 S⊢
  first
   |(go_ret;exact⟨rfl,z.o⟩)
   |(refine E.o.mono ?_;rintro e _ ⟨rfl,rfl⟩;go_wp2_with fail;go_ret;exact⟨rfl,z.o⟩)
   |(refine Y.o.mono ?_;rintro e _ ⟨rfl,rfl⟩;go_wp2_with fail;go_ret;exact⟨rfl,z.o⟩)
def opB(x:iI)(p t f r u s d:Bool):List UInt8:=bF x.kind 1++cond p (bF (x.path.length:Int) 2++x.path) []++cond t (bF (x.bT.length:Int) 2++x.bT) []++cond f (bF x.fd 2) []++cond r (bF x.at_ 2++bF x.n 2) []++cond u (bF x.aL 8) []++cond s (bF x.snap 2) []++cond d (bF (x.data.length:Int) 2++x.data) []
theorem Zg{k:Int}{c:Bool×Bool×Bool×Bool×Bool×Bool×Bool}(h:(k,c)∈Ct):c∈Zf:=by
 simp only[Ct,List.mem_cons,Prod.mk.injEq,aaX,abM]at h;rcases h with⟨-,h⟩|⟨-,h⟩|⟨-,h⟩|⟨-,h⟩|⟨-,h⟩|⟨-,h⟩|⟨-,h⟩|⟨-,h⟩|⟨-,h⟩|⟨-,h⟩|⟨-,h⟩|⟨-,h⟩|⟨-,h⟩<;>(obtain rfl:=h;decide)
def Gl(w:World)(u:I8)(m:Nat)(y:World):Prop:=dx w w.heap.size u y/\u.length<=m
theorem Zh{k:Int}{q:Bool×Bool×Bool×Bool×Bool×Bool×Bool}(h:(k,q)∈Ct):0<=k/\k<=17:=by
 simp only[Ct,List.mem_cons,Prod.mk.injEq,aaX,abM]at h;omega
theorem U8{S:Nat->Prop}(x:iI)(hx:mF x)(p t f r u s d:Bool)(hk:(x.kind,p,t,f,r,u,s,d)∈Ct)(da:Mx)(dc:Nat)(w:World)(hr:ah S w da x.data.length (x.data.map bv))(nJ:x.data.length<=dc):Dy 23 #[.agg (opC x da dc)] w (PW w (opB x p t f r u s d)):=by
 have jL:=acp (Ze x.kind p t f r u s d hk);have jc:=acp (λ Y=>M7 x hx p t f r u s d (Zg hk) da dc Y);have dV:=acp (fB hr);have y:=acp hx;have l5:=acp (Zh hk);obtain⟨L1,iM⟩:∃L,L=([]:I8)++bF x.kind 1:=⟨_,rfl⟩;obtain⟨L2,iE⟩:∃L,L=L1++cond p (bF (x.path.length:Int) 2++x.path) []:=⟨_,rfl⟩;obtain⟨L3,jo⟩:∃L,L=L2++cond t (bF (x.bT.length:Int) 2++x.bT) []:=⟨_,rfl⟩;obtain⟨L4,kg⟩:∃L,L=L3++cond f (bF x.fd 2) []:=⟨_,rfl⟩;obtain⟨L5,iN⟩:∃L,L=L4++cond r (bF x.at_ 2++bF x.n 2) []:=⟨_,rfl⟩;obtain⟨L6,iT⟩:∃L,L=L5++cond u (bF x.aL 8) []:=⟨_,rfl⟩;obtain⟨L7,iD⟩:∃L,L=L6++cond s (bF x.snap 2) []:=⟨_,rfl⟩;obtain⟨L8,iO⟩:∃L,L=L7++cond d (bF (x.data.length:Int) 2++x.data) []:=⟨_,rfl⟩;have nP:acr (opB x p t f r u s d=L8):=acp (by rw[iO,iD,iT,iN,kg,jo,iE,iM];rfl);have yO:=acp iM;have lX:=acp iE;have l6:=acp jo;have l7:=acp kg;have I4:=acp iN;have mo:=acp iT;have lN:=acp iD;have lI:=acp iO;obtain⟨w1,aJ⟩:∃w1,w1=w.alloc (.cells (opC x da dc) 32):=⟨_,rfl⟩;have dN:acr (Below w.heap.size w w1):=by rw[aJ];exact wall w _
 have kN:w1.heap[w.heap.size]? =some (.cells (opC x da dc) 32 (0,0)):=by rw[aJ];exact(MapKept.heap_alloc w _).1
 have oC:w.heap.size<w1.heap.size:=(qW.1 kN).1;have HH:=acp (λ(v:World) (Z:Below w1.heap.size w1 v)=>zw ((Z.block w.heap.size oC).trans kN));obtain⟨I,H,Q,O,J,G,N,P,M⟩:=HH.o w1 acu;unfold opC uF at jc;unfold uF at jL;unfold opC at aJ⊢;have mY:=acp aJ;rw[aJ]at I H Q O J G N P M;clear hx hk aJ kN hr iM iE jo kg iN iT iD iO;go_enter Tryz.func23,Tryz.ntmps23;go_wp2_with fail;rw[<-mY.o];refine(jL.o w1).mono ?_;rintro e w2 ⟨rfl,jG⟩;obtain⟨w3,aL⟩:∃w3,w3=w2.alloc (.cells (uF p t f r u s d) 132):=⟨_,rfl⟩;have lC:Below w2.heap.size w2 w3:=by rw[aL];exact wall w2 _
 have jy:w3.heap[w2.heap.size]? =some (.cells (uF p t f r u s d) 132 (0,0)):=by rw[aL];exact(MapKept.heap_alloc w2 _).1
 have ni:w2.heap.size<w3.heap.size:=(qW.1 jy).1;have HA:=acp (λ(v:World) (Z:Below w3.heap.size w3 v)=>F3 ((Z.block w2.heap.size ni).trans jy));have X:=acp (jG.trans (lC.mono jG.size));clear I H Q O J G N P M;obtain⟨I,H,Q,O,J,G,N,P,M⟩:=HH.o w3 X.o;obtain⟨a0,V,W,a3,a4,a5,U⟩:=HA.o w3 acu;unfold uF at aL;rw[aL]at I H Q O J G N P M a0 V W a3 a4 a5 U;have mQ:=acp aL;clear aL jy jG lC jL;go_wp2_with fail;rw[<-mQ.o];refine(jc.o w3).mono ?_;rintro e C ⟨rfl,mq⟩;have dI:=acp mq;clear mq I H Q O J G N P M a0 V W a3 a4 a5 U jc;go_wp2_with fail;refine(fG _).mono ?_;rintro e w5 ⟨rfl,Rp,jv⟩;have YW:=acp (λ(v:World) (Z:Below C.heap.size C v)=>And.intro (HH.o v (X.o.trans ((dI.o.trans (Z.mono dI.o.size)).mono X.o.size))) (HA.o v (dI.o.trans (Z.mono dI.o.size))));have nS:=acp (λ(v:World) (Z:Below C.heap.size C v)=>dV.o.below (dN.o.trans ((X.o.trans ((dI.o.trans (Z.mono dI.o.size)).mono X.o.size)).mono dN.o.size)) acs);have jl:=acp (Nat.le_trans dN.o.size (Nat.le_trans X.o.size dI.o.size));obtain⟨⟨I,H,Q,O,J,G,N,P,M⟩,-⟩:=YW.o w5 jv;have xS:=acp Rp;have dK:=acp jv;clear Rp jv;go_wp2_with fail;refine(qo xS.o x.kind (by have:=l5.o;omega) (by have:=l5.o;omega) (by simp)).mono ?_;intro e w6 D;obtain⟨rfl,x6,NG,l8⟩:=dx.more xS.o dK.o D;rw[<-yO.o]at NG;have K:acr (Gl C L1 1 w6):=acp ⟨⟨x6,NG,l8⟩,by rw[yO.o,List.length_append,ay];exact Nat.le_refl 1⟩;clear D NG l8 I H Q O J G N P M xS dK;obtain⟨⟨v2,gL,GV⟩,nC⟩:=K.o;obtain⟨⟨I,H,Q,O,J,G,N,P,M⟩,a0,V,W,a3,a4,a5,U⟩:=YW.o w6 GV;have U9:=acp gL;have av:=acp GV;clear gL GV;go_upto_if 28 with(fail)
 go_cut []from 29 to 33 (λ wx=>Gl C L2 203 wx)
 case first=>
  cases p
  ·have m:L2=L1:=lX.o.trans (aaz _);have z:acr (Gl C L2 203 w6):=acp (by rw[m];exact⟨⟨v2,U9.o,av.o⟩,by omega⟩);clear m;go_wp2_with fail
   go_meet
   exact z.o
  ·have m:L2=L1++(bF (x.path.length:Int) 2++x.path):=lX.o;have z:=acp m;clear m;obtain⟨cp,wq,kW,R,l9,LD,B⟩:=EL w6 x.path (by have:=y.o.path;have:=y.o.bT;omega);have F:=pJ (U9.o.below R) (some ⟨w6.heap.size,0,none⟩) x.path.length cp x.path B (λ b Z=>⟨by rw[Z];have:=U9.o.lt;omega,λ he=>by have:=iK U9.o.own b he;omega⟩) LD (by omega) (by have:=y.o.path;have:=y.o.bT;omega);have jm:=acp (U9.o.below R);have ko:=acp (av.o.trans (R.mono av.o.size));have Zi:=acp F;clear R B F;go_wp2_with fail;refine Zi.o.mono ?_;intro e z2 D;obtain⟨rfl,x9,A,E⟩:=dx.more jm.o ko.o D;rw[<-z.o]at A;have U_:acr (Gl C L2 203 z2):=acp ⟨⟨x9,A,E⟩,(by rw[z.o];simp only[List.length_append,ay];have:=y.o.path;have:=y.o.bT;have:=y.o.data;omega)⟩;clear D A E;go_wp2_with fail
   go_meet
   exact U_.o
 case rest=>
  obtain⟨u2,rfl⟩:∃Y:World,Y=wc:=⟨_,rfl⟩;clear K U9 av I H Q O J G N P M a0 V W a3 a4 a5 U nC;have K:=acp hcut;clear hcut;obtain⟨⟨v3,fT,bf⟩,nQ⟩:=K.o;obtain⟨⟨I,H,Q,O,J,G,N,P,M⟩,a0,V,W,a3,a4,a5,U⟩:=YW.o u2 bf;have Va:=acp fT;have aC:=acp bf;clear fT bf;go_upto_if 35 with(fail)
  go_cut []from 36 to 40 (λ wx=>Gl C L3 405 wx)
  case first=>
   cases t
   ·have m:L3=L2:=l6.o.trans (aaz _);have z:acr (Gl C L3 405 u2):=acp (by rw[m];exact⟨⟨v3,Va.o,aC.o⟩,by omega⟩);clear m;go_wp2_with fail
    go_meet
    exact z.o
   ·have m:L3=L2++(bF (x.bT.length:Int) 2++x.bT):=l6.o;have z:=acp m;clear m;obtain⟨cp,wq,kW,R,l9,LD,B⟩:=EL u2 x.bT (by have:=y.o.path;have:=y.o.bT;omega);have F:=pJ (Va.o.below R) (some ⟨u2.heap.size,0,none⟩) x.bT.length cp x.bT B (λ b Z=>⟨by rw[Z];have:=Va.o.lt;omega,λ he=>by have:=iK Va.o.own b he;omega⟩) LD (by omega) (by have:=y.o.path;have:=y.o.bT;omega);have jm:=acp (Va.o.below R);have ko:=acp (aC.o.trans (R.mono aC.o.size));have Zi:=acp F;clear R B F;go_wp2_with fail;refine Zi.o.mono ?_;intro e z3 D;obtain⟨rfl,x9,A,E⟩:=dx.more jm.o ko.o D;rw[<-z.o]at A;have U_:acr (Gl C L3 405 z3):=acp ⟨⟨x9,A,E⟩,(by rw[z.o];simp only[List.length_append,ay];have:=y.o.path;have:=y.o.bT;have:=y.o.data;omega)⟩;clear D A E;go_wp2_with fail
    go_meet
    exact U_.o
  case rest=>
   obtain⟨u3,rfl⟩:∃Y:World,Y=wc:=⟨_,rfl⟩;clear K Va aC I H Q O J G N P M a0 V W a3 a4 a5 U nQ;have K:=acp hcut;clear hcut;obtain⟨⟨v4,d9,dn⟩,mR⟩:=K.o;obtain⟨⟨I,H,Q,O,J,G,N,P,M⟩,a0,V,W,a3,a4,a5,U⟩:=YW.o u3 dn;have aD:=acp d9;have aN:=acp dn;clear d9 dn;go_upto_if 42 with(fail)
   go_cut []from 43 to 46 (λ wx=>Gl C L4 407 wx)
   case first=>
    cases f
    ·have m:L4=L3:=l7.o.trans (aaz _);have z:acr (Gl C L4 407 u3):=acp (by rw[m];exact⟨⟨v4,aD.o,aN.o⟩,by omega⟩);clear m;go_wp2_with fail
     go_meet
     exact z.o
    ·have m:L4=L3++(bF x.fd 2):=l7.o;have z:=acp m;clear m;go_wp2_with fail;refine(dH aD.o x.fd y.o.fd.1 (by have:=y.o.fd;omega) (by omega)).mono ?_;intro e z4 D;obtain⟨rfl,x9,A,E⟩:=dx.more aD.o aN.o D;rw[<-z.o]at A;have U_:acr (Gl C L4 407 z4):=acp ⟨⟨x9,A,E⟩,(by rw[z.o];simp only[List.length_append,ay];have:=y.o.path;have:=y.o.bT;have:=y.o.data;omega)⟩;clear D A E;go_wp2_with fail
     go_meet
     exact U_.o
   case rest=>
    obtain⟨u4,rfl⟩:∃Y:World,Y=wc:=⟨_,rfl⟩;clear K aD aN I H Q O J G N P M a0 V W a3 a4 a5 U mR;have K:=acp hcut;clear hcut;obtain⟨⟨v5,ig,cB⟩,nG⟩:=K.o;obtain⟨⟨I,H,Q,O,J,G,N,P,M⟩,a0,V,W,a3,a4,a5,U⟩:=YW.o u4 cB;have aB:=acp ig;have bq:=acp cB;clear ig cB;go_upto_if 48 with(fail)
    go_cut []from 49 to 56 (λ wx=>Gl C L5 411 wx)
    case first=>
     cases r
     ·have m:L5=L4:=I4.o.trans (aaz _);have z:acr (Gl C L5 411 u4):=acp (by rw[m];exact⟨⟨v5,aB.o,bq.o⟩,by omega⟩);clear m;go_wp2_with fail
      go_meet
      exact z.o
     ·have m:L5=L4++(bF x.at_ 2++bF x.n 2):=I4.o;have z:=acp m;clear m;go_wp2_with fail;refine(dH aB.o x.at_ y.o.at_.1 (by have:=y.o.at_;omega) (by omega)).mono ?_;intro e z5 D;obtain⟨rfl,x8,Vy,jw⟩:=dx.more aB.o bq.o D;obtain⟨⟨I,H,Q,O,J,G,N,P,M⟩,a0,V,W,a3,a4,a5,U⟩:=YW.o z5 jw;have HY:=acp Vy;have om:=acp jw;clear D Vy jw;go_wp2_with fail;refine(dH HY.o x.n y.o.n.1 (by have:=y.o.n;omega) (by rw[List.length_append,ay];omega)).mono ?_;intro e y5 D;obtain⟨rfl,x9,A,E⟩:=dx.more HY.o om.o D;rw[List.append_assoc]at A;rw[<-z.o]at A;have U_:acr (Gl C L5 411 y5):=acp ⟨⟨x9,A,E⟩,(by rw[z.o];simp only[List.length_append,ay];have:=y.o.path;have:=y.o.bT;have:=y.o.data;omega)⟩;clear D A E;go_wp2_with fail
      go_meet
      exact U_.o
    case rest=>
     obtain⟨u5,rfl⟩:∃Y:World,Y=wc:=⟨_,rfl⟩;clear K aB bq I H Q O J G N P M a0 V W a3 a4 a5 U nG;have K:=acp hcut;clear hcut;obtain⟨⟨v6,gy,bn⟩,mU⟩:=K.o;obtain⟨⟨I,H,Q,O,J,G,N,P,M⟩,a0,V,W,a3,a4,a5,U⟩:=YW.o u5 bn;have aH:=acp gy;have bT:=acp bn;clear gy bn;go_upto_if 58 with(fail)
     go_cut []from 59 to 62 (λ wx=>Gl C L6 419 wx)
     case first=>
      cases u
      ·have m:L6=L5:=mo.o.trans (aaz _);have z:acr (Gl C L6 419 u5):=acp (by rw[m];exact⟨⟨v6,aH.o,bT.o⟩,by omega⟩);clear m;go_wp2_with fail
       go_meet
       exact z.o
      ·have m:L6=L5++(bF x.aL 8):=mo.o;have z:=acp m;clear m;go_wp2_with fail;refine(jB aH.o x.aL y.o.aL.1 y.o.aL.2 (by omega)).mono ?_;intro e z6 D;obtain⟨rfl,x9,A,E⟩:=dx.more aH.o bT.o D;rw[<-z.o]at A;have U_:acr (Gl C L6 419 z6):=acp ⟨⟨x9,A,E⟩,(by rw[z.o];simp only[List.length_append,ay];have:=y.o.path;have:=y.o.bT;have:=y.o.data;omega)⟩;clear D A E;go_wp2_with fail
       go_meet
       exact U_.o
     case rest=>
      obtain⟨u6,rfl⟩:∃Y:World,Y=wc:=⟨_,rfl⟩;clear K aH bT I H Q O J G N P M a0 V W a3 a4 a5 U mU;have K:=acp hcut;clear hcut;obtain⟨⟨v7,fK,bD⟩,nE⟩:=K.o;obtain⟨⟨I,H,Q,O,J,G,N,P,M⟩,a0,V,W,a3,a4,a5,U⟩:=YW.o u6 bD;have ak:=acp fK;have bS:=acp bD;clear fK bD;go_upto_if 64 with(fail)
      go_cut []from 65 to 68 (λ wx=>Gl C L7 421 wx)
      case first=>
       cases s
       ·have m:L7=L6:=lN.o.trans (aaz _);have z:acr (Gl C L7 421 u6):=acp (by rw[m];exact⟨⟨v7,ak.o,bS.o⟩,by omega⟩);clear m;go_wp2_with fail
        go_meet
        exact z.o
       ·have m:L7=L6++(bF x.snap 2):=lN.o;have z:=acp m;clear m;go_wp2_with fail;refine(dH ak.o x.snap y.o.snap.1 (by have:=y.o.snap;omega) (by omega)).mono ?_;intro e z7 D;obtain⟨rfl,x9,A,E⟩:=dx.more ak.o bS.o D;rw[<-z.o]at A;have U_:acr (Gl C L7 421 z7):=acp ⟨⟨x9,A,E⟩,(by rw[z.o];simp only[List.length_append,ay];have:=y.o.path;have:=y.o.bT;have:=y.o.data;omega)⟩;clear D A E;go_wp2_with fail
        go_meet
        exact U_.o
      case rest=>
       obtain⟨u7,rfl⟩:∃Y:World,Y=wc:=⟨_,rfl⟩;clear K ak bS I H Q O J G N P M a0 V W a3 a4 a5 U nE;have K:=acp hcut;clear hcut;obtain⟨⟨v8,gM,dM⟩,Bv⟩:=K.o;obtain⟨⟨I,H,Q,O,J,G,N,P,M⟩,a0,V,W,a3,a4,a5,U⟩:=YW.o u7 dM;have Zj:=acp gM;have aF:=acp dM;clear gM dM;go_upto_if 70 with(fail)
       go_cut []from 71 to 74 (λ wx=>Gl C L8 1023 wx)
       case first=>
        cases d
        ·have m:L8=L7:=lI.o.trans (aaz _);have z:acr (Gl C L8 1023 u7):=acp (by rw[m];exact⟨⟨v8,Zj.o,aF.o⟩,by omega⟩);clear m;go_wp2_with fail
         go_meet
         exact z.o
        ·have m:L8=L7++(bF (x.data.length:Int) 2++x.data):=lI.o;have z:=acp m;clear m;go_wp2_with fail;refine(pJ Zj.o da x.data.length dc x.data (nS.o u7 aF.o) (λ b (Z:b<w.heap.size)=>⟨by have:=jl.o;omega,λ h9=>by have:=aZ Zj.o.own b h9;have:=jl.o;omega⟩) nJ (by omega) (by have:=y.o.data;omega)).mono ?_;intro e z8 D;obtain⟨rfl,x9,A,E⟩:=dx.more Zj.o aF.o D;rw[<-z.o]at A;have U_:acr (Gl C L8 1023 z8):=acp ⟨⟨x9,A,E⟩,(by rw[z.o];simp only[List.length_append,ay];have:=y.o.path;have:=y.o.bT;have:=y.o.data;omega)⟩;clear D A E;go_wp2_with fail
         go_meet
         exact U_.o
       case rest=>
        obtain⟨u8,rfl⟩:∃Y:World,Y=wc:=⟨_,rfl⟩;clear K Zj aF I H Q O J G N P M a0 V W a3 a4 a5 U Bv;have K:=acp hcut;clear hcut;obtain⟨⟨v9,A,E⟩,oD⟩:=K.o;have NW:=acp (iZ A (by omega));have pK:=acp E;clear A E;go_wp2_with fail;refine NW.o.mono ?_;rintro e wA ⟨aA,nA,cA,rfl,nR,Yd,Dv⟩;have Rv:=acp Yd;have sU:=acp Dv;clear Yd Dv;go_wp2_with fail
        go_ret2
        have s1:=dN.o.size;have s3:=X.o.size;have s4:=dI.o.size;have s5:=pK.o.size;rw[nP.o];exact⟨aA,nA,cA,rfl,nR,Rv.o.mono λ b Z=>⟨by omega,Z.2⟩,((dN.o.trans (X.o.mono s1)).trans ((dI.o.trans (pK.o.mono s4)).mono (by omega))).trans (sU.o.mono (by omega))⟩
theorem RQ:∀(l:List RecM) (left:Nat),left<iC l->BX left l<l.length
 |[],left,h=>absurd h (Nat.not_lt_zero _)
 |x::r,left,h=>by
  unfold BX;split
  ·rename_i m;have u:iC (x::r)=(vG x).length+iC r:=rfl;have:=RQ r (left-(vG x).length) (by omega);rw[List.length_cons];omega
  ·rw[List.length_cons];omega
def F4(L:jq):jq:=⟨L.sealed+1,jh (uP (rP L.sealed L.next L.head L.wait)),L.next+(L.wait.length:Int),[]⟩
def RS(n:Nat)(b:I8)(L:jq):List UInt8:=splice b (nu n L.sealed*128) (P6 L.sealed L.next L.head L.wait)
def M8(L:jq)(x:RecM):jq:=⟨L.sealed,L.head,L.next,L.wait++[x]⟩
def oJ(n:Nat)(L:jq)(x:RecM):Prop:=fM n<=L.sealed\/942<iC (L.wait++[x])/\fM n<=L.sealed+1
instance(n:Nat)(L:jq)(x:RecM):Decidable (oJ n L x):=by unfold oJ;exact inferInstance
def zx(L:jq)(x:RecM):jq:=if 942<iC (L.wait++[x])then F4 L else L
def Qt(n:Nat)(b:I8)(L:jq)(x:RecM):List UInt8:=if 942<iC (L.wait++[x])then RS n b L else b
def Dw(c:Int)(L:jq)(x:RecM):Int:=if 942<iC (L.wait++[x])then c+8 else c
structure kT(n:Nat)(N:Int)(L:jq):Prop where
 sealed:L.sealed<=fM n
 next:1<=L.next/\L.next+(L.wait.length:Int)<=N
 recs:∀x∈L.wait,wP x
 size:iC L.wait<=942
 GU:∀(k:Nat) (x:RecM),L.wait[k]? =some x->x.seq=L.next+(k:Int)
 head:L.head.length=32
 room:L.wait≠[]->L.sealed<fM n
theorem RU:∀l:List RecM,15*l.length<=iC l
 |[]=>Nat.le_refl _
 |x::r=>by
  have u:=RU r;have m:iC (x::r)=(vG x).length+iC r:=rfl;rw[m,og,List.length_cons];omega
theorem kT.few{n:Nat}{N:Int}{L:jq}(h:kT n N L):L.wait.length<=80:=by
 have:=RU L.wait;have:=h.size;omega
theorem kT.sg{n:Nat}{N:Int}{L:jq}(h:kT n N L)(z:N<=1000000000000)(B:n<=4096)(m:L.wait≠[]):MC L.sealed L.next L.head L.wait:=by
 have A:=h.next;have y:=h.room m;have C:=h.few;have u:fM n<=512:=by unfold fM;omega
 exact⟨⟨by omega,by omega⟩,⟨by omega,by omega⟩,h.head,m,by omega,h.recs,h.size,h.GU⟩
theorem kT.add{n:Nat}{N:Int}{L:jq}(h:kT n N L){x:RecM}(z:wP x)(C:x.seq=L.next+(L.wait.length:Int))(D:¬oJ n L x):kT n (N+1) (M8 (zx L x) x):=by
 have H:=h.next;have F:=h.sealed;have G:=z.body;by_cases A:942<iC (L.wait++[x])
 ·unfold zx;rw[if_pos A];have B:¬(fM n<=L.sealed\/942<iC (L.wait++[x])/\fM n<=L.sealed+1):=D;have I:L.sealed+1<fM n:=Wy λ h=>B (.inr ⟨A,by omega⟩);refine⟨by show L.sealed+1<=fM n;omega,⟨by show 1<=L.next+(L.wait.length:Int);omega,by show L.next+(L.wait.length:Int)+(([]++[x]:List RecM).length:Int)<=N+1;simp;omega⟩,λ y m=> ?_,?_,λ k y m=> ?_,eu _,λ _=>I⟩
  ·rw[show(M8 (F4 L) x).wait=[x]from rfl,List.mem_singleton]at m;rw[m];exact z
  ·rw[show(M8 (F4 L) x).wait=[x]from rfl];unfold iC;simp[og];omega
  ·rw[show(M8 (F4 L) x).wait=[x]from rfl]at m;cases k with
   |zero=>cases m;rw[C];exact(Int.add_zero _).symm
   |succ k=>simp at m
 ·unfold zx;rw[if_neg A];refine⟨F,⟨H.1,by show L.next+((L.wait++[x]).length:Int)<=N+1;rw[List.length_append,aaM];omega⟩,λ y m=> ?_,by show iC (L.wait++[x])<=942;omega,λ k y m=> ?_,h.head,λ _=>Wy λ h=>D (.inl (by show fM n<=L.sealed;have J:¬L.sealed<fM n:=h;omega))⟩
  ·rcases aaA.1 m with m|m
   ·exact h.recs y m
   ·rw[List.mem_singleton]at m;rw[m];exact z
  ·have u:(L.wait++[x])[k]? =some y:=m;rw[List.getElem?_append]at u;split at u
   ·exact h.GU k y u
   ·obtain⟨E,rfl⟩:=aaj.1 u;rw[aaM]at E;rw[List.getElem_singleton,C];show L.next+(L.wait.length:Int)=L.next+(k:Int);omega
def sL(L:jq):jq:=if L.wait=[]then L else F4 L
def sB(n:Nat)(b:I8)(L:jq):List UInt8:=if L.wait=[]then b else RS n b L
def sC(c:Int)(L:jq):Int:=if L.wait=[]then c else c+8
theorem kT.seal{n:Nat}{N:Int}{L:jq}(h:kT n N L):kT n N (sL L):=by
 unfold sL;split
 ·exact h
 ·rename_i u;have B:=h.next;have A:=h.room u;exact⟨by show L.sealed+1<=fM n;omega,⟨by show 1<=L.next+(L.wait.length:Int);omega,by show L.next+(L.wait.length:Int)+(([]:List RecM).length:Int)<=N;simp;omega⟩,λ y m=>(by cases m),Nat.zero_le _,λ k y m=>(by cases m),eu _,λ z=>absurd rfl z⟩
open Classical in
theorem GY{W w wB N K F:World}{o:Mark}{i p n d m g t:Nat}{L:jq}{ha:Mx}{hc:Nat}{Z:Mx}{cv:Nat}{y:List Value}{x:RecM}{aB M:Mx}{cB H:Nat}(hi:i≠0)(U:o p=i)(hM:Marks W o w)(hm:m=L.wait.length)(k2:ah (Free o w) w ha 32 (L.head.map bv))(k3:32<=hc)(k4:w.ownsRow 0 71 3 (.slice Z m cv) m y)(Y:∀b,(Value.slice Z m cv).ownBlock=some b->o b=i/\b≠p/\b<w.heap.size)(k6:iU (Free o w) w y L.wait)
  (hg:o g=t)(ht:t≠0/\t≠i)(D:Below w.heap.size w wB)(X:Keeps (λ b=>b=g) wB N)(aD:N.heap.size=wB.heap.size)(ak:K.heap[p]? =some (.cells (Ce n d L ha hc (.slice Z m cv)) 146 (0,0)))(S:Keeps (λ b=>(Value.slice Z m cv).ownBlock=some b) N K)(aC:N.heap.size+1<=K.heap.size)
  (G:K.ownsRow 0 71 3 (.slice M (m+1) H) (m+1) (y++[.int .i64 x.kind,.int .u64 x.seq,.slice aB x.body.length cB]))(Q:(Value.slice M (m+1) H).ownBlock=(Value.slice Z m cv).ownBlock\/(Value.slice M (m+1) H).ownBlock=some (N.heap.size+1))(YH:ah (λ b=>w.heap.size<=b/\b<wB.heap.size) N aB x.body.length (x.body.map bv))(aA:x.body.length<=cB)(hp:p<w.heap.size)(R:F=K.setCell ⟨p,7,none⟩ (.slice M (m+1) H)):∃I,Step o (λ k=>k=i\/k=t) w I F/\gK I i F p n d (M8 L x):=by
 have s1:=D.size;have s2:=X.size;have s3:F.heap.size=K.heap.size:=by rw[R,size_set]
 have B:∀b,b≠p->F.heap[b]? =K.heap[b]? :=λ b u=>by rw[R];exact aI K ⟨p,7,none⟩ _ b u
 have hk:∀b,b<w.heap.size->¬(o b=i\/o b=t)->F.heap[b]? =w.heap[b]? :=λ b u P=>(B b λ e=>P (.inl (by rw[e];exact U))).trans ((S.block b (by omega) λ e=>P (.inl (Y b e).1)).trans ((X.block b (by omega) λ(e:b=g)=>P (.inr (by rw[e];exact hg))).trans (D.block b u)));have J:∀b,w.heap.size<=b->o b=0:=λ b u=>Wy λ O=>by have:=(hM.new b O).2;omega
 obtain⟨I,ho⟩:∃I:Mark,∀b,I b=if w.heap.size<=b/\(Value.slice M (m+1) H).ownBlock=some b then i else o b:=⟨_,λ _=>rfl⟩;have z:∀b,b<w.heap.size->I b=o b:=λ b u=>by rw[ho,if_neg λ h=>by omega]
 have C:∀{a:Mx} {n:Nat} {vs:List Value},ah (Free o w) w a n vs->ah (Free I F) F a n vs:=λ hr=>hr.move (by omega) λ b u E=>⟨⟨(z b E).trans u.1,by omega⟩,hk b E λ e=>by rcases e with e|e;exact hi (e.symm.trans u.1);exact ht.1 (e.symm.trans u.1)⟩;have V:=iK G;refine⟨I,⟨z,λ b u P=> ?_,⟨?_,?_,?_,by omega,hk⟩⟩,⟨⟨ha,hc,.slice M (m+1) H,_,?_,C k2,k3,?_,λ b u=> ?_,(k6.imp λ _ _ _ hr=>C hr).append ⟨_,[],rfl,⟨aB,cB,rfl,aA,?_⟩,rfl⟩⟩,(z p hp).trans U⟩⟩
 ·rw[ho]at P⊢;by_cases O:w.heap.size<=b/\(Value.slice M (m+1) H).ownBlock=some b
  ·rw[if_pos O];exact⟨.inl rfl,by have:=V b O.2;omega⟩
  ·rw[if_neg O]at P;exact absurd (J b u) P
 ·rw[R];exact S.os.trans (X.os.trans D.os)
 ·rw[R];exact S.tape.trans (X.tape.trans D.tape)
 ·rw[R];exact S.output.trans (X.output.trans D.output)
 ·rw[R,aG ak];rfl
 ·have O:F.ownsRow 0 71 3 (.slice M (m+1) H) (m+1) (y++[.int .i64 x.kind,.int .u64 x.seq,.slice aB x.body.length cB]):=bK G λ b u E=>B b λ e=>by
   rcases Q with A|A
   ·rw[A]at u;exact(Y b u).2.1 e
   ·rw[A]at u;have:=aat u;omega
  rw[show(M8 L x).wait.length=m+1 by show(L.wait++[x]).length=m+1;rw[List.length_append,aaM,hm]];exact O
 ·rcases Q with A|A
  ·have h7:=Y b (by rw[<-A];exact u);exact⟨(z b h7.2.2).trans h7.1,h7.2.1,by omega⟩
  ·have h7:b=N.heap.size+1:=by rw[A]at u;exact(aat u).symm
   exact⟨by rw[ho,if_pos ⟨by omega,u⟩],by omega,by have:=V b u;omega⟩
 ·refine YH.move (by omega) λ b u E=>⟨⟨?_,by omega⟩,(B b (by omega)).trans (S.block b E λ e=>by have:=(Y b e).2.2;omega)⟩;rw[ho,if_neg λ h=> ?_]
  ·exact J b (by omega)
  ·rcases Q with A|A
   ·rw[A]at h;have:=(Y b h.2).2.2;omega
   ·rw[A]at h;have:=aat h.2;omega
def AppRet(o:Mark)(i j t:Nat)(w:World)(p d n:Nat)(b:I8)(c:Int)(L:jq)(x:RecM)(e:Ending)(w':World):Prop:=
 ∃m,Step o (λ k=>k=i\/k=j\/k=t) w m w'/\(oJ n L x/\e= .returned (.int .i64 15)/\gK m i w' p n d L/\dw m j w' d n b True c\/¬oJ n L x/\e= .returned (.int .i64 0)/\gK m i w' p n d (M8 (zx L x) x)/\dw m j w' d n (Qt n b L x) True (Dw c L x))
section
variable{W w:World}{o:Mark}{i j p n d t:Nat}{L:jq}
theorem l_seal0(h:gK o i w p n d L)(B:L.wait=[]):Dy 28 #[ptr p] w λ e w'=>e= .returned (.int .i64 0)/\Below w.heap.size w w':=by
 obtain⟨E,G,v,y,k1,k2,k3,u,D,A⟩:=h.at_;obtain⟨C,z,rfl,m⟩:=bg u;rw[B]at k1;have F:w.cell? ⟨p,7,none⟩=some (.slice C 0 z):=by simp[World.cell?,k1,Ce]
 clear h k1 k2 k3 u D A m;go_enter Tryz.func28,Tryz.ntmps28;go_wp2_with fail;go_ret;exact⟨rfl,Below.refl _ _⟩
theorem RV{b:I8}{c N:Int}(h:gK o i w p n d L)(A:dw o j w d n b True c)(E:Marks W o w)(H:i≠0)(F:j≠0)(y:i≠j)(u:kT n N L)(I:N<=1000000000000)(G:c<=1000000000):
  Dy 28 #[ptr p] w (J5 o i j w p d n (sB n b L) (sC c L) (sL L) (.int .i64 0)):=by
 by_cases m:L.wait=[]
 ·have C:sB n b L=b:=if_pos m;have D:sC c L=c:=if_pos m;have z:sL L=L:=if_pos m;rw[C,D,z];refine(l_seal0 h m).mono ?_;rintro e w' ⟨rfl,B⟩;exact⟨rfl,o,Step.grow E B,A.grow B,h.grow E B⟩
 ·have C:sB n b L=RS n b L:=if_neg m;have D:sC c L=c+8:=if_neg m;have z:sL L=F4 L:=if_neg m;rw[C,D,z];exact YM h A E H F y (u.room m) (u.sg I A.len.2.2 m) G
theorem Vb{b:I8}{c:Int}(h:gK o i w p n d L)(hD:dw o j w d n b True c)(hM:Marks W o w)(hi:i≠0)(hj:j≠0)(jG:i≠j)(ht:t≠0/\t≠i/\t≠j){N:Int}(bf:kT n N L)(hN:N<=1000000000000)(hc:c<=1000000000)(x:RecM)(hx:wP x)(aN:x.seq=L.next+(L.wait.length:Int))(a:Mx)(E:Nat)(hr:ah (Free o w) w a x.body.length (x.body.map bv))(q8:x.body.length<=E):
  Dy 24 #[ptr p,.agg (vw x a E)] w (AppRet o i j t w p d n b c L x):=by
 have rW:=h.lt;have hn:64<=n/\n<=4096:=⟨hD.len.2.1,hD.len.2.2⟩;have r9:=hx.body;have tH:=bf.few;have rU:=bf.next;have rT:=bf.sealed;obtain⟨m,hm⟩:∃m,m=L.wait.length:=⟨_,rfl⟩;rw[<-hm]at aN tH;obtain⟨A,bD⟩:∃A,A=w.alloc (.cells (vw x a E) 71):=⟨_,rfl⟩;have mo:Below w.heap.size w A:=by rw[bD];exact wall w _
 have bT:A.heap[w.heap.size]? =some (.cells (vw x a E) 71 (0,0)):=by rw[bD];exact(MapKept.heap_alloc w _).1
 have d9:w.heap.size<A.heap.size:=(qW.1 bT).1;obtain⟨o1,U,nA,-⟩:=cK hM t (λ y=>y=w.heap.size) (w':=A) (λ y hy=>by subst hy;exact⟨Nat.le_refl _,d9⟩) mo;have jw:=nA _ rfl;have jv:¬((0:Nat)=t):=λ e=>ht.1 e.symm;have iT:=h.step jv (λ e=>ht.2.1 e.symm) U;have mq:=hD.step (λ e=>ht.2.2 e.symm) U;have iN:=hM.step jv U;have om:=hr.free jv U;have yO:acr (∀u,Below A.heap.size A u->gK o1 i u p n d L):=acp λ u C=>iT.grow iN C;have dI:=acp mq;have hq:∀u:World,Below A.heap.size A u->u.cell? ⟨w.heap.size,0,none⟩=some (.int .i64 x.kind)/\u.cell? ⟨w.heap.size,1,none⟩=some (.int .u64 x.seq)/\u.cell? ⟨w.heap.size,2,none⟩=some (.slice a x.body.length E):=λ u C=>wQ ((C.block _ d9).trans bT);have sw:∀u:World,Below A.heap.size A u->u.cell? ⟨w.heap.size,0,none⟩=some (.int .i64 x.kind):=λ u C=>(hq u C).1;have rF:∀u:World,Below A.heap.size A u->u.cell? ⟨w.heap.size,1,none⟩=some (.int .u64 x.seq):=λ u C=>(hq u C).2.1;have sj:∀u:World,Below A.heap.size A u->u.cell? ⟨w.heap.size,2,none⟩=some (.slice a x.body.length E):=λ u C=>(hq u C).2.2;have pE:=acp (λ w'=>kQ x hx a E w');have DT:acr (∀u,Below A.heap.size A u->Dy 25 #[ptr p] u λ e u'=>e= .returned (.int .u64 x.seq)/\Below u.heap.size u u'):=acp λ u C=>by
  rw[aN,hm];exact FI (yO.o u C) (by omega) (by omega)
 obtain⟨M1,aC⟩:∃M1,M1=BX 942 (L.wait++[x]):=⟨_,rfl⟩;obtain⟨R,hR⟩:∃R,R=fM n-L.sealed:=⟨_,rfl⟩;have lI:(L.wait++[x]).length=m+1:=by rw[List.length_append,aaM,<-hm]
 obtain⟨fb,jl⟩:∃fb,fb=decide (iC (L.wait++[x])<=942):=⟨_,rfl⟩;have kW:decide (m<M1)=fb:=by
  rw[jl,aC];by_cases h9:iC (L.wait++[x])<=942
  ·rw[aak h9,Aq 942 _ h9,lI];exact aak (by omega)
  ·have:=RQ (L.wait++[x]) 942 (by omega);rw[aad h9];exact aad (by omega)
 have dM:decide ((m:Int)<(M1:Int))=fb:=by rw[<-kW];exact decide_eq_decide.2 (by omega)
 have Fj:acr (∀u,Below A.heap.size A u->Dy 82 #[ptr p] u λ e u'=>e= .returned (.int .i64 (R:Int))/\Below u.heap.size u u'):=acp λ u C=>by
  rw[hR];exact YG (yO.o u C) hn (by omega)
 obtain⟨i0,oO,ko,gM,iD⟩:=aaq Tryz.DW;have HI:=acp (And.intro oO (And.intro ko (And.intro gM iD)));have jL:=acp aC;obtain⟨ha,kg,v,G,k1,k2,k3,Y,k5,k6⟩:=iT.at_;obtain⟨av,cv,rfl,dn⟩:=bg Y;rw[<-hm]at k1 Y k5 dn;have FJ:∀u:World,Below A.heap.size A u->u.cell? ⟨p,7,none⟩=some (.slice av m cv):=λ u C=>by
  have h9:=(C.block p (by omega)).trans k1;simp[World.cell?,h9,Ce]
 have HK:=acp (And.intro k2 (And.intro k3 (And.intro Y (And.intro k5 k6))));have wm:acr (∀u,Below A.heap.size A u->Dy 81 #[.slice av m cv] u λ e u'=>∃v',e= .returned v'/\u'.ownsRow u.heap.size 71 3 v' m G/\Below u.heap.size u u'):=acp λ u C=>FM (f_ Y (by exact C)) k6.one (by omega);have nP:=acp bD;have qP:=acp bT;have HM:=acp hM;have O6:=acp iN;have Xk:=acp U;have l5:=acp jw;have DR:=acp hm;have h_:=acp bf;have pU:=acp hx;have iM:=acp jl;have bS:=acp hR;have dV:=acp om;have nC:acr (∀(u:World),Below A.heap.size A u->L.wait≠[]->Dy 28 #[ptr p] u (J5 o1 i j u p d n (RS n b L) (c+8) (F4 L) (.int .i64 0))):=acp λ u C aL=>YM (yO.o u C) (dI.o.grow C) (O6.o.grow C) hi hj jG (h_.o.room aL) (h_.o.sg hN hn.2 aL) hc;have o8:=kQ x hx a E w;unfold vw at pE nP⊢;clear o8 h hD hM bf hx hr bD bT hm aN mo hq iN aC hR oO ko gM iD k1 k2 Y k5 k6 iT mq om U jw nA jl lI;go_enter Tryz.func24,Tryz.ntmps24;go_wp2_with fail;rw[<-nP.o];refine su ((λ w'=>Below A.heap.size A w')) ?_ λ z=> ?_
 ·exact acu.drew
 refine aM 0 z ?_;refine lJ 1 λ K B=> ?_;go_simp;refine(pE.o _).mono ?_;rintro e w2 ⟨rfl,nQ⟩;have l6:=acp (z.trans (nQ.mono z.size));clear nQ;go_wp2_with fail;refine kV B (l6.o) λ z=> ?_;clear B K;refine aM 2 z ?_;refine aM 3 z ?_;refine aM 4 z ?_;refine aM 5 z ?_;refine aM 6 z ?_;refine lJ 7 λ K B=> ?_;go_simp;refine(DT.o _ z).mono ?_;rintro e w3 ⟨rfl,mY⟩;have aF:=acp (z.trans (mY.mono z.size));clear mY;go_wp2_with fail;refine kV B (aF.o) λ z=> ?_;clear B K;refine aM 8 z ?_;refine aM 9 z ?_;refine rH ?_;clear z l6;go_upto_region 3 with(fail);have gL:acr (∀u,Below A.heap.size A u->iU (λ _=>True) u (G++[.int .i64 x.kind,.int .u64 x.seq,.slice a x.body.length E]) (L.wait++[x])):=acp λ u C=>by
  obtain⟨_,_,_,_,k6⟩:=HK.o;exact(k6.imp λ _ _ _ hr=>(hr.below C acs).mono λ _ _=>trivial).append ⟨_,[],rfl,⟨a,E,rfl,q8,(dV.o.below C acs).mono λ _ _=>trivial⟩,rfl⟩
 have TU:acr (∀u A8 c8,Below A.heap.size A u->u.ownsRow A.heap.size 71 3 (.slice A8 (m+1) c8) (m+1) (G++[.int .i64 x.kind,.int .u64 x.seq,.slice a x.body.length E])->Dy 80 #[.slice A8 (m+1) c8] u λ e u'=>e= .returned (.int .i64 (M1:Int))/\Below u.heap.size u u'):=acp λ u A8 c8 C ho=>by
  obtain⟨-,-,h3⟩:=ah.kg ho (by unfold maxLen;omega);have h4:=Fq (Q:=λ _=>True) (L.wait++[x]) (λ y hy=>by
   rcases aaA.1 hy with hy|hy
   ·exact h_.o.recs y hy
   ·rw[List.mem_singleton]at hy;rw[hy];exact pU.o) A8 (m+1) c8 u ⟨_,h3.mono λ _ _=>trivial,gL.o u C⟩ (by omega)
  rw[<-jL.o]at h4;exact h4
 go_cut [5]from 6 to 30 (λ s wx=>s= .bool fb/\Below A.heap.size A wx)
 case first=>
  refine vJ 15 ((λ w'=>Below A.heap.size A w')) ?_ λ z=> ?_
  ·exact aF.o.drew
  refine aO 0 z ?_;refine aO 1 z ?_;refine aO 2 z ?_;refine aO 3 z ?_;refine aO 5 z ?_;refine aO 9 z ?_;refine aO 10 z ?_;refine aO 11 z ?_;refine aO 12 z ?_;refine aO 13 z ?_;refine nK 4 6 (λ K B=> ?wa) λ K B=> ?wb
  case' wa=>
   go_simp;refine(wm.o _ z).mono ?_;rintro e w4 ⟨v4,rfl,nG,V⟩;obtain⟨a4,c4,rfl,qA⟩:=bg nG;have O:=z.trans (V.mono z.size);have Im:Below A.heap.size A (w4.alloc (.cells #[.int .i64 x.kind,.int .u64 x.seq,.slice a x.body.length E] 71)):=O.alloc O.size _;have JI:=acp (f_ (Av (B':=A.heap.size) nG z.size) (wall w4 (.cells #[.int .i64 x.kind,.int .u64 x.seq,.slice a x.body.length E] 71)));have I4:acr (ah (λ _=>True) (w4.alloc (.cells #[.int .i64 x.kind,.int .u64 x.seq,.slice a x.body.length E] 71)) (some ⟨w4.heap.size,0,none⟩) (1*3) [.int .i64 x.kind,.int .u64 x.seq,.slice a x.body.length E]):=acp ((jr (w:=w4) [.int .i64 x.kind,.int .u64 x.seq,.slice a x.body.length E] 71 (by simp[maxLen])).mono λ _ _=>trivial);clear nG V;go_wp2_with fail;refine b_ B (O) λ z=> ?_;clear B K;refine cu 6 λ K B=> ?_;go_simp;refine b_ B (Im) λ z=> ?_;clear B K;obtain⟨w5,oC⟩:∃w5,w5=w4.alloc (.cells #[.int .i64 x.kind,.int .u64 x.seq,.slice a x.body.length E] 71):=⟨_,rfl⟩;rw[<-oC]at Im JI I4 z⊢;obtain⟨gl,bn⟩:∃gl,gl=w4.heap.size:=⟨_,rfl⟩;rw[<-bn]at I4⊢;clear oC bn O
  case' wb=>
   go_simp;have O:Below A.heap.size A (w3.alloc (.cells #[.int .i64 x.kind,.int .u64 x.seq,.slice a x.body.length E] 71)).drew:=(aF.o.alloc aF.o.size _).drew;have jm:ah (λ _=>True) (w3.alloc (.cells #[.int .i64 x.kind,.int .u64 x.seq,.slice a x.body.length E] 71)).drew (some ⟨w3.heap.size,0,none⟩) (1*3) [.int .i64 x.kind,.int .u64 x.seq,.slice a x.body.length E]:=((jr (w:=w3) [.int .i64 x.kind,.int .u64 x.seq,.slice a x.body.length E] 71 (by simp[maxLen])).below acu.drew acs).mono λ _ _=>trivial;refine b_ B (O) λ z=> ?_;clear B K;obtain⟨u4,jy⟩:∃u4,u4=(w3.alloc (.cells #[.int .i64 x.kind,.int .u64 x.seq,.slice a x.body.length E] 71)).drew:=⟨_,rfl⟩;rw[<-jy]at O jm z⊢;clear jy;refine cu 4 λ K B=> ?_;go_simp;refine(wm.o _ z).mono ?_;rintro e w5 ⟨v4,rfl,nG,V⟩;obtain⟨a4,c4,rfl,qA⟩:=bg nG;have Im:Below A.heap.size A w5:=z.trans (V.mono z.size);have JI:=acp (Av (B':=A.heap.size) nG z.size);have I4:=acp (jm.below V acs);clear nG V jm;go_wp2_with fail;refine b_ B (Im) λ z=> ?_;clear B K;obtain⟨gl,bn⟩:∃gl,gl=w3.heap.size:=⟨_,rfl⟩;rw[<-bn]at I4⊢;clear bn O
  all_goals
   refine cu 7 λ K B=> ?_;refine dZ (by rfl) (.tmp 20) (.tmp 22) 143 (by rfl) A.heap.size 71 i0 _ 3 40 Tryz.underlying143 HI.o.1 HI.o.2.1 HI.o.2.2.1 HI.o.2.2.2 rfl (by omega) (.slice a4 m c4) m G (by rfl) JI.o (some ⟨gl,0,none⟩) 1 1 [.int .i64 x.kind,.int .u64 x.seq,.slice a x.body.length E] (by rfl) I4.o (by simp[Value.oneCell']) (by unfold maxLen;omega) (by omega) Im.size ?_;intro A8 c8 w8 CU NC TI;have Dp:Below A.heap.size A w8:=Im.trans ((Keeps.grown NC).bS Im.size λ y hy e=>by have:=aZ JI.o y e;omega);have ZQ:=acp CU;clear CU NC TI JI I4;refine b_ B (Dp) λ z=> ?_;clear B K;refine cu 8 λ K B=> ?_;go_simp;refine(TU.o _ _ _ z ZQ.o).mono ?_;rintro e w9 ⟨rfl,dG⟩;have DZ:Below A.heap.size A w9:=z.trans (dG.mono z.size);clear dG;go_wp2_with fail;refine b_ B (DZ) λ z=> ?_;clear B K;refine aO 14 z ?_;refine cu 15 λ K B=> ?_;go_simp;refine o_ B ?_;clear z B K;have pK:=acp DZ;clear ZQ Dp Im DZ;go_wp2_with fail
   go_meet
   exact⟨rfl,pK.o⟩
 case rest=>
  obtain⟨rfl,jo⟩:=hcut;obtain⟨u0,rfl⟩:∃u0:World,u0=wc:=⟨_,rfl⟩;have nR:=acp jo;have Rv:=acp (Fj.o u0 jo);clear jo gL TU wm DT pE aF dM kW FJ dn
  go_upto_block 0 with(fail)
  go_cut []from 31 to 46 (λ wx=>¬oJ n L x/\∃J,Step o1 (λ k=>k=i\/k=j) A J wx/\gK J i wx p n d (zx L x)/\dw J j wx d n (Qt n b L x) True (Dw c L x))
  case first=>
   have ig:acr (fM n≠L.sealed->(fb=false->R≠1)->¬oJ n L x):=acp λ h1 h2 h3=>by
    have:=h_.o.sealed;have h5:=iM.o;have h6:=bS.o;rcases h3 with h3|⟨h3,h4⟩
    ·omega
    ·exact h2 (by rw[h5];exact aad (by omega)) (by omega)
   have rE:=acp nR.o;by_cases oU:R=0
   ·have d0:((R:Int)==0)=true:=by simp;omega
    go_wp2_with fail;refine Rv.o.mono ?_;rintro e wA ⟨rfl,Dv⟩;have X:=acp (nR.o.trans (Dv.mono nR.o.size));clear Dv;go_wp2_with fail;go_ret;have I:oJ n L x:= .inl (by have:=bS.o;omega);exact⟨o1,(Xk.o.mono λ k M=> .inr (.inr M)).then_ HM.o (λ e=>by rcases e with e|e|e;exact hi e.symm;exact hj e.symm;exact ht.1 e.symm) X.o,.inl ⟨I,rfl,yO.o _ X.o,dI.o.grow X.o⟩⟩
   ·have d0:((R:Int)==0)=false:=by simp;omega
    have aD:fM n≠L.sealed:=λ e=>oU (by have:=bS.o;omega);go_wp2_with fail;refine Rv.o.mono ?_;rintro e wA ⟨rfl,Dv⟩;have X:=acp (nR.o.trans (Dv.mono nR.o.size));clear Dv;cases fb with
    |true=>
     have D:¬942<iC (L.wait++[x]):=λ h9=>by have:=iM.o;rw[aad (by omega)]at this;cases this
     have GJ:acr (¬oJ n L x/\∃J,Step o1 (λ k=>k=i\/k=j) A J wA/\gK J i wA p n d (zx L x)/\dw J j wA d n (Qt n b L x) True (Dw c L x)):=acp ⟨ig.o aD (λ e=>by cases e),o1,Step.grow O6.o X.o,by unfold zx;rw[if_neg D];exact yO.o _ X.o,by unfold Qt Dw;rw[if_neg D,if_neg D];exact dI.o.grow X.o⟩;clear D aD;go_wp2_with fail
     go_meet
     exact GJ.o
    |false=>
     have D:942<iC (L.wait++[x]):=Wy λ h9=>by have:=iM.o;rw[aak (by omega)]at this;cases this
     have dK:=acp (Fj.o wA X.o);by_cases lN:R=1
     ·have d1:((R:Int)==1)=true:=by simp;omega
      have I:oJ n L x:= .inr ⟨D,by have:=bS.o;omega⟩;have pF:=acp I;clear I D aD;go_wp2_with fail;refine dK.o.mono ?_;rintro e wB ⟨rfl,Ky⟩;have S:=acp (X.o.trans (Ky.mono X.o.size));clear Ky;go_wp2_with fail;go_ret;exact⟨o1,(Xk.o.mono λ k M=> .inr (.inr M)).then_ HM.o (λ e=>by rcases e with e|e|e;exact hi e.symm;exact hj e.symm;exact ht.1 e.symm) S.o,.inl ⟨pF.o,rfl,yO.o _ S.o,dI.o.grow S.o⟩⟩
     ·have d1:((R:Int)==1)=false:=by simp;omega
      have aL:L.wait≠[]:=λ e=>by
       rw[e,List.nil_append]at D;have h9:iC [x]=15+x.body.length:=by unfold iC;simp[og]
       omega
      have qY:=acp (ig.o aD λ _=>lN);have aH:=acp D;have Ez:=acp (λ(u9:World) (C:Below A.heap.size A u9)=>nC.o u9 C aL);clear D aD aL;go_wp2_with fail;refine dK.o.mono ?_;rintro e wB ⟨rfl,Ky⟩;have S:=acp (X.o.trans (Ky.mono X.o.size));have qN:=acp (Ez.o wB S.o);clear Ky;go_wp2_with fail;refine qN.o.mono ?_;rintro e F ⟨rfl,J,H,ak,P⟩;have GJ:acr (¬oJ n L x/\∃J,Step o1 (λ k=>k=i\/k=j) A J F/\gK J i F p n d (zx L x)/\dw J j F d n (Qt n b L x) True (Dw c L x)):=acp ⟨qY.o,J,Step.behind O6.o S.o H,by unfold zx;rw[if_pos aH.o];exact P,by unfold Qt Dw;rw[if_pos aH.o,if_pos aH.o];exact ak⟩;clear H ak P;go_wp2_with fail
      go_meet
      exact GJ.o
  case rest=>
   obtain⟨l8,J,H,P,ak⟩:=hcut;obtain⟨Z,rfl⟩:∃Z:World,Z=wc:=⟨_,rfl⟩;obtain⟨g,RX⟩:∃g,g=w.heap.size:=⟨_,rfl⟩;have mU:g≠p:=by omega
   have iD:A.heap.size<=Z.heap.size:=H.keep.size;have mR:J g=t:=by rw[RX];exact(H.old _ d9).trans l5.o
   have bq:Z.heap[g]? =some (.cells (vw x a E) 71 (0,0)):=by rw[RX];exact(H.block d9 (by rw[l5.o];omega)).trans qP.o
   have lX:=O6.o.step (λ e=>by rcases e with e|e;exact hi e.symm;exact hj e.symm) H;have nS:=dV.o.free (λ e=>by rcases e with e|e;exact hi e.symm;exact hj e.symm) H;have gy:Step o (λ k=>k=i\/k=j\/k=t) w J Z:=(Xk.o.mono λ k M=> .inr (.inr M)).trans (H.mono λ k M=>by rcases M with M|M;exact .inl M;exact .inr (.inl M));have l7:(zx L x).wait.length<=80:=by
    unfold zx;split
    ·exact Nat.zero_le _
    ·exact h_.o.few
   obtain⟨L2,aA⟩:∃L2,L2=zx L x:=⟨_,rfl⟩;rw[<-aA]at P l7;obtain⟨ha,kg,v,G,k1,k2,k3,Y,k5,k6⟩:=P.at_;obtain⟨m,hm⟩:∃m,m=L2.wait.length:=⟨_,rfl⟩;obtain⟨av,cv,rfl,dn⟩:=bg Y;have fK:=P.own;have l9:p<Z.heap.size:=(qW.1 k1).1;have p9:g<Z.heap.size:=(qW.1 bq).1;rw[<-hm]at k1 Y k5 dn l7;have HK:=acp (And.intro k2 (And.intro k3 (And.intro Y (And.intro k5 k6))));have WQ:=acp k1;have o9:=acp bq;have Ud:=acp (And.intro l8 (And.intro gy (And.intro aA (And.intro ak (And.intro lX (And.intro mR hm))))));have lC:=acp fK;have c2:Z.cell? ⟨g,2,none⟩=some (.slice a x.body.length E):=by simp[World.cell?,bq,vw]
   have mQ:=acp (gP a x.body.length E x.body Z (by omega) nS);rw[<-RX];clear l8 H P ak lX nS gy aA k1 k2 k3 Y k5 k6 bq mR fK hm Rv nR RX;go_wp2_with fail;refine mQ.o.mono ?_;rintro e wB ⟨aB,nB,cB,rfl,p8,YH,Ky⟩;obtain rfl:nB=x.body.length:=by have:=YH.length;rw[List.length_map]at this;exact this.symm
   have dK:=acp YH;have S:=acp Ky;have Z6:=(S.o.block _ p9).trans o9.o;have q2:wB.cell? ⟨g,2,none⟩=some (.slice a x.body.length E):=by simp[World.cell?,Z6,vw]
   have f2:wB.frozen? ⟨g,2,none⟩=false:=by simp[World.frozen?,Z6]
   clear YH Ky mQ c2;go_wp2_with fail;obtain⟨F,YJ⟩:∃F,F=wB.setCell ⟨g,2,none⟩ (.slice aB x.body.length cB):=⟨_,rfl⟩;have AV:Keeps (λ b=>b=g) wB F:=by rw[YJ];exact Keeps.jy wB ⟨g,2,none⟩ _
   have jc:F.heap[g]? =some (.cells (vw x aB cB) 71 (0,0)):=by
    rw[YJ,aG Z6];rfl
   have oP:F.heap.size=wB.heap.size:=by rw[YJ,size_set]
   rw[<-YJ];have dN:F.heap[p]? =some (.cells (Ce n d L2 ha kg (.slice av m cv)) 146 (0,0)):=(AV.block p (by have:=S.o.size;omega) (λ(e:p=_)=>mU e.symm)).trans ((S.o.block p l9).trans WQ.o);have iE:p<F.heap.size:=(qW.1 dN).1;have iO:g<F.heap.size:=(qW.1 jc).1;have NA:acr (∀w':World,w'.heap[p]? =F.heap[p]? ->w'.heap[g]? =F.heap[g]? ->w'.cell? ⟨p,7,none⟩=some (.slice av m cv)/\w'.frozen? ⟨p,7,none⟩=false/\w'.cell? ⟨g,0,none⟩=some (.int .i64 x.kind)/\w'.cell? ⟨g,1,none⟩=some (.int .u64 x.seq)/\w'.cell? ⟨g,2,none⟩=some (.slice aB x.body.length cB)):=acp λ w' h1 h2=>by
    rw[dN]at h1;rw[jc]at h2;refine⟨?_,?_,?_,?_,?_⟩<;>simp[World.cell?,World.frozen?,h1,h2,Ce,vw]
   have q9:=S.o.size;have nJ:acr (ah (λ b=>Z.heap.size<=b/\b<wB.heap.size) F aB x.body.length (x.body.map bv)):=acp (dK.o.kept AV.size λ b C aJ=>AV.block b aJ λ(e:b=_)=>by omega);have LG:=acp AV;have fT:=acp dN;have oW:=acp oP;have Kq:acr (∀b,(Value.slice av m cv).ownBlock=some b->J b=i/\b≠p/\b<Z.heap.size):=acp HK.o.2.2.2.1;have nE:acr (J g≠i):=acp (by rw[Ud.o.2.2.2.2.2.1];exact ht.2.1);have kN:acr (F.ownsRow 0 71 3 (.slice av m cv) m G):=acp (by
    obtain⟨_,_,Y,k5,_⟩:=HK.o;exact bK Y λ b C aJ=>(AV.block b (by omega) (λ e=>nE.o (by rw[<-e];exact(k5 b C).1))).trans (S.o.block b aJ))
   clear YJ AV jc dN Z6 q2 f2 oP;refine vJ 10 ((λ w'=>w'.cell? ⟨p,7,none⟩=some (.slice av m cv)/\w'.frozen? ⟨p,7,none⟩=false/\w'.cell? ⟨g,0,none⟩=some (.int .i64 x.kind)/\w'.cell? ⟨g,1,none⟩=some (.int .u64 x.seq)/\w'.cell? ⟨g,2,none⟩=some (.slice aB x.body.length cB))) ?_ λ z=> ?_
   ·exact NA.o _ rfl rfl
   refine aO 0 z ?_;refine aO 1 z ?_;refine aO 2 z ?_;refine aO 3 z ?_;refine aO 4 z ?_;refine aO 5 z ?_;refine cu 6 λ K B=> ?_;go_simp;have sO:Below F.heap.size F (F.drew.alloc (.cells #[.int .i64 x.kind,.int .u64 x.seq,.slice aB x.body.length cB] 71)):=acu.drew.alloc acs _;refine b_ B (NA.o _ (sO.block p iE) (sO.block _ iO)) λ z=> ?_;clear B K;refine cu 7 λ K B=> ?_;refine dZ (by rfl) (.tmp 55) (.tmp 57) 143 (by rfl) 0 71 i0 _ 3 40 Tryz.underlying143 HI.o.1 HI.o.2.1 HI.o.2.2.1 HI.o.2.2.2 rfl (by omega) (.slice av m cv) m G (by rfl) (bK kN.o λ b C aJ=>sO.block b aJ) (some ⟨F.heap.size,0,none⟩) 1 1 [.int .i64 x.kind,.int .u64 x.seq,.slice aB x.body.length cB] (by rfl) (jr (w:=F.drew) [.int .i64 x.kind,.int .u64 x.seq,.slice aB x.body.length cB] 71 (by simp[maxLen])) (by simp[Value.oneCell']) (by unfold maxLen;omega) (by omega) (Nat.zero_le _) ?_;intro AD cD wD MP YK YL;have oF:wD.heap[p]? =F.heap[p]? :=(YK.block p (Pd iE sO.size) (λ e=>(Kq.o p e.symm).2.1 rfl)).trans (sO.block p iE);have qM:wD.heap[g]? =F.heap[g]? :=(YK.block _ (Pd iO sO.size) (λ e=>nE.o (Kq.o _ e.symm).1)).trans (sO.block _ iO);have qb:=acp MP;have qQ:=acp YL;have qL:=acp (oF.trans fT.o);have o7:acr (Keeps (λ b=>(Value.slice av m cv).ownBlock=some b) F wD):=acp ((gI sO).trans (Keeps.grown YK) λ x _ hx=>hx);have rM:F.heap.size+1<=wD.heap.size:=by have:=YK.size;simp at this;omega
   clear MP YL YK sO;refine b_ B (NA.o _ oF qM) λ z=> ?_;clear B K;refine aO 8 z ?_;refine aO 9 z ?_;refine cu 10 λ K B=> ?_;go_simp;refine o_ B ?_;clear z B K;go_wp2_with fail;go_ret;obtain⟨wE,Fw⟩:∃wE,wE=wD.setCell ⟨p,7,none⟩ (.slice AD (m+1) cD):=⟨_,rfl⟩;rw[<-Fw];obtain⟨f1,f2,f3,f4,f5,f6,f7⟩:=Ud.o;obtain⟨o',ni,oD⟩:=GY hi lC.o f5 f7 HK.o.1 HK.o.2.1 HK.o.2.2.1 HK.o.2.2.2.1 HK.o.2.2.2.2 f6 ⟨ht.1,ht.2.1⟩ S.o LG.o oW.o qL.o o7.o (by omega) qb.o (qQ.o.imp id λ e=>e.trans (aaK some (Pe F _))) nJ.o p8 l9 Fw;rw[f3]at oD;exact⟨o',f2.trans (ni.mono λ k M=>by rcases M with M|M;exact .inl M;exact .inr (.inr M)),.inr ⟨f1,rfl,oD,f4.step (λ e=>by rcases e with e|e;exact jG e.symm;exact ht.2.2 e.symm) ni⟩⟩
end
