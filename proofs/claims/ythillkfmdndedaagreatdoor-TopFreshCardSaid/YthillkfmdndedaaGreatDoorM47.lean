/- package -/
import Derived.Test.YthillkfmdndedaaGreatDoorM45
import Derived.Test.YthillkfmdndedaaGreatDoorM46
import Derived.Test.YthillkfmdndedaaGreatDoorM44
set_option maxRecDepth 100000
set_option maxHeartbeats 64000000
set_option linter.all false
namespace Go.Proofs.YthillkfmdndedaaGreatDoor
open Go.ChangeShapes Go.WideShapes Go.ChangeAt Go.RowKit
def uG(V:oo)(m:I8):RecM:=⟨1,V.L.next+(V.L.wait.length:Int),m⟩
def oK(x:iI):List UInt8:=match Ct.lookup x.kind with
 |some (p,t,f,r,u,s,d)=>opB x p t f r u s d
 |none=>[]
theorem RZ{x:iI}(h:jR x=true):∃p t f r u s d,(x.kind,p,t,f,r,u,s,d)∈Ct/\oK x=opB x p t f r u s d:=by
 have m:=of_decide_eq_true h;rcases (show x.kind=1\/x.kind=2\/x.kind=3\/x.kind=5\/x.kind=6\/x.kind=7\/x.kind=8\/x.kind=9\/x.kind=10\/x.kind=13\/x.kind=14\/x.kind=15\/x.kind=16 by omega)with e|e|e|e|e|e|e|e|e|e|e|e|e
 all_goals exact⟨_,_,_,_,_,_,_,by rw[e];unfold Ct;simp only[List.mem_cons,Prod.mk.injEq];simp;exact⟨rfl,rfl,rfl,rfl,rfl,rfl,rfl⟩,by unfold oK;rw[e];rfl⟩
theorem Kc{x:iI}(m:mF x):(oK x).length<=900:=by
 have E:=m.path;have D:=m.bT;have G:=m.data;by_cases A:jR x=true
 ·obtain⟨p,t,f,r,u,s,d,z,B⟩:=RZ A;rw[B];simp only[Ct,List.mem_cons,Prod.mk.injEq,aaX,abM]at z;rcases z with⟨-,rfl,rfl,rfl,rfl,rfl,rfl,rfl⟩|⟨-,rfl,rfl,rfl,rfl,rfl,rfl,rfl⟩|⟨-,rfl,rfl,rfl,rfl,rfl,rfl,rfl⟩|⟨-,rfl,rfl,rfl,rfl,rfl,rfl,rfl⟩|⟨-,rfl,rfl,rfl,rfl,rfl,rfl,rfl⟩|⟨-,rfl,rfl,rfl,rfl,rfl,rfl,rfl⟩|⟨-,rfl,rfl,rfl,rfl,rfl,rfl,rfl⟩|⟨-,rfl,rfl,rfl,rfl,rfl,rfl,rfl⟩|⟨-,rfl,rfl,rfl,rfl,rfl,rfl,rfl⟩|⟨-,rfl,rfl,rfl,rfl,rfl,rfl,rfl⟩|⟨-,rfl,rfl,rfl,rfl,rfl,rfl,rfl⟩|⟨-,rfl,rfl,rfl,rfl,rfl,rfl,rfl⟩|⟨-,rfl,rfl,rfl,rfl,rfl,rfl,rfl⟩<;>simp only[opB,cond,List.length_append,ay,List.length_nil]<;>omega
 ·unfold oK;have C:Ct.lookup x.kind=none:=by
   rw[List.lookup_eq_none_iff];intro q y;simp only[Ct,List.mem_cons,aaX,abM]at y;have F:¬(1<=x.kind/\x.kind<=17/\x.kind≠4/\x.kind≠11/\x.kind≠12/\x.kind≠17):=λ e=>A (aak e);rcases y with rfl|rfl|rfl|rfl|rfl|rfl|rfl|rfl|rfl|rfl|rfl|rfl|rfl<;>simp<;>omega
  rw[C];exact Nat.zero_le _
def uR(V:oo)(M:dQ)(L:jq):uD:=⟨V.gen+1,L.next-1,L.sealed,L.head,fU M⟩
def Qw(n:Nat)(b:I8)(x:uD):List UInt8:=splice b (bR n (x.gen%2).toNat*128) (AX n x)
def mL(V:oo)(x:iI):jq:=cond (jR x) (M8 (zx V.L (uG V (oK x))) (uG V (oK x))) V.L
def mB(n:Nat)(V:oo)(x:iI):List UInt8:=cond (jR x) (Qt n V.b V.L (uG V (oK x))) V.b
def mC(V:oo)(x:iI):Int:=cond (jR x) (Dw V.c V.L (uG V (oK x))) V.c
def lM(n:Nat)(V:oo)(x:iI)(m:dQ):oo:=⟨mB n V x,mC V x,m,V.cs+1,mL V x,V.gen,V.seq,V.dN,V.recs,V.id⟩
def Da(n:Nat)(V:oo):oo:=⟨sB n V.b V.L,sC V.c V.L,V.M,V.cs,sL V.L,V.gen,V.seq,V.dN,V.recs,V.id⟩
def GZ(n:Nat)(V:oo)(s:Int):oo:=if s=0 then V else Da n V
def R3(n:Nat)(V:oo):oo:=⟨Qw n V.b (uR V V.M V.L),V.c+2000,V.M,V.cs,V.L,(uR V V.M V.L).gen,(uR V V.M V.L).seq,(uR V V.M V.L).dN,0,V.id⟩
def mG(n:Nat)(V:oo)(s:Int):oo:=if s=2/\I7 V.M=[]/\((fU V.M).length:Int)<=eT n then R3 n (GZ n V s)else GZ n V s
def jV(n:Nat)(V:oo)(x:iI):tZ×oo:=
 if (dA V.M x).1.er≠0 then((dA V.M x).1,V)else
 if jR x=true/\oJ n V.L (uG V (oK x))then(eD 15,V)else
 ((dA V.M x).1,mG n (lM n V x (dA V.M x).2) (jH x.kind (gW V.M x.fd true).isSome))
theorem Qx(k:Int)(wr:Bool):jH k wr=0\/jH k wr=1\/jH k wr=2:=by
 unfold jH;split
 ·exact .inr (.inr rfl)
 ·split
  ·exact .inr (.inl rfl)
  ·exact .inl rfl
abbrev Jm(i B:Nat):Nat->Prop:=λ m=>m=i\/(B+10<=m/\m<=B+12)\/m=B+20
def VgR(W:World)(o:Mark)(i B s:Nat)(w:World)(v n d:Nat)(V:oo)(R g:Nat)(r:tZ)(C y:Mx)(z A:Nat)(u:World):Prop:=
 ∃m,Step o (Vm i B) w m u/\eB W m i B s u v n d V/\xV m u g r C y z A/\m R=B+13/\u.heap[R]? =some (.cells reZ 38 (0,0))
theorem sL_wait(L:jq):(sL L).wait=[]:=by
 unfold sL;split
 ·assumption
 ·rfl
def SyG(o:Mark)(i B:Nat)(w u:World)(z:Mark)(g n d:Nat)(b:I8)(c:Int)(id:I8)(x:uD)(A:Array Value)(y:Int):Prop:=
 Step o (λ m=>m=i\/m=B+11\/m=B+12) w z u/\u.heap[g]? =some (.cells A 60 (0,0))/\SvD i n d b c id x A y z u
section
variable{W w w':World}{o o':Mark}{i B sb v n d q p:Nat}{V:oo}
theorem vd_end0{y z:World}{u:Mark}{R s:Nat}{r:tZ}{V':oo}(I:0<B)(J:i<B)(F:s=B\/s=B+14)(H:jK y R (eF r none none 0 0) 38 z)(D:u R=B+13)(E:eB W u i B s y v n d V')(A:Step o (Vm i B) w u y)(k1:r.data=[])(k2:r.names=[]):FZ W o i B w v n d V' r (.returned (.agg (eF r none none 0 0))) z:=by
 have C:Step u (λ m=>m=B+13) y u z:=H.step E.marks D;have G:¬(0=B+13):=by omega
 exact⟨u,s,F,⟨_,rfl,none,none,0,0,rfl,by rw[k1];exact Nat.le_refl _,by rw[k2];exact Nat.le_refl _,by rw[k1];exact ah.nil _ _ _,by rw[k2];exact jT _ _⟩,A.trans (C.mono λ m D=> .inr ⟨by omega,by omega⟩),E.step G (by omega) (by omega) (by omega) (by omega) (by omega) (by omega) C⟩
theorem wU{w w':World}{o o':Mark}{G H:Mx}{O K:Nat}{b:I8}{c P:Int}{M:dQ}{L:jq}{D E N z:Int}{id:I8}{I:Nat->Prop}(J:w.heap[v]? =some (.cells (Z9 n d q p G O D E N z H K) 62 (0,0)))(R:vo W o sb w q P M)(F:ah (Free o w) w G 16 (id.map bv))(y:o v=B+19)(C:∀m,I m->m≠0/\m≠sb/\m≠sb+1/\m≠sb+2/\m≠B+19)(u:Step o I w o' w')(S:dw o' i w' d n b True c)(U:gK o' (B+20) w' p n d L):eB W o' i B sb w' v n d ⟨b,c,M,P,L,D,E,N,z,id⟩:=by
 have Q:¬I 0:=λ e=>(C _ e).1 rfl;have A:v<w.heap.size:=(qW.1 J).1;exact⟨⟨q,p,G,O,H,K,(u.block A (by rw[y];exact λ e=>(C _ e).2.2.2.2 rfl)).trans J,R.Az Q (λ e=>(C _ e).2.1 rfl) (λ e=>(C _ e).2.2.1 rfl) (λ e=>(C _ e).2.2.2.1 rfl) u,U,F.free Q u⟩,(u.old v A).trans y,Pd A u.keep.size,S⟩
theorem M9{N:Int}(h:eB W o i B sb w v n d V)(hB:0<B)(lX:i≠0)(hi:i<B)(p8:sb=B\/sb=B+14)(kN:V.cs<=100000000)(x:iI)(hx:wM x)(E:mF x)(l6:kT n N V.L)(hN:N<=1000000000)(wJ:V.c<=100000000)(hg:0<=V.gen/\V.gen<=1000000000)(yL:qz (dA V.M x).2.s)(da:Mx)(dc:Nat)(yT:ah (Free o w) w da x.data.length (x.data.map bv))(m:Int)(Ad:x.data.length<=dc)(z:W.cell? ⟨2,0,none⟩=some (.int .i64 m)):
  Dy 6 #[ptr v,.agg (opC x da dc)] w (FZ W o i B w v n d (jV n V x).2 (jV n V x).1):=by
 have hM:=h.marks;obtain⟨w2,aN⟩:∃w2,w2=(w.alloc (.cells (opC x da dc) 32)).alloc (.cells reZ 38):=⟨_,rfl⟩;obtain⟨zT,yZ,tO⟩:=jQ _ _ _ _ aN;have xQ:w2.heap[w.heap.size+1]? =some (.cells reZ 38 (0,0)):=by
  have h9:=(MapKept.heap_alloc (w.alloc (.cells (opC x da dc) 32)) (.cells reZ 38)).1;rw[Pe]at h9;rw[aN];exact h9
 obtain⟨o2,iT,xZ,y5⟩:=cK hM (B+13) (λ y=>y=w.heap.size+1) (w':=w2) (λ y hy=>by subst hy;omega) yZ;have GX:w.heap.size+1<w2.heap.size:=by omega
 have mo:¬(0=B+13):=by omega
 have iE:=h.step mo (by omega) (by omega) (by omega) (by omega) (by omega) (by omega) iT;obtain⟨C,Bn⟩:∃C,(sb=B/\C=B+14)\/(sb=B+14/\C=B):=by rcases p8 with e|e;exact⟨B+14,.inl ⟨e,rfl⟩⟩;exact⟨B,.inr ⟨e,rfl⟩⟩
 obtain⟨q,p,ia,ic,ha,hc,k1,k2,k3,k4⟩:=iE.at_;have vD:o2 w.heap.size=0:=by
  rw[y5 _ (by omega)];exact Wy λ h9=>by have:=(hM.new _ h9).2;omega
 have zJ:=acp vD;have BK:=acp (λ(D:Mark) (u:World) (I:Nat->Prop) (h0:¬I 0) (hs:Step o2 I w2 D u)=>Cm ((hs.block (by omega) (by rw[vD];exact h0)).trans tO));have K8:=acp (st_copy k2 (by omega) C (by omega) (by omega));have jo:=acp (yT.free mo iT);have RD:=acp (λ(D:Mark) (u:World) (I:Nat->Prop) (h0:¬I (B+19)) (hs:Step o2 I w2 D u)=>(hs.block (b:=v) iE.low (by rw[iE.own];exact h0)).trans k1);have Gi:=acp iE;have Di:=acp k2;have wF:=acp k3;have qN:=acp k4;have Nr:=acp iT;have tF:=acp k2.marks;have rU:=acp hM;have pU:=acp xQ;have yH:=acp (xZ _ rfl);obtain⟨r,hr⟩:∃r,r=(dA V.M x).1:=⟨_,rfl⟩;obtain⟨F,sJ⟩:∃F,F=(dA V.M x).2:=⟨_,rfl⟩;have zC:jV n V x=if r.er≠0 then(r,V)else if jR x=true/\oJ n V.L (uG V (oK x))then(eD 15,V)else(r,mG n (lM n V x F) (jH x.kind (gW V.M x.fd true).isSome)):=by rw[hr,sJ];rfl
 have Aj:=acp hr;have zB:=acp sJ;have sQ:=acp zC;have qL:=acp E;have AB:=acp l6;have xW:=acp (And.intro hN (And.intro wJ (And.intro hg yL)));have Tx:=acp k1;have HX:=acp hx;have DR:=acp z;obtain⟨c0,c1,c2,-⟩:=kS k1;obtain⟨b0,b1,b2,b3,b4,b5,b6,b7,b8⟩:=Cm tO;unfold opC at aN⊢;have A8:=acp aN;rw[aN]at c0 c1 c2 b0 b1 b2 b3 b4 b5 b6 b7 b8;clear h hM tO xQ aN yZ zT iT xZ y5 iE k1 k2 k3 k4 yT zC E l6 hN wJ hg yL hr sJ hx z vD;go_enter Tryz.func6,Tryz.ntmps6;go_wp2_with fail;rw[<-A8.o]at c0 c1 c2 b0 b1 b2 b3 b4 b5 b6 b7 b8⊢;refine K8.o.mono ?_;rintro e w3 ⟨q3,o3,rfl,bS,Gf⟩;have O:¬Five C 0:=λ e=>by have:=e.1;omega
 have xR:=acp bS;have Bt:=bS.keep.size;have Du:=acp Gf;have yS:=acp (MX Gf.st x.fd);have sF:=acp (st_do Gf (by omega) (by omega) x HX.o da dc (jo.o.free O bS) m DR.o);clear c0 c1 c2 b0 b1 b2 b3 b4 b5 b6 b7 b8;obtain⟨b0,b1,b2,b3,b4,b5,b6,b7,b8⟩:=BK.o o3 w3 _ O bS;unfold opC at sF;clear bS Gf K8;go_wp2_with fail;refine yS.o.mono ?_;rintro e _ ⟨rfl,rfl⟩;obtain⟨wr,vg⟩:∃wr,wr=(gW V.M x.fd true).isSome:=⟨_,rfl⟩;rw[<-vg];have AL:=acp vg;clear vg yS;go_wp2_with fail;refine sF.o.mono ?_;rintro e w4 ⟨o4,⟨y4,rfl,yU,yV,yX,yY,rfl,p1,p2,p3,p4⟩,uJ,pF⟩;have jl:=acp (xR.o.trans uJ);have rM:=acp pF;have Bq:=uJ.keep.size;rw[<-zB.o]at rM;rw[<-Aj.o]at p1 p2 p3 p4⊢;have Y:=acp (And.intro p1 (And.intro p2 (And.intro p3 p4)));obtain⟨a4,a5,a6,a7,a8,a9,yE⟩:=U2 r;have ZY:=acp yE;clear uJ pF p1 p2 p3 p4 sF b0 b1 b2 b3 b4 b5 b6 b7 b8 yE;have y7:w.heap.size+1<w4.heap.size:=by omega
 have Od:o4 (w.heap.size+1)=B+13:=(jl.o.old _ GX).trans yH.o;have gy:¬Five C (B+13):=λ e=>by have:=e.1;have:=e.2;omega
 have yA:w4.heap[w.heap.size+1]? =some (.cells reZ 38 (0,0)):=(jl.o.block GX (by rw[yH.o];exact gy)).trans pU.o;have sW:=acp Od;have wZ:=acp yA;clear Od yA;by_cases bf:r.er=0
 case' neg=>
  have d9:(r.er==0)=false:=by simpa using bf
  have zN:acr (jV n V x=(r,V)):=acp (by rw[sQ.o,if_pos bf]);go_wp2_with (first|(refine aj (by rfl) 38 _ _ (by rfl) _ (eF r yU yV yX yY) (by rfl) (by rfl) _ (MapKept.heap_alloc _ _).1 bC rfl (bE _ _ _ _ _) ?_;intro w5 fT;obtain⟨ak,cB⟩:=xP rM.o.marks Y.o.1 Y.o.2.1 Y.o.2.2.1 Y.o.2.2.2 fT;have vC:=acp ak;have dK:=acp cB;obtain⟨r0,r1,r2,r3,r4,r5,r6,r7,r8,r9⟩:=Cn (by rw[<-ZY.o];exact ak.at_);clear fT cB ak)|(refine aj (by rfl) 38 _ _ (by rfl) (w.heap.size+1) (eF r yU yV yX yY) (by rfl) (by rw[ZY.o];rfl) _ ((dK.o.block _ y7).trans wZ.o) bC rfl (bE _ _ _ _ _) ?_;intro wG zG;have mR:=acp zG;clear zG r0 r1 r2 r3 r4 r5 r6 r7 r8 r9));have dI:Step o (Vm i B) w o4 w5:=((Nr.o.mono λ m z=> .inr ⟨by omega,by omega⟩).trans (jl.o.mono λ m z=> .inr ⟨by have:=z.1;omega,by have:=z.2;omega⟩)).then_ rU.o (λ e=>by rcases e with e|e<;>omega) dK.o;exact bI rfl rfl rfl mR.o.1 (by rw[zN.o];exact Y3 hB hi p8 vC.o mR.o sW.o ((Gi.o.step O (λ e=>by have:=e.1;omega) (λ e=>by have:=e.1;have:=e.2;omega) (λ e=>by have:=e.1;have:=e.2;omega) (λ e=>by have:=e.1;have:=e.2;omega) (λ e=>by have:=e.1;have:=e.2;omega) (λ e=>by have:=e.1;have:=e.2;omega) jl.o).grow dK.o) dI)
 case' pos=>
  have d9:(r.er==0)=true:=by simpa using bf
  have aC:¬Five C (B+19):=λ e=>by have:=e.1;have:=e.2;omega
  go_wp2_with (refine aj (by rfl) 38 _ _ (by rfl) _ (eF r yU yV yX yY) (by rfl) (by rfl) _ (MapKept.heap_alloc _ _).1 bC rfl (bE _ _ _ _ _) ?_;intro w5 fT;obtain⟨ak,cB⟩:=xP rM.o.marks Y.o.1 Y.o.2.1 Y.o.2.2.1 Y.o.2.2.2 fT;have vC:=acp ak;have dK:=acp cB;obtain⟨r0,r1,r2,r3,r4,r5,r6,r7,r8,r9⟩:=Cn (by rw[<-ZY.o];exact ak.at_);clear fT cB ak;have gL:=acp (jl.o.then_ tF.o O dK.o);obtain⟨b0,b1,b2,b3,b4,b5,b6,b7,b8⟩:=BK.o o4 w5 _ O gL.o);have HT:=acp (UZ x da dc w5);unfold opC at HT;refine HT.o.mono ?_;rintro e U ⟨rfl,vB⟩;have aA:=dK.o.trans (vB.mono dK.o.size);have Bl:=acp aA;have NK:=acp (vC.o.grow (rM.o.marks.grow dK.o) vB);have kW:=acp (jl.o.then_ tF.o O aA);have Ci:=acp (rM.o.grow aA);have vL:=Gi.o.low;have wH:acr (o4 v=B+19):=acp ((jl.o.old _ vL).trans Gi.o.own);have Bo:v≠w.heap.size:=λ e=>by have:=wH.o;rw[e,jl.o.old _ (by omega),zJ.o]at this;omega
  clear b0 b1 b2 b3 b4 b5 b6 b7 b8 r0 r1 r2 r3 r4 r5 r6 r7 r8 r9 HT vB aA;obtain⟨b0,b1,b2,b3,b4,b5,b6,b7,b8⟩:=BK.o o4 U _ O kW.o;have qQ:=RD.o o4 U _ aC kW.o;obtain⟨c0,c1,c2,c3,c4,c5,c6,c7,c8,c9,M,J⟩:=kS qQ;have cf:∀k,U.frozen? ⟨v,k,none⟩=false:=λ k=>by simp[World.frozen?,qQ]
  clear qQ;have Vd:C=B\/C=B+14:=by omega
  obtain⟨tb,sO⟩:∃tb,tb=jR x:=⟨_,rfl⟩;rw[<-sO];have X:=acp sO;have uT:¬Jm i B 0:=λ e=>by rcases e with e|e|e<;>omega
  have dG:=xW.o.2.2.2;rw[<-zB.o]at dG;have zR:=acp dG;clear sO dG;go_upto_if 30 with(fail)
  go_cut [8,9]from 31 to 53 (λ _ _ wx=>¬(jR x=true/\oJ n V.L (uG V (oK x)))/\∃D,Step o4 (Jm i B) U D wx/\gK D (B+20) wx p n d (mL V x)/\dw D i wx d n (mB n V x) True (mC V x))
  case first=>
   cases tb
   ·have GJ:acr (¬(jR x=true/\oJ n V.L (uG V (oK x)))/\∃D,Step o4 (Jm i B) U D U/\gK D (B+20) U p n d (mL V x)/\dw D i U d n (mB n V x) True (mC V x)):=acp ⟨λ e=>(by have:=X.o;rw[e.1]at this;cases this),o4,Step.grow Ci.o.marks acu,by unfold mL;rw[<-X.o];exact wF.o.step O (λ e=>by have:=e.1;have:=e.2;omega) kW.o,by unfold mB mC;rw[<-X.o];exact Gi.o.disk.step (λ e=>by have:=e.1;omega) kW.o⟩;go_wp2_with fail
    go_meet
    exact GJ.o
   ·obtain⟨f1,f2,f3,f4,f5,f6,f7,oF,nR⟩:=RZ X.o.symm;have lC:=U8 x qL.o f1 f2 f3 f4 f5 f6 f7 oF da dc U (jo.o.free O kW.o) Ad;rw[<-nR]at lC;unfold opC at lC;have OO:=acp lC;clear lC oF nR;go_wp2_with fail;refine OO.o.mono ?_;rintro e w7 ⟨a7,n7,AQ,rfl,Lr,rT,jG⟩;obtain rfl:n7=(oK x).length:=by have:=rT.length;simpa using this.symm
    have l5:=acp ((wF.o.step O (λ e=>by have:=e.1;have:=e.2;omega) kW.o).grow Ci.o.marks (jG.trans (Below.refl _ w7).drew));have y9:=acp ((Gi.o.disk.step (λ e=>by have:=e.1;omega) kW.o).grow (jG.trans (Below.refl _ w7).drew));have EK:=acp (Ci.o.marks.grow (jG.trans (Below.refl _ w7).drew));have xS:=FI l5.o (by have:=AB.o.next;have:=xW.o.1;omega) (by have:=AB.o.few;omega);have DT:=acp xS;have uW:acr (ah (Free o4 w7.drew) w7.drew a7 (oK x).length ((oK x).map bv)):=acp ((rT.below (Below.refl _ w7).drew acs).mono λ b hb=>⟨Wy λ h9=>by have:=(Ci.o.marks.new _ h9).2;omega,hb.2⟩);have nE:acr (Below U.heap.size U w7.drew):=acp (jG.trans (Below.refl _ w7).drew);have wD:=acp (λ(u:World) (hb:Below U.heap.size U u)=>kS ((hb.block v (by have:=kW.o.keep.size;omega)).trans (RD.o o4 U _ aC kW.o)));clear rT xS OO jG b0 b1 b2 b3 b4 b5 b6 b7 b8 c0 c1 c2 c3 c4 c5 c6 c7 c8 c9 M J cf;obtain⟨c0,c1,c2,c3,c4,c5,c6,c7,c8,c9,M,J⟩:=wD.o _ nE.o;clear c0 c1 c3 c4 c5 c6 c7 c8 c9 M J;have xI:=acp c2;clear c2;go_wp2_with fail;refine su ((λ w'=>w'.cell? ⟨v,2,none⟩=some (ptr p))) ?_ λ A=> ?_
    ·exact xI.o
    refine aM 0 A ?_;refine aM 1 A ?_;refine aM 2 A ?_;refine aM 3 A ?_;refine aM 4 A ?_;refine aM 5 A ?_;refine aM 6 A ?_;refine aM 7 A ?_;refine aM 9 A ?_;refine lJ 8 λ K R=> ?_;go_simp;refine DT.o.mono ?_;rintro e w8 ⟨rfl,jw⟩;have qY:acr (Below U.heap.size U w8):=acp (nE.o.trans (jw.mono nE.o.size));have lI:=Vb (t:=B+10) (l5.o.grow EK.o jw) (y9.o.grow jw) (EK.o.grow jw) (by omega) lX (by omega) ⟨by omega,by omega,by omega⟩ AB.o (by have:=xW.o.1;omega) (by have:=xW.o.2.1;omega) (uG V (oK x)) ⟨.inl rfl,by have h1:=AB.o.next;have h2:=xW.o.1;show 0<=V.L.next+(V.L.wait.length:Int)/\V.L.next+(V.L.wait.length:Int)<=1099511627776;omega,Kc qL.o⟩ rfl a7 AQ (uW.o.grow' jw EK.o) Lr;unfold vw at lI;rw[show(uG V (oK x)).kind=1 from rfl,show(uG V (oK x)).seq=V.L.next+(V.L.wait.length:Int)from rfl,show(uG V (oK x)).body=oK x from rfl]at lI;have ZX:=acp lI;clear lI jw DT;go_wp2_with fail;refine kV R ((wD.o _ qY.o).2.2.1) λ A=> ?_;clear R K;refine aM 10 A ?_;refine lJ 11 λ K R=> ?_;go_simp;refine ZX.o.mono ?_;rintro e w9 ⟨D,yN,av⟩;have fK:Step o4 (Jm i B) U D w9:=Step.behind Ci.o.marks qY.o (yN.mono λ k hk=>by rcases hk with hk|hk|hk;exact .inr (.inr hk);exact .inl hk;exact .inr (.inl ⟨by omega,by omega⟩));have oD:=acp fK;have oO:acr (w9.cell? ⟨v,2,none⟩=some (ptr p)):=acp (kS ((fK.block (by have:=kW.o.keep.size;omega) (by rw[wH.o];exact λ e=>by rcases e with e|e|e<;>omega)).trans (RD.o o4 U _ aC kW.o))).2.2.1;clear yN fK ZX;rcases av with⟨aH,rfl,VG,Rk⟩|⟨aH,rfl,VG,Rk⟩
    ·have uK:=acp aH;have Bw:=acp VG;have Al:=acp Rk;have q8:acr (jV n V x=(eD 15,V)):=acp (by rw[sQ.o,if_neg (λ e=>e bf),if_pos ⟨X.o.symm,aH⟩]);have Dx:=acp ((kW.o.mono λ m z=>(.inl z:Five C m\/Jm i B m)).trans (oD.o.mono λ m z=> .inr z));have x9:=wU Tx.o Di.o qN.o Gi.o.own (λ m z=>by rcases z with z|z|z|z<;>(try have:=z.1)<;>(try have:=z.2)<;>omega) Dx.o Rk VG;have Az:=acp x9;have z8:acr (D (w.heap.size+1)=B+13):=acp ((Dx.o.old _ GX).trans yH.o);have aB:=acp ((Dx.o.block GX (by rw[yH.o];exact λ e=>by rcases e with e|e;exact gy e;rcases e with e|e|e<;>omega)).trans pU.o);have GR:acr (Step o (Vm i B) w D w9):=acp ((Nr.o.mono λ m z=> .inr ⟨by omega,by omega⟩).trans (Dx.o.mono λ m z=>by rcases z with z|z|z|z;exact .inr ⟨by have:=z.1;omega,by have:=z.2;omega⟩;exact .inl z;exact .inr ⟨by omega,by omega⟩;exact .inr ⟨by omega,by omega⟩));clear aH VG Rk x9;go_wp2_with fail;refine kV R (oO.o) λ A=> ?_;clear R K;refine aM 12 A ?_;refine rH ?_;clear A;go_wp2_with (refine aj (by rfl) 38 _ _ (by rfl) (w.heap.size+1) (eF (eD 15) none none 0 0) (by rfl) (by rfl) _ aB.o bC rfl (bE _ _ _ _ _) ?_;intro wG zG;have mR:=acp zG;clear zG);exact bI rfl rfl rfl mR.o.1 (by rw[q8.o];exact vd_end0 hB hi p8 mR.o z8.o Az.o GR.o rfl rfl)
    ·have GJ:acr (¬(jR x=true/\oJ n V.L (uG V (oK x)))/\∃D,Step o4 (Jm i B) U D w9/\gK D (B+20) w9 p n d (mL V x)/\dw D i w9 d n (mB n V x) True (mC V x)):=acp ⟨λ e=>aH e.2,D,oD.o,by unfold mL;rw[<-X.o];exact VG,by unfold mB mC;rw[<-X.o];exact Rk⟩;clear aH VG Rk;go_wp2_with fail;refine kV R (oO.o) λ A=> ?_;clear R K;refine aM 12 A ?_;refine rH ?_;clear A;go_wp2_with fail
     go_meet
     exact GJ.o
  case rest=>
   obtain⟨tq,D,yN,VG,Rk⟩:=hcut;obtain⟨u1,rfl⟩:∃u1:World,u1=wc:=⟨_,rfl⟩;have q8:acr (jV n V x=(r,mG n (lM n V x F) (jH x.kind (gW V.M x.fd true).isSome))):=acp (by rw[sQ.o,if_neg (λ e=>e bf),if_neg tq]);have bn:acr (kT n (N+1) (mL V x)/\mC V x<=V.c+8):=acp (by
    unfold mL mC;cases hb:jR x
    ·exact⟨⟨AB.o.sealed,⟨AB.o.next.1,by have:=AB.o.next.2;show V.L.next+(V.L.wait.length:Int)<=N+1;omega⟩,AB.o.recs,AB.o.size,AB.o.GU,AB.o.head,AB.o.room⟩,by show V.c<=V.c+8;omega⟩
    ·exact⟨AB.o.add ⟨.inl rfl,by have h1:=AB.o.next;have h2:=xW.o.1;show 0<=V.L.next+(V.L.wait.length:Int)/\V.L.next+(V.L.wait.length:Int)<=1099511627776;omega,Kc qL.o⟩ rfl λ e=>tq ⟨hb,e⟩,by show Dw V.c V.L _<=V.c+8;unfold Dw;split<;>omega⟩)
   have Dx:=acp ((kW.o.mono λ m z=>(.inl z:Five C m\/Jm i B m)).trans (yN.mono λ m z=> .inr z));have wL:¬(Five C 0\/Jm i B 0):=λ e=>by rcases e with e|e;exact O e;exact uT e
   have xE:¬(Five C (B+19)\/Jm i B (B+19)):=λ e=>by rcases e with e|e|e|e;exact aC e;omega;omega;omega
   have qP:acr (u1.heap[v]? =some (.cells (Z9 n d q p ia ic V.gen V.seq V.dN V.recs ha hc) 62 (0,0))):=acp (RD.o D u1 _ xE Dx.o);have rF:=acp (Ci.o.Az uT (λ e=>by rcases e with e|e|e<;>omega) (λ e=>by rcases e with e|e|e<;>omega) (λ e=>by rcases e with e|e|e<;>omega) yN);have om:=acp (qN.o.free wL Dx.o);have nA:acr (D v=B+19):=acp ((Dx.o.old _ vL).trans Gi.o.own);have vV:=acp (NK.o.step uT yN);have jL:acr (D (w.heap.size+1)=B+13):=acp ((Dx.o.old _ GX).trans yH.o);have iN:=acp ((Dx.o.block GX (by rw[yH.o];exact λ e=>by rcases e with e|e;exact gy e;rcases e with e|e|e<;>omega)).trans pU.o);have mQ:acr (Step o (Vm i B) w D u1):=acp ((Nr.o.mono λ m z=> .inr ⟨by omega,by omega⟩).trans (Dx.o.mono λ m z=>by rcases z with z|z|z|z;exact .inr ⟨by have:=z.1;omega,by have:=z.2;omega⟩;exact .inl z;exact .inr ⟨by omega,by omega⟩;exact .inr ⟨by omega,by omega⟩));have yO:=acp VG;have xU:=acp Rk;clear tq yN VG Rk b0 b1 b2 b3 b4 b5 b6 b7 b8 c0 c1 c2 c3 c4 c5 c6 c7 c8 c9 M J cf X;obtain⟨b0,b1,b2,b3,b4,b5,b6,b7,b8⟩:=BK.o D u1 _ wL Dx.o;obtain⟨c0,c1,c2,c3,c4,c5,c6,c7,c8,c9,M,J⟩:=kS qP.o;have cf:∀k,u1.frozen? ⟨v,k,none⟩=false:=λ k=>by simp[World.frozen?,qP.o]
   go_wp2_with fail;have mY:=va_put qP.o rF.o yO.o om.o nA.o xU.o hB hi Vd;have oU:=acp mY;have Zl:=acp (U1 x wr da dc (u1.setCell ⟨v,1,none⟩ (ptr q3)));unfold opC at Zl;clear mY b0 b1 b2 b3 b4 b5 b6 b7 b8 c0 c1 c2 c3 c4 c5 c6 c7 c8 c9 M J cf;obtain⟨u7,sK⟩:∃u7,u7=u1.setCell ⟨v,1,none⟩ (ptr q3):=⟨_,rfl⟩;rw[<-sK]at oU Zl;rw[show u1.setCell {block:=v,off:=1} (Value.pointer (some {block:=q3,off:=0}))=u7 from sK.symm];clear sK;obtain⟨sf,lN⟩:∃sf,sf=jH x.kind wr:=⟨_,rfl⟩;rw[<-lN]at Zl;have nP:=Qx x.kind wr;rw[<-lN]at nP;have wI:acr (jV n V x=(r,mG n (lM n V x F) sf)):=acp (by rw[q8.o,lN,AL.o]);clear lN;refine Zl.o.mono ?_;rintro e u8 ⟨rfl,jw⟩;have ko:¬(0=B+19):=by omega
   have UO:acr (eB W D i B C u8 v n d (lM n V x F)):=acp (oU.o.1.grow jw);have Gd:=acp ((vV.o.step ko oU.o.2).grow oU.o.1.marks jw);have dM:=(qW.1 iN.o).1;have MQ:acr (u8.heap[w.heap.size+1]? =some (.cells reZ 38 (0,0))):=acp ((jw.block _ (Pd dM oU.o.2.keep.size)).trans ((oU.o.2.block dM (by rw[jL.o];omega)).trans iN.o));have Fe:acr (Step o (Vm i B) w D u8):=acp ((mQ.o.trans (oU.o.2.mono λ m z=> .inr ⟨by omega,by omega⟩)).then_ rU.o (λ e=>by rcases e with e|e<;>omega) jw);have xk:=acp ((rF.o.Az ko (by omega) (by omega) (by omega) oU.o.2).grow jw);clear jw Zl oU dM mQ vV iN rF om qP yO xU nA
   go_upto_block 0 with(fail)
   go_cut [10]from 61 to 73 (λ zQ wx=>∃wh:Bool,zQ= .bool wh/\wh=decide (sf=2/\I7 F=[])/\VgR W o i B C w v n d (GZ n (lM n V x F) sf) (w.heap.size+1) w4.heap.size r yU yV yX yY wx)
   case first=>
    rcases nP with rfl|rfl|rfl
    ·have GJ:acr (VgR W o i B C w v n d (GZ n (lM n V x F) 0) (w.heap.size+1) w4.heap.size r yU yV yX yY u8):=acp ⟨D,Fe.o,UO.o,Gd.o,jL.o,MQ.o⟩;go_wp2_with fail
     go_meet
     exact⟨false,rfl,(aad (λ e=>by cases e.1)).symm,GJ.o⟩
    ·obtain⟨q9,p9,A9,AV,zI,Dj,k1,k2,k3,k4⟩:=UO.o.at_;dsimp only[lM]at k1 k2 k3 k4;have bq:=acp (RV k3 UO.o.disk k2.marks (by omega) lX (by omega) bn.o.1 (by have:=xW.o.1;omega) (by have:=bn.o.2;have:=xW.o.2.1;show mC V x<=1000000000;omega));have CP:=acp k1;have rW:=acp k2;have sS:=acp k4;obtain⟨c0,c1,c2,c3,c4,c5,c6,c7,c8,c9,M,J⟩:=kS k1;clear k1 k2 k3 k4;go_wp2_with fail;refine bq.o.mono ?_;rintro e ws ⟨rfl,uU,jc,Zm,Zn⟩;have u6:¬(0=B+20\/0=i):=by omega
     have vk:=(qW.1 MQ.o).1;have GJ:acr (VgR W o i B C w v n d (Da n (lM n V x F)) (w.heap.size+1) w4.heap.size r yU yV yX yY ws):=acp ⟨uU,Fe.o.trans (jc.mono λ m z=>by rcases z with z|z;exact .inr ⟨by omega,by omega⟩;exact .inl z),wU CP.o rW.o sS.o UO.o.own (λ m z=>by omega) jc Zm Zn,Gd.o.step u6 jc,(jc.old _ vk).trans jL.o,(jc.block vk (by rw[jL.o];omega)).trans MQ.o⟩;clear jc vk Zm Zn bq c0 c1 c2 c3 c4 c5 c6 c7 c8 c9 M J;go_wp2_with fail
     go_meet
     exact⟨false,rfl,(aad (λ e=>by cases e.1)).symm,GJ.o⟩
    ·obtain⟨OL,qb⟩:∃l,l=I7 F:=⟨_,rfl⟩;have iD:=FW xk.o.st;rw[<-qb]at iD;have mq:=acp iD;obtain⟨wh,jm⟩:∃wh:Bool,((OL.length:Int)==0)=wh:=⟨_,rfl⟩;have Vx:acr (wh=decide (((2:Int)=2)/\I7 F=[])):=acp (by
      rw[<-jm,<-qb];cases OL with
      |nil=>rfl
      |cons a l=>rw[aad (λ e=>by cases e.2)];simp;omega)
     clear iD qb;go_wp2_with fail;refine mq.o.mono ?_;rintro e v8 ⟨oa,oc,rfl,Bv,AO,BL⟩;have yc:=(qW.1 MQ.o).1;have dn:=acp (UO.o.grow BL);have vS:=acp (Gd.o.grow UO.o.marks BL);have dN:=acp ((BL.block _ yc).trans MQ.o);have uS:acr (Step o (Vm i B) w D v8):=acp (Fe.o.then_ rU.o (λ e=>by rcases e with e|e<;>omega) BL);clear yc AO BL mq;obtain⟨q9,p9,A9,AV,zI,Dj,k1,k2,k3,k4⟩:=dn.o.at_;dsimp only[lM]at k1 k2 k3 k4;have bq:=acp (RV k3 dn.o.disk k2.marks (by omega) lX (by omega) bn.o.1 (by have:=xW.o.1;omega) (by have:=bn.o.2;have:=xW.o.2.1;show mC V x<=1000000000;omega));have CP:=acp k1;have rW:=acp k2;have sS:=acp k4;obtain⟨c0,c1,c2,c3,c4,c5,c6,c7,c8,c9,M,J⟩:=kS k1;clear k1 k2 k3 k4;go_wp2_with fail;refine bq.o.mono ?_;rintro e ws ⟨rfl,uU,jc,Zm,Zn⟩;have u6:¬(0=B+20\/0=i):=by omega
     have vk:=(qW.1 dN.o).1;have GJ:acr (VgR W o i B C w v n d (Da n (lM n V x F)) (w.heap.size+1) w4.heap.size r yU yV yX yY ws):=acp ⟨uU,uS.o.trans (jc.mono λ m z=>by rcases z with z|z;exact .inr ⟨by omega,by omega⟩;exact .inl z),wU CP.o rW.o sS.o dn.o.own (λ m z=>by omega) jc Zm Zn,vS.o.step u6 jc,(jc.old _ vk).trans jL.o,(jc.block vk (by rw[jL.o];omega)).trans dN.o⟩;clear jc vk Zm Zn bq c0 c1 c2 c3 c4 c5 c6 c7 c8 c9 M J;go_wp2_with fail
     go_meet
     exact⟨wh,rfl,Vx.o,GJ.o⟩
   case rest=>
    obtain⟨wh,rfl,jm,hR⟩:=hcut;obtain⟨u9,rfl⟩:∃u9:World,u9=wc:=⟨_,rfl⟩;have uq:=acp jm;have ig:=acp hR;clear jm hR UO Gd MQ Fe xk;go_upto_if 74 with(fail)
    go_cut [11,12]from 75 to 100 (λ _ _ wx=>VgR W o i B C w v n d (mG n (lM n V x F) sf) (w.heap.size+1) w4.heap.size r yU yV yX yY wx)
    case first=>
     cases wh
     ·have GJ:acr (VgR W o i B C w v n d (mG n (lM n V x F) sf) (w.heap.size+1) w4.heap.size r yU yV yX yY u9):=acp (by
       have h9:=of_decide_eq_false uq.o.symm;unfold mG;rw[if_neg λ e=>h9 ⟨e.1,e.2.1⟩];exact ig.o)
      go_wp2_with fail
      go_meet
      exact GJ.o
     ·obtain⟨zD,sw⟩:=of_decide_eq_true uq.o.symm;have sj:GZ n (lM n V x F) sf=Da n (lM n V x F):=if_neg (by omega);obtain⟨oA,zf,iO,ze,Gt,Ko⟩:=ig.o;rw[sj]at iO;have l9:=acp sj;obtain⟨qA,pA,uo,qM,rE,tH,k1,k2,k3,k4⟩:=iO.at_;dsimp only[Da,lM]at k1 k2 k3 k4;obtain⟨mk,jy⟩:∃mk,mk=uR (Da n (lM n V x F)) F (sL (mL V x)):=⟨_,rfl⟩;have bD:=bn.o.1.seal;have wm:acr (Ch n mk):=acp (by
       rw[jy];have h1:=bD.next;have h2:=bD.sealed;have h3:=xW.o.1;have h4:=xW.o.2.2.1;have h5:fM n=(n-1-2*(n/4))/8:=rfl;have h6:=Gi.o.disk.len.2.1;have h7:(sL (mL V x)).next<=N+1:=by omega
       exact⟨⟨by show 1<=V.gen+1;omega,by show V.gen+1<=1099511627776;omega⟩,⟨by show 0<=(sL (mL V x)).next-1;omega,by show(sL (mL V x)).next-1<=1099511627776;omega⟩,⟨by show(0:Int)<=((sL (mL V x)).sealed:Int);omega,by show((sL (mL V x)).sealed:Int)<=((n:Int)-1-2*((n:Int)/4))/8;omega⟩,bD.head⟩)
      have l7:=(qW.1 k1).1;have vv:oA v=B+19:=iO.own;have aD:=acp k2.marks;have JJ:acr (∀(u:World) (o':Mark),Step oA (λ m=>m=B+11) u9 o' u->Dy 29 #[ptr d,.agg (sM n uo qM V.gen V.seq V.dN V.recs rE tH),ptr qA,ptr pA] u (RY o' i (B+12) u n d (sB n (mB n V x) (mL V x)) (sC (mC V x) (mL V x)) V.id mk)):=acp λ u o' hs=>by
       have uY:¬(0=B+11):=by omega
       have e1:=bn.o.2;have e2:=xW.o.2.1;have e3:sC (mC V x) (mL V x)<=mC V x+8:=by unfold sC;split<;>omega
       have h1:=bD.next;have h3:=xW.o.1;exact Qu (iO.disk.step (by omega) hs) (k3.step uY (by omega) hs) (k2.Az uY (by omega) (by omega) (by omega) hs) lX (by omega) (by omega) (by show sC (mC V x) (mL V x)<=10000000000;omega) (sL_wait _) sw ⟨h1.1,by omega⟩ V.gen V.seq V.dN V.recs ⟨xW.o.2.2.1.1,by have:=xW.o.2.2.1.2;omega⟩ mk (by rw[jy];rfl) wm.o (k2.ok.sv (by omega) zR.o) V.id uo rE qM tH (k4.free uY hs)
      have aL:=acp (λ(u:World) (o':Mark) (I:Nat->Prop) (h0:¬I (B+19)) (hs:Step oA I u9 o' u)=>kS ((hs.block l7 (by rw[vv];exact h0)).trans k1));obtain⟨c0,c1,c2,c3,c4,c5,c6,c7,c8,c9,M,J⟩:=kS k1;have ni:=acp k1;have pE:=acp k2;have oC:=acp k4;have nC:=acp k3;have o8:=acp vv;have sU:=acp jy;have y8:=acp ze;have o7:=acp Gt;have aB:=acp Ko;have GR:=acp zf;have Bp:=acp sw;clear k1 k2 k3 k4 l7 vv zf iO ze Gt Ko jy bD sj sw zD;unfold sM at JJ;go_wp2_with fail;refine DX (P:=∀(u:World) (o':Mark) (g:Nat) (cs:Array Value) (y:Int),SyG oA i B u9 u o' g n d (sB n (mB n V x) (mL V x)) (sC (mC V x) (mL V x)) V.id mk cs y->(?G:World->Mark->Nat->Array Value->Int->Prop) u o' g cs y) (λ AP=> ?r1) ?r2
      case' r1=>
       have Pg:Step oA (λ m=>m=B+11) u9 oA u9.drew:=Step.grow aD.o (Below.refl _ u9).drew;refine su ((λ w'=>w'.cell? ⟨v,0,none⟩=some (ptr d)/\w'.cell? ⟨v,1,none⟩=some (ptr qA)/\w'.cell? ⟨v,2,none⟩=some (ptr pA)/\w'.cell? ⟨v,3,none⟩=some (.int .i64 (n:Int))/\w'.cell? ⟨v,4,none⟩=some (.int .i64 ((n:Int)/4))/\w'.cell? ⟨v,5,none⟩=some (.int .i64 (((n:Int)-1-2*((n:Int)/4))/8))/\w'.cell? ⟨v,6,none⟩=some (.slice uo 16 qM)/\w'.cell? ⟨v,7,none⟩=some (.int .u64 V.gen)/\w'.cell? ⟨v,8,none⟩=some (.int .u64 V.seq)/\w'.cell? ⟨v,9,none⟩=some (.int .i64 V.dN)/\w'.cell? ⟨v,10,none⟩=some (.int .i64 V.recs)/\w'.cell? ⟨v,11,none⟩=some (.slice rE 32 tH))) ?_ λ A=> ?_
       ·exact aL.o _ _ _ (by omega) Pg
       refine aM 0 A ?_;refine aM 1 A ?_;refine aM 2 A ?_;refine aM 3 A ?_;refine aM 4 A ?_;refine aM 5 A ?_;refine aM 6 A ?_;refine aM 7 A ?_;refine aM 8 A ?_;refine aM 9 A ?_;refine aM 10 A ?_;refine aM 11 A ?_;refine aM 12 A ?_;refine aM 13 A ?_;refine aM 14 A ?_;refine aM 15 A ?_;have pK:Below u9.heap.size u9 u9.drew:=(Below.refl _ u9).drew;obtain⟨v0,wR⟩:∃v0,v0=u9.drew:=⟨_,rfl⟩;rw[<-wR]at A Pg pK⊢;clear wR;refine rdH2 16 20 (λ K R=> ?_) λ K R=> ?_
       case' refine_1=>
        go_simp;refine(JJ.o _ _ Pg).mono ?_;rintro e Z ⟨cs,y,wB,rfl,kN,nJ,Ve,iM⟩;have wV:Step oA (λ m=>m=i\/m=B+11\/m=B+12) u9 wB Z:=(Pg.mono λ m z=> .inr (.inl z)).trans (Ve.mono λ m z=>by omega);have OQ:=aD.o.step (λ e=>by omega) wV;go_wp2_with fail;refine kV R (aL.o _ _ _ (by omega) wV) λ A=> ?_;clear R K;refine aM 17 A ?_;refine aM 18 A ?_;refine aM 19 A ?_;refine lJ 20 λ K R=> ?_;go_simp;have hq:=(MapKept.heap_alloc Z (.cells #[.int .i64 0,.int .i64 0,.int .i64 0,.slice none 0 0,.int .u64 0,.int .u64 0,.int .i64 0,.int .i64 0,.slice none 0 0] 60)).1;obtain⟨S,Q,H,-⟩:=cK OQ (B+11) (λ y=>y=Z.heap.size) (w':=Z.alloc (.cells #[.int .i64 0,.int .i64 0,.int .i64 0,.slice none 0 0,.int .u64 0,.int .u64 0,.int .i64 0,.int .i64 0,.slice none 0 0] 60)) (λ y hy=>by subst hy;simp) (wall Z _);have aJ:=wV.trans (Q.mono λ m z=>(.inr (.inl z):m=i\/m=B+11\/m=B+12));have kg:=SvD.step iM (by omega) (by omega) Q;have jv:=OQ.step (by omega) Q;have H:=H _ rfl;refine kV R (aL.o _ _ _ (by omega) aJ) λ A=> ?_;clear R K;obtain⟨u,hu⟩:∃u,u=Z.alloc (.cells #[.int .i64 0,.int .i64 0,.int .i64 0,.slice none 0 0,.int .u64 0,.int .u64 0,.int .i64 0,.int .i64 0,.slice none 0 0] 60):=⟨_,rfl⟩;obtain⟨g,hg⟩:∃g,g=Z.heap.size:=⟨_,rfl⟩;rw[<-hu]at A hq Q aJ kg jv⊢;rw[<-hg]at hq H⊢;clear hu hg Ve iM wV OQ Q
       case' refine_2=>
        go_simp;have hq:=(MapKept.heap_alloc v0 (.cells #[.int .i64 0,.int .i64 0,.int .i64 0,.slice none 0 0,.int .u64 0,.int .u64 0,.int .i64 0,.int .i64 0,.slice none 0 0] 60)).1;obtain⟨wB,Ve,H,-⟩:=cK (aD.o.grow pK) (B+11) (λ y=>y=v0.heap.size) (w':=v0.alloc (.cells #[.int .i64 0,.int .i64 0,.int .i64 0,.slice none 0 0,.int .u64 0,.int .u64 0,.int .i64 0,.int .i64 0,.slice none 0 0] 60)) (λ y hy=>by subst hy;simp) (wall v0 _);have wV:=Pg.trans Ve;have H:=H _ rfl;refine kV R (aL.o _ _ _ (by omega) wV) λ A=> ?_;clear R K;obtain⟨Z,hu⟩:∃u,u=v0.alloc (.cells #[.int .i64 0,.int .i64 0,.int .i64 0,.slice none 0 0,.int .u64 0,.int .u64 0,.int .i64 0,.int .i64 0,.slice none 0 0] 60):=⟨_,rfl⟩;obtain⟨g,hg⟩:∃g,g=v0.heap.size:=⟨_,rfl⟩;rw[<-hu]at A hq Ve wV⊢;rw[<-hg]at hq H⊢;have nS:=aD.o.step (by omega) wV;have bT:=(qW.1 hq).1;clear hu hg;refine lJ 16 λ K R=> ?_;go_simp;refine(JJ.o _ _ wV).mono ?_;rintro e u ⟨cs,y,S,rfl,kN,nJ,Q,kg⟩;have aJ:Step oA (λ m=>m=i\/m=B+11\/m=B+12) u9 S u:=(wV.mono λ m z=> .inr (.inl z)).trans (Q.mono λ m z=>by omega);have jv:=nS.step (λ e=>by omega) Q;have hq:=(Q.block bT (by rw[H];omega)).trans hq;have H:=(Q.old _ bT).trans H;go_wp2_with fail;refine kV R (aL.o _ _ _ (by omega) aJ) λ A=> ?_;clear R K;refine aM 17 A ?_;refine aM 18 A ?_;refine aM 19 A ?_;clear Ve wV nS Q bT
       all_goals
        refine lJ 21 λ K R=> ?_;refine bL (by rfl) 60 (.tmp 11) (.tmp 93) (by rfl) g cs (by rfl) (by rfl) _ hq (by rw[kN];exact rR) (by rw[kN];rfl) nJ ?_;intro vF hu;have dI:=hu.step jv H;have nG:SyG oA i B u9 vF S g n d (sB n (mB n V x) (mL V x)) (sC (mC V x) (mL V x)) V.id mk cs y:=⟨aJ.trans (dI.mono λ m z=> .inr (.inl z)),hu.1,SvD.step kg (by omega) (by omega) dI⟩;clear hu dI hq aJ kg jv H;refine kV R (aL.o _ _ _ (by omega) nG.1) λ A=> ?_;clear R K;refine aM 22 A ?_;refine rH ?_;exact AP vF S g cs y nG
      case r2=>
       intro u S g cs y hcut;obtain⟨Q,gM,av⟩:=hcut;have uV:¬(0=i\/0=B+11\/0=B+12):=by omega
       have vk:=(qW.1 aB.o).1;have nQ:=acp (y8.o.step uV Q);have O6:acr (S (w.heap.size+1)=B+13):=acp ((Q.old _ vk).trans o7.o);have dV:=acp ((Q.block vk (by rw[o7.o];omega)).trans aB.o);have l8:acr (Step o (Vm i B) w S u):=acp (GR.o.trans (Q.mono λ m z=>by rcases z with z|z|z;exact .inl z;exact .inr ⟨by omega,by omega⟩;exact .inr ⟨by omega,by omega⟩));rcases av with⟨rfl,E,ia,ic,ha,hc,rfl,Zo,mU⟩|⟨rfl,E,Zo⟩
       ·have RD:=acp (wU ni.o pE.o oC.o o8.o (λ m z=>by omega) Q Zo (nC.o.step uV (by omega) Q));obtain⟨f0,f1,f2,f3,f4,f5,f6,f7,f8⟩:=lW gM;have wE:=acp mU;have zF:acr (mG n (lM n V x F) sf=R3 n (Da n (lM n V x F))):=acp (by
         have h9:=of_decide_eq_true uq.o.symm;have h8:=sU.o;unfold mG;rw[if_pos ⟨h9.1,h9.2,by rw[h8]at E;exact E⟩,l9.o])
        clear Q Zo mU gM vk JJ;go_wp2_with (refine wpList_store_mid (by rfl) 60 _ _ (by rfl) v 3 (sM n ia ic mk.gen mk.seq mk.dN 0 ha hc) (by rfl) (by rfl) (Y5 RD.o) rR (xO _ _ _ _ _ _ _ _ _) ?_;obtain⟨uZ,sP⟩:∃uZ,uZ=u.setCells v 3 (sM n ia ic mk.gen mk.seq mk.dN 0 ha hc).toList:=⟨_,rfl⟩;rw[<-sP];have aF:=acp (Y4 RD.o hB hi Vd ia ha ic hc _ _ _ 0 wE.o sP);clear sP f0 f1 f2 f3 f4 f5 f6 f7 f8;have ko:¬(0=B+19):=(by omega);have vk:=(qW.1 dV.o).1;have GJ:acr (VgR W o i B C w v n d (mG n (lM n V x F) sf) (w.heap.size+1) w4.heap.size r yU yV yX yY uZ):=acp (by rw[zF.o];have h8:=aF.o.1;rw[sU.o]at h8;exact⟨S,l8.o.trans (aF.o.2.mono λ m z=> .inr ⟨by omega,by omega⟩),h8,nQ.o.step ko aF.o.2,O6.o,(aF.o.2.block vk (by rw[O6.o];omega)).trans dV.o⟩);clear vk)
        go_meet
        exact GJ.o
       ·have GJ:acr (VgR W o i B C w v n d (mG n (lM n V x F) sf) (w.heap.size+1) w4.heap.size r yU yV yX yY u):=acp (by
         have h8:=sU.o;have h7:mG n (lM n V x F) sf=Da n (lM n V x F):=by
          unfold mG;rw[if_neg λ e=>E (by rw[h8];exact e.2.2),l9.o]
         rw[h7];exact⟨S,l8.o,wU ni.o pE.o oC.o o8.o (λ m z=>by omega) Q Zo (nC.o.step uV (by omega) Q),nQ.o,O6.o,dV.o⟩)
        clear Q Zo gM vk JJ E;go_wp2_with fail
        go_meet
        exact GJ.o
    case rest=>
     obtain⟨oX,yu,wC,xA,vE,xB⟩:=hcut;obtain⟨uX,rfl⟩:∃uX:World,uX=wc:=⟨_,rfl⟩;have yB:=acp yu;have za:=acp wC;have oP:=acp xA;have vK:=acp vE;have xu:=acp xB;clear yu wC xA vE xB ig;obtain⟨r0,r1,r2,r3,r4,r5,r6,r7,r8,r9⟩:=Cn (by rw[<-ZY.o];exact oP.o.at_);go_wp2_with (refine aj (by rfl) 38 _ _ (by rfl) (w.heap.size+1) (eF r yU yV yX yY) (by rfl) (by rw[ZY.o,bf];rfl) _ xu.o bC rfl (bE _ _ _ _ _) ?_;intro wG zG;have mR:=acp zG;clear zG r0 r1 r2 r3 r4 r5 r6 r7 r8 r9);exact bI rfl rfl rfl mR.o.1 (by rw[wI.o];exact Y3 hB hi Vd oP.o mR.o vK.o za.o yB.o)
end
structure D6(n k:Nat)(V:oo):Prop where
 log:kT n ((k:Int)+3) V.L
 cs:V.cs<=1+3*(k:Int)
 c:V.c<=10000+3000*(k:Int)
 gen:0<=V.gen/\V.gen<=2+(k:Int)
 ids:qz V.M.s
theorem kT.mono{n:Nat}{N m:Int}{L:jq}(h:kT n N L)(u:N<=m):kT n m L:=
 ⟨h.sealed,⟨h.next.1,by have:=h.next.2;omega⟩,h.recs,h.size,h.GU,h.head,h.room⟩
theorem D6.mono{n k k':Nat}{V:oo}(h:D6 n k V)(m:k<=k'):D6 n k' V:=
 ⟨h.log.mono (by omega),by have:=h.cs;omega,by have:=h.c;omega,⟨h.gen.1,by have:=h.gen.2;omega⟩,h.ids⟩
theorem sC_le(c:Int)(L:jq):c<=sC c L/\sC c L<=c+8:=by
 unfold sC;split<;>omega
theorem midC_le(c:Int)(L:jq)(x:RecM):c<=Dw c L x/\Dw c L x<=c+8:=by
 unfold Dw;split<;>omega
theorem Vf(L:jq):L.sealed<=(sL L).sealed/\(sL L).sealed<=L.sealed+1:=by
 unfold sL;split
 ·omega
 ·show L.sealed<=L.sealed+1/\L.sealed+1<=L.sealed+1;omega
theorem Vg(V:oo)(x:iI):(mL V x).sealed<=V.L.sealed+1:=by
 unfold mL;cases jR x
 ·show V.L.sealed<=_;omega
 ·show(zx V.L _).sealed<=_;unfold zx;split
  ·show V.L.sealed+1<=_;omega
  ·omega
theorem recG_ok{n k:Nat}{V:oo}(h:D6 n k V)(u:k<=10000){x:iI}(m:mF x):wP (uG V (oK x)):=by
 have y:=h.log.next;exact⟨.inl rfl,⟨by show 0<=V.L.next+(V.L.wait.length:Int);omega,by show V.L.next+(V.L.wait.length:Int)<=1099511627776;omega⟩,Kc m⟩
theorem mL_ok{n k:Nat}{V:oo}(h:D6 n k V)(m:k<=10000){x:iI}(u:mF x)(z:¬(jR x=true/\oJ n V.L (uG V (oK x)))):kT n ((k+1:Nat)+3:Int) (mL V x):=by
 unfold mL;cases y:jR x
 ·exact h.log.mono (by omega)
 ·exact(h.log.add (recG_ok h m u) rfl λ e=>z ⟨y,e⟩).mono (by omega)
theorem R4(n:Nat)(V:oo)(s:Int):(GZ n V s).gen=V.gen/\(GZ n V s).M=V.M/\(GZ n V s).cs=V.cs/\V.c<=(GZ n V s).c/\(GZ n V s).c<=V.c+8:=by
 unfold GZ;split
 ·exact⟨rfl,rfl,rfl,by omega,by omega⟩
 ·exact⟨rfl,rfl,rfl,sC_le _ _⟩
theorem stV_log{n:Nat}{N:Int}{V:oo}(h:kT n N V.L)(s:Int):kT n N (GZ n V s).L:=by
 unfold GZ;split
 ·exact h
 ·exact h.seal
theorem endV_ok{n:Nat}{N:Int}{V:oo}(h:kT n N V.L)(s:Int):kT n N (mG n V s).L/\(mG n V s).M=V.M/\(mG n V s).cs=V.cs/\(mG n V s).c<=V.c+2008/\V.gen<=(mG n V s).gen/\(mG n V s).gen<=V.gen+1:=by
 obtain⟨B,u,y,z,A⟩:=R4 n V s;have m:=stV_log h s;unfold mG;split
 ·exact⟨m,u,y,by show(GZ n V s).c+2000<=_;omega,by show V.gen<=(GZ n V s).gen+1;omega,by show(GZ n V s).gen+1<=V.gen+1;omega⟩
 ·exact⟨m,u,y,by omega,by omega,by omega⟩
theorem Ke{n k:Nat}{V:oo}(h:D6 n k V)(D:k<=10000)(H:0<=V.M.s.next){x:iI}(F:mF x):D6 n (k+1) (jV n V x).2:=by
 unfold jV;split
 ·exact h.mono (by omega)
 ·split
  ·exact h.mono (by omega)
  ·rename_i K;obtain⟨y,u,C,m,B,A⟩:=endV_ok (V:=lM n V x (dA V.M x).2) (mL_ok h D F K) (jH x.kind (gW V.M x.fd true).isSome);have G:=midC_le V.c V.L (uG V (oK x));have N:mC V x<=V.c+8:=by
    unfold mC;cases jR x
    ·show V.c<=_;omega
    ·exact G.2
   have Q:=h.cs;have J:=h.c;have I:=h.gen;obtain⟨E,z⟩:∃E,E=mG n (lM n V x (dA V.M x).2) (jH x.kind (gW V.M x.fd true).isSome):=⟨_,rfl⟩;rw[<-z]at y u C m B A;have P:E.c<=mC V x+2008:=m;have R:V.gen<=E.gen:=B;have M:E.gen<=V.gen+1:=A;have O:E.cs=V.cs+1:=C;show D6 n (k+1) (mG n (lM n V x (dA V.M x).2) (jH x.kind (gW V.M x.fd true).isSome));rw[<-z];exact⟨y,by omega,by omega,by omega,by rw[u];exact h.ids.do_ H x⟩
theorem M_(n:Nat)(V:oo)(s:Int):(mG n V s).L.sealed<=V.L.sealed+1:=by
 have m:(GZ n V s).L.sealed<=V.L.sealed+1:=by
  unfold GZ;split
  ·omega
  ·exact(Vf _).2
 unfold mG;split<;>exact m
theorem F7(n:Nat)(V:oo)(x:iI):(jV n V x).2.L.sealed<=V.L.sealed+2:=by
 unfold jV;split
 ·show V.L.sealed<=_;omega
 ·split
  ·show V.L.sealed<=_;omega
  ·have m:=M_ n (lM n V x (dA V.M x).2) (jH x.kind (gW V.M x.fd true).isSome);have u:(lM n V x (dA V.M x).2).L.sealed<=V.L.sealed+1:=Vg V x;exact Nat.le_trans m (by omega)
theorem F8{n:Nat}{V:oo}(z:V.L.sealed+1<fM n)(x:iI):(jV n V x).1=(dA V.M x).1/\((dA V.M x).1.er=0->(jV n V x).2.M=(dA V.M x).2)/\((dA V.M x).1.er≠0->(jV n V x).2=V):=by
 unfold jV;split
 ·rename_i u;exact⟨rfl,λ e=>absurd e u,λ _=>rfl⟩
 ·rename_i u;rw[if_neg (λ e=>by rcases e.2 with y|y<;>omega)];refine⟨rfl,λ _=> ?_,λ e=>absurd e (by omega)⟩;obtain⟨-,m,-⟩:=R4 n (lM n V x (dA V.M x).2) (jH x.kind (gW V.M x.fd true).isSome);show(mG n _ _).M=_;unfold mG;split
  ·exact m
  ·exact m
theorem vdo_no{n:Nat}{V:oo}{x:iI}{M:dQ}(m:V.M=M)(h:(dA M x).1.er≠0):jV n V x=((dA M x).1,V):=by
 subst m;exact if_pos h
theorem Zp{n:Nat}{V:oo}{x:iI}{M:dQ}(u:V.M=M)(m:jR x=false):(jV n V x).1=(dA M x).1:=by
 subst u;unfold jV;split
 ·rfl
 ·rw[if_neg (λ e=>by rw[m]at e;cases e.1)]
structure Qy(V V':oo):Prop where
 b:V.b=V'.b
 m:V.M=V'.M
 l:V.L=V'.L
 gen:V.gen=V'.gen
theorem Qy.seal{n:Nat}{V V':oo}(h:Qy V V')(s:Int):Qy (GZ n V s) (GZ n V' s):=by
 unfold GZ;split
 ·exact h
 ·exact⟨by show sB n V.b V.L=sB n V'.b V'.L;rw[h.b,h.l],h.m,by show sL V.L=sL V'.L;rw[h.l],h.gen⟩
theorem Qy.save{n:Nat}{V V':oo}(h:Qy V V'):Qy (R3 n V) (R3 n V'):=by
 have e:uR V V.M V.L=uR V' V'.M V'.L:=by unfold uR;rw[h.m,h.l,h.gen]
 exact⟨by show Qw n V.b (uR V V.M V.L)=Qw n V'.b (uR V' V'.M V'.L);rw[e,h.b],h.m,h.l,by show(uR V V.M V.L).gen=(uR V' V'.M V'.L).gen;rw[e]⟩
theorem Qy.end_{n:Nat}{V V':oo}(h:Qy V V')(s:Int):Qy (mG n V s) (mG n V' s):=by
 unfold mG;rw[h.m];split
 ·exact(h.seal s).save
 ·exact h.seal s
theorem Qy.do_{n:Nat}{V V':oo}(h:Qy V V')(x:iI):(jV n V x).1=(jV n V' x).1/\Qy (jV n V x).2 (jV n V' x).2:=by
 have m:uG V (oK x)=uG V' (oK x):=by unfold uG;rw[h.l]
 unfold jV;rw[h.m,m,h.l];split
 ·exact⟨rfl,h⟩
 ·split
  ·exact⟨rfl,h⟩
  ·refine⟨rfl,?_⟩;show Qy (mG n (lM n V x (dA V'.M x).2) (jH x.kind (gW V'.M x.fd true).isSome)) (mG n (lM n V' x (dA V'.M x).2) (jH x.kind (gW V'.M x.fd true).isSome));refine Qy.end_ (V:=lM n V x (dA V'.M x).2) (V':=lM n V' x (dA V'.M x).2) ⟨?_,rfl,?_,h.gen⟩ _
   ·show mB n V x=mB n V' x;unfold mB;rw[m,h.l,h.b]
   ·show mL V x=mL V' x;unfold mL;rw[m,h.l]
theorem D6.begun{n:Nat}{V:oo}{t0 t:Int}(h:TkV n V t0 t 0 1)(A:0<fM n):D6 n 0 V:=by
 have y:=h.next;have z:=h.sealed;have B:=h.wait.few;have u:=h.gen;refine⟨⟨by omega,⟨y.1,by omega⟩,λ x m=>(h.wait.recs x m).1,?_,h.wait.GU,h.head,λ _=>by omega⟩,h.cs,h.c,⟨by omega,u.2⟩,by rw[h.mm];exact λ x m=>by cases m⟩;exact Nat.le_trans (size_le _ h.wait.recs) (by omega)
theorem Qz(D n:Int)(G F:Mx)(E I H C:Nat)(u m y A B:Int)(z:Bool)(w:World):(Instr.field 38 (.agg #[.int .i64 D,.int .i64 n,.slice G E I,.slice F H C,.int .i64 u,.int .i64 m,.int .i64 y,.int .i64 A,.int .u64 B,.bool z]) 4).run Tryz.prog w= .ok (.agg #[.int .i64 u,.int .i64 m,.int .i64 y,.int .i64 A,.int .u64 B,.bool z]) w:=by
 kernel_rfl
def awA:iI:=⟨1,[47,97],[],0,0,0,0,0,[]⟩
def awB:iI:=⟨5,[],[],0,0,0,0,0,[97,119,97,107,101]⟩
def awC:iI:=⟨6,[],[],0,0,0,5,0,[]⟩
def awU:iI:=⟨8,[47,97],[],0,0,0,0,0,[]⟩
def awS:iI:=⟨12,[47,97],[],0,0,0,0,0,[]⟩
def awM1:dQ:=(dA nH awA).2
def awM2:dQ:=(dA awM1 awB).2
def awM3:dQ:=(dA awM2 awC).2
def awR1:tZ:=(dA nH awA).1
def awR2:tZ:=(dA awM1 awB).1
def awR3:tZ:=(dA awM2 awC).1
def awR4:tZ:=(dA awM3 awU).1
def awR5:tZ:=(dA awM3 awS).1
theorem awf1:awR1.er=0:=by kernel_rfl
theorem awf2:awR2.er=0:=by kernel_rfl
theorem awn2:awR2.n=5:=by kernel_rfl
theorem awf3:awR3.er=0:=by kernel_rfl
theorem awf4:awR4.er=28:=by kernel_rfl
theorem awg5:awR5.node=some (1,⟨1,1,5,true,[97,119,97,107,101],[]⟩):=by kernel_rfl
theorem Na(x:iI)(h:x=awA\/x=awB\/x=awC\/x=awU\/x=awS):wM x:=by
 rcases h with rfl|rfl|rfl|rfl|rfl<;>exact PD (by decide) (by decide) (by decide) (by decide) (by decide) (by decide) (by decide) (by decide) (by decide)
theorem wW(x:iI)(h:x=awA\/x=awB\/x=awC\/x=awU\/x=awS):mF x:=by
 rcases h with rfl|rfl|rfl|rfl|rfl<;>exact⟨by decide,by decide,by decide,by decide,by decide,by decide,by decide,by decide,by decide⟩
theorem QA(y u z m B:Int)(A:Bool)(w:World):(Instr.field 36 (.agg #[.int .i64 y,.int .i64 u,.int .i64 z,.int .i64 m,.int .u64 B,.bool A]) 3).run Tryz.prog w= .ok (.int .i64 m) w:=by
 kernel_rfl
theorem Zq{W w:World}{o:Mark}{B v n d k:Nat}{V V':oo}{x:iI}{r:tZ}(h:eB W o 1 2 B w v n d V)(z:B=2\/B=16)(u:D6 n k V)(Q:k<=10000)(I:wM x)(H:mF x)(J:jV n V x=(r,V'))(D:Mx)(C:Nat)(A:ah (Free o w) w D x.data.length (x.data.map bv))(y:x.data.length<=C)(m:Int)(G:W.cell? ⟨2,0,none⟩=some (.int .i64 m))(E:Value)(K:E= .agg (opC x D C)):
  Dy 6 #[ptr v,E] w (FZ W o 1 2 w v n d V' r):=by
 subst K;obtain⟨q,p,N,P,M,O,-,k2,-⟩:=h.at_;have F:=M9 h (by omega) (by omega) (by omega) z (by have:=u.cs;omega) x I H u.log (by omega) (by have:=u.c;omega) ⟨u.gen.1,by have:=u.gen.2;omega⟩ (u.ids.do_ k2.ok.next.1 x) D C A m y G;rw[J]at F;exact F
theorem awx1:0<=awM1.s.next:=by decide
theorem awx2:0<=awM2.s.next:=by decide
theorem Nb{V:oo}(h:TkV 100 V 0 0 0 1):∃u y m N,D6 100 0 V/\D6 100 1 u/\D6 100 2 y/\D6 100 3 m/\jV 100 V awA=(awR1,u)/\jV 100 u awB=(awR2,y)/\jV 100 y awC=(awR3,m)/\jV 100 m awU=(awR4,m)/\jV 100 m awS=(awR5,N):=by
 have R:fM 100=6:=by decide
 have O:=h.sealed;have M:V.M=nH:=h.mm;have H:=D6.begun h (by omega);have D:=Ke H (by omega) (by rw[M];decide) (wW awA (by simp));have Q:=F7 100 V awA;obtain⟨r1,A,-⟩:=F8 (n:=100) (V:=V) (by omega) awA;rw[M]at r1 A;have A:=A awf1;obtain⟨u,G⟩:∃u,u=(jV 100 V awA).2:=⟨_,rfl⟩;rw[<-G]at D Q A;have C:=Ke D (by omega) (by rw[A];exact awx1) (wW awB (by simp));have P:=F7 100 u awB;obtain⟨r2,z,-⟩:=F8 (n:=100) (V:=u) (by omega) awB;rw[A]at r2 z;have z:=z awf2;obtain⟨y,I⟩:∃y,y=(jV 100 u awB).2:=⟨_,rfl⟩;rw[<-I]at C P z;have J:=Ke C (by omega) (by rw[z];exact awx2) (wW awC (by simp));obtain⟨K,B,-⟩:=F8 (n:=100) (V:=y) (by omega) awC;rw[z]at K B;have B:=B awf3;obtain⟨m,F⟩:∃m,m=(jV 100 y awC).2:=⟨_,rfl⟩;rw[<-F]at J B;have E:m.M=awM3:=B;exact⟨u,y,m,_,H,D,C,J,abd r1 G.symm,abd r2 I.symm,abd K F.symm,vdo_no E (by rw[show(dA awM3 awU).1.er=28 from awf4];decide),abd (Zp E (by decide)) rfl⟩
theorem Vh(w:World)(m:Int)(hm:w.cell? ⟨2,0,none⟩=some (.int .i64 m)):Dy 14 #[] w λ e w'=>e= .returned (.bool true)/\Below w.heap.size w w':=by
 have kc:=λ(w:World) (C:Array Value) (n c:Nat)=>Lib.run_convert_bytes_const (P:=Tryz.prog) w 30 5 C n c Tryz.underlying30 aa7;have jv:=Qz;have jw:=QA;have HM:=acp hm;clear hm;have aH:acr (Dy 4 #[.int .i64 100] w (Zd w 100)):=acp (U7 100 (by omega) (by omega) (by decide) w);go_enter Tryz.func14,Tryz.ntmps14;go_wp2_with fail;refine aH.o.mono ?_;rintro e w1 ⟨d,v,q,o1,V0,rfl,aL,aJ⟩;obtain⟨V1,V2,V3,V5,dM,iM,fT,aN,iN,jl,iT,jm,gL⟩:=Nb aJ;have cB:=acp aL;clear aL aJ aH;have SX:=acp (Zq cB.o (.inr rfl) dM (by omega) (Na _ (by simp)) (wW _ (by simp)) iN none 0 (ah.nil _ _ _) (by decide) m HM.o (opA 1 ⟨#[47,97]⟩ ⟨#[]⟩ 0 0 0 0 0 none 0 0) rfl);go_wp2_with fail;refine SX.o.mono ?_;rintro e u1 ⟨B,s1,MJ,⟨y1,rfl,iE,dG,iD,iO,rfl,B,H,G,E⟩,u,D⟩;have bT:=acp MJ;have R:=acp D;have J:=acp (And.intro B (And.intro H (And.intro G E)));clear u D B H G E MJ SX cB;go_wp2_with (refine aj (by rfl) 38 _ _ (by rfl) _ (eF awR1 iE dG iD iO) (by rfl) (by rfl) _ (MapKept.heap_alloc _ _).1 bC rfl (bE _ _ _ _ _) ?_;intro z u;obtain⟨M,A⟩:=xP R.o.marks J.o.1 J.o.2.1 J.o.2.2.1 J.o.2.2.2 u;have bD:=acp M;have I:=acp (R.o.grow A);clear u M A J R);have aC:Below z.heap.size z (z.alloc (.cells #[.int .u8 97,.int .u8 119,.int .u8 97,.int .u8 107,.int .u8 101] 5 (5,6))):=wall z _;have Y:=acp (I.o.grow aC);have W:=acp (bD.o.grow I.o.marks aC);have X:ah (Free B (z.alloc (.cells #[.int .u8 97,.int .u8 119,.int .u8 97,.int .u8 107,.int .u8 101] 5 (5,6)))) (z.alloc (.cells #[.int .u8 97,.int .u8 119,.int .u8 97,.int .u8 107,.int .u8 101] 5 (5,6))) (some ⟨z.heap.size,0,none⟩) 5 (awB.data.map bv):=(MZ (([97,119,97,107,101]:I8).map bv) _ (5,6) (by decide)).mono λ y (hy:y=z.heap.size)=>by subst hy;exact⟨Wy λ h9=>by have:=(I.o.marks.new _ h9).2;omega,by simp⟩
 have xI:=acp (Zq Y.o bT.o iM (by omega) (Na _ (by simp)) (wW _ (by simp)) jl (some ⟨z.heap.size,0,none⟩) 5 X (by decide) m HM.o (opA 5 ⟨#[]⟩ ⟨#[]⟩ 0 0 0 0 0 (some ⟨z.heap.size,0,none⟩) 5 5) rfl);clear aC X I bD;go_wp2_with fail;refine xI.o.mono ?_;rintro e u2 ⟨H,s2,Vd,⟨y2,rfl,dV,fK,dN,dI,rfl,B,H,G,E⟩,u,D⟩;have bf:=acp Vd;have F:=acp D;have U:=acp (And.intro B (And.intro H (And.intro G E)));have Q:=acp (W.o.step (λ e=>by rcases e with e|e<;>omega) u);clear u D B H G E Vd xI Y W;go_wp2_with (refine aj (by rfl) 38 _ _ (by rfl) _ (eF awR2 dV fK dN dI) (by rfl) (by rfl) _ (MapKept.heap_alloc _ _).1 bC rfl (bE _ _ _ _ _) ?_;intro jG u;obtain⟨M,A⟩:=xP F.o.marks U.o.1 U.o.2.1 U.o.2.2.1 U.o.2.2.2 u;have WQ:=acp M;have Z:=acp (F.o.grow A);have Zr:=acp (Q.o.grow F.o.marks A);clear u M A U F Q);have Gx:=acp (Zq Z.o bf.o fT (by omega) (Na _ (by simp)) (wW _ (by simp)) iT none 0 (ah.nil _ _ _) (by decide) m HM.o (opA 6 ⟨#[]⟩ ⟨#[]⟩ 0 0 0 5 0 none 0 0) rfl);go_wp2_with fail;refine Gx.o.mono ?_;rintro e u3 ⟨G,s3,av,⟨y3,rfl,dK,gy,gM,d9,rfl,B,H,G,E⟩,u,D⟩;have bS:=acp av;have Zt:=acp D;have S:=acp (And.intro B (And.intro H (And.intro G E)));have R5:=acp (Zr.o.step (λ e=>by rcases e with e|e<;>omega) u);have V:=acp (WQ.o.step (λ e=>by rcases e with e|e<;>omega) u);clear u D B H G E av Gx Z Zr WQ;go_wp2_with (refine aj (by rfl) 38 _ _ (by rfl) _ (eF awR3 dK gy gM d9) (by rfl) (by rfl) _ (MapKept.heap_alloc _ _).1 bC rfl (bE _ _ _ _ _) ?_;intro kW u;obtain⟨M,A⟩:=xP Zt.o.marks S.o.1 S.o.2.1 S.o.2.2.1 S.o.2.2.2 u;have bq:=acp M;have aA:=acp (Zt.o.grow A);have Nc:=acp (R5.o.grow Zt.o.marks A);have K:=acp (V.o.grow Zt.o.marks A);clear u M A S Zt R5 V);have Ns:=acp (Zq aA.o bS.o aN (by omega) (Na _ (by simp)) (wW _ (by simp)) jm none 0 (ah.nil _ _ _) (by decide) m HM.o (opA 8 ⟨#[47,97]⟩ ⟨#[]⟩ 0 0 0 0 0 none 0 0) rfl);go_wp2_with fail;refine Ns.o.mono ?_;rintro e u4 ⟨E,s4,aB,⟨y4,rfl,yU,yV,yX,yY,rfl,B,H,G,E⟩,u,D⟩;have dn:=acp aB;have Vi:=acp D;have O:=acp (And.intro B (And.intro H (And.intro G E)));have Ja:=acp (Nc.o.step (λ e=>by rcases e with e|e<;>omega) u);have Zu:=acp (K.o.step (λ e=>by rcases e with e|e<;>omega) u);have ak:=acp (bq.o.step (λ e=>by rcases e with e|e<;>omega) u);clear u D B H G E aB Ns aA Nc K bq;go_wp2_with (refine aj (by rfl) 38 _ _ (by rfl) _ (eF awR4 yU yV yX yY) (by rfl) (by rfl) _ (MapKept.heap_alloc _ _).1 bC rfl (bE _ _ _ _ _) ?_;intro jy u;obtain⟨M,A⟩:=xP Vi.o.marks O.o.1 O.o.2.1 O.o.2.2.1 O.o.2.2.2 u;have jc:=acp M;have bn:=acp (Vi.o.grow A);have QB:=acp (Ja.o.grow Vi.o.marks A);have N:=acp (Zu.o.grow Vi.o.marks A);have aD:=acp (ak.o.grow Vi.o.marks A);clear u M A O Vi Ja Zu ak;have c1:=QB.o.er;rw[awf1]at c1;have c2:=N.o.n;rw[awn2]at c2;have c3:=aD.o.er;rw[awf3]at c3;have c4:=jc.o.er;rw[awf4]at c4;have ig:=acp (Zq bn.o dn.o aN (by omega) (Na _ (by simp)) (wW _ (by simp)) gL none 0 (ah.nil _ _ _) (by decide) m HM.o (opA 12 ⟨#[47,97]⟩ ⟨#[]⟩ 0 0 0 0 0 none 0 0) rfl));refine ig.o.mono ?_;rintro e uS ⟨pS,sS,aF,⟨yS,rfl,ko,jL,kN,kg,rfl,B,H,G,E⟩,u,D⟩;have jo:=acp D;unfold eF;rw[awg5];clear u D B H G E aF;go_wp2_with fail;go_ret;exact⟨rfl,jo.o.marks.below⟩
