/- tree -/
import Derived.Test.YthillkfmdndedaaGreatDoorM14
set_option maxRecDepth 100000
set_option maxHeartbeats 64000000
set_option linter.all false
namespace Go.Proofs.YthillkfmdndedaaGreatDoor
open Go.ChangeShapes Go.WideShapes Go.ChangeAt Go.RowKit
section
variable{g:Nat->Own}{D:Nat->Prop}{p mb:Nat}{ib nb:Int->Nat}{T:aS}
theorem Jq{S:Nat->Prop}(a:Mx)(n c:Nat)(m:List Nm)(w:World)(h:aK g D w p mb ib nb T)(H:OkW T)(B:aW S w a n (m.map strOf)):
  Dy 126 #[ptr p,.slice a n c] w λ e w'=>e= .returned (.tuple #[.int .i64 (bG T m).1,.int .i64 (bG T m).2])/\Below w.heap.size w w':=by
 have C:=acp (zM (S:=S) a n c m w B);have J:=acp (λ A (G:Below w.heap.size w A)=>rV a n c m A (h.below G acs) H (B.below G acs));clear h H B;by_cases z:bN m=0
 ·have E:acr (bG T m=aP T 0 m):=by unfold bG;rw[if_neg (by rw[z];simp)];exact rfl
  rw[z]at C;clear z;go_enter Tryz.func126,Tryz.ntmps126;go_wp2_with fail;refine C.o.mono ?_;rintro e A ⟨rfl,u⟩;have y:=acp u;clear u;go_wp2_with fail;refine(J.o A y.o).mono ?_;rintro e K ⟨rfl,rfl⟩;go_wp2_with fail
  go_ret2
  rw[E.o];exact⟨rfl,y.o⟩
 ·have E:acr (bG T m=(0,bN m)):=by unfold bG;rw[if_pos z];exact rfl
  have I:(bN m==0)=false:=by simpa using z
  have F:(bN m !=0)=true:=by simpa using z
  clear z;go_enter Tryz.func126,Tryz.ntmps126;go_wp2_with fail;refine C.o.mono ?_;rintro e A ⟨rfl,u⟩;have y:=acp u;clear u;go_wp2_with fail
  go_ret2
  rw[E.o];exact⟨rfl,y.o⟩
theorem Ep{S:Nat->Prop}{d:Int}{u:Nm}(a:Mx)(n c:Nat)(m:List Nm)(w:World)(h:aK g D w p mb ib nb T)(C:fA T)(z:aW S w a n (m.map strOf))(A:n<=c)(y:n<=1000000)(B:aQ T m=(d,u,0)):
  Dy 123 #[ptr p,.slice a n c] w λ e w'=>e= .returned (.tuple #[ptr (ib d),.string (strOf u),.int .i64 0])/\Below w.heap.size w w':=by
 have:=w_ a n c m w h C z A y;unfold ql at this;rw[B]at this;exact this
theorem mJ{w:World}{d:Int}{x:fI}(h:aK g D w p mb ib nb T)(z:au d T=some x)(u:x.kind=2):w.cell? ⟨ib d,7,none⟩=some (.map (some (nb d)))/\MapAt dD w (nb d) (bJ x):=by
 have y:=h.item d x z;obtain⟨_,_,_,_,_,_,m,_⟩:=y.cell;unfold dS at m;rw[if_pos u]at m;exact⟨m,y.names u⟩
theorem Ws{m:Nm}(h:gF m=true):dD.ok m:=by
 have:=vR m h;show m.length<=maxLen;unfold maxLen;omega
theorem Jr{w w':World}{d:Int}{x:fI}{n:Nm}(h:aK g D w p mb ib nb T)(u:au d T=some x)(m:x.kind=2)(z:MapAt dD w' (nb d) (bZ n (bJ x)))(y:w.mapTurned w' (nb d)):aK g D w' p mb ib nb (aV T d n)/\Keeps (λ b=>g b≠ .none) w w':=
 ⟨h.cut u m z y,(eX y).mono λ b _ A=>by rw[show b=nb d from A,h.oO d x u m];simp⟩
theorem gI{w w':World}{fp:Nat->Prop}(m:Below w.heap.size w w'):Keeps fp w w':=(Keeps.below m).mono λ b m u=>absurd m (by omega)
theorem SG{S:Nat->Prop}(a:Mx)(n c:Nat)(u:List Nm)(w:World)(h:aK g D w p mb ib nb T)(hT:fA T)(hS:aW S w a n (u.map strOf))(hc:n<=c)(uJ:n<=1000000):
  Dy 135 #[ptr p,.slice a n c] w (Turn g D w p mb (dY T u).2 (.int .i64 (dY T u).1)):=by
 have H:=acp h;have HT:=acp hT;have HS:=acp hS;have HF:=acp (zM (S:=S) a n c u w hS);have oP:=acp (λ z (G:Below w.heap.size w z)=>rV a n c u z (h.below G acs) hT (hS.below G acs));clear h hT hS;by_cases J:bN u=0
 ·have uK:=acp J;rw[J]at HF;clear J;have Dh:acr (bG T u=aP T 0 u):=by unfold bG;rw[if_neg (by rw[uK.o];simp)];exact rfl
  obtain⟨⟨id,X⟩,hq⟩:∃q,q=aP T 0 u:=⟨_,rfl⟩;have W:=acp hq;rw[<-hq]at oP Dh;clear hq;by_cases V:X=0
  ·subst V;obtain⟨y,hy⟩:=aag.1 (qp W.o.symm HT.o);have M:=acp hy;have rE:=HT.o.ids id y hy;have P:aY.ok id:=gG rE.1 (by omega);have HG:acr (au id (T.map λ q=>(q.1,ptr (ib q.1)))=some (ptr (ib id))):=by rw[eH,hy];rfl
   have aB:acr (∀z,Below w.heap.size w z->z.cell? ⟨p,0,none⟩=some (.map (some mb))/\MapAt aY z mb (T.map λ q=>(q.1,ptr (ib q.1)))/\z.cell? ⟨ib id,1,none⟩=some (.int .i64 y.kind)):=λ z G=>by
    have h2:=H.o.below G acs;obtain⟨_,c1,c2,_⟩:=(h2.item id y M.o).cell;exact⟨h2.cell.1,h2.map,c1⟩
   clear hy;by_cases R:y.kind=2
   ·have U:acr (dY T u=(22,T)):=by
     have:kX T u=22:=by
      unfold kX;rw[Dh.o,<-W.o,if_neg (by simp),if_pos ((eO M.o).trans R)]
     unfold dY;rw[this]<;>exact rfl
    go_enter Tryz.func135,Tryz.ntmps135;go_wp2_with fail;refine HF.o.mono ?_;rintro e z ⟨rfl,A⟩;have m:=acp A;clear A;go_wp2_with fail;refine(oP.o z m.o).mono ?_;rintro e O ⟨rfl,rfl⟩;obtain⟨c0,B,c1⟩:=aB.o z m.o;rw[R]at c1;have iM:=acp B;clear B;go_wp2_with (first|(at_lookup;refine aX aY rfl _ _ 190 193 rfl Tryz.underlying190 (Tryz.bD _) rfl iM.o id rfl P ?_;rw[HG.o]));go_ret;rw[U.o];exact Turn.same H.o m.o rfl
   ·have bD:(y.kind==2)=false:=by simpa using R
    have hp:u≠[]:=λ e=>by
     have h1:id=0:=aaK Prod.fst (W.o.trans (by rw[e]<;>exact(rfl:aP T 0 []=(0,0))));have:=HT.o.root;rw[<-h1,eO M.o]at this;exact R this
    obtain⟨d,x,K,e1,-,hx,I,hn,N,-⟩:=eP W.o.symm hp;have Jk:=acp (jg uK.o _ N);have mY:=Ws Jk.o;have U:acr (dY T u=(0,iQ (cZ id (λ x=>{x with links:=x.links-1}) (aV T d K)) id)):=by
     have:kX T u=0:=by
      unfold kX;rw[Dh.o,<-W.o,if_neg (by simp),if_neg (by rw[eO M.o];exact R)]
     unfold dY zH;rw[this,<-W.o,e1];exact rfl
    have rW:=acp (λ z (G:Below w.heap.size w z)=>Ep a n c u z (H.o.below G acs) HT.o (HS.o.below G acs) hc uJ e1);have HX:=acp hx;have zN:=acp I;have aC:id≠d:=λ e=>by subst e;rw[M.o]at hx;cases hx;exact R I
    have H_:=acp aC;have vS:=acp (λ O (G:Below w.heap.size w O)=>mJ (H.o.below G acs) hx I);have Z:acr ((Lit.int .i64 id).wf=true):=P;have bn:=(HT.o.each id y M.o).links;clear R hp e1 hx I hn N aC;go_enter Tryz.func135,Tryz.ntmps135;go_wp2_with fail;refine HF.o.mono ?_;rintro e z ⟨rfl,A⟩;have m:=acp A;clear A;go_wp2_with fail;refine(oP.o z m.o).mono ?_;rintro e O ⟨rfl,rfl⟩;obtain⟨c0,B,c1⟩:=aB.o z m.o;have iM:=acp B;clear B;go_wp2_with (first|(at_lookup;refine aX aY rfl _ _ 190 193 rfl Tryz.underlying190 (Tryz.bD _) rfl iM.o id rfl P ?_;rw[HG.o]));refine(rW.o z m.o).mono ?_;rintro e O ⟨rfl,Y⟩;have Q:=acp (m.o.trans (Y.mono m.o.size));clear Y;obtain⟨d7,fK⟩:=vS.o O Q.o;have Bo:=acp fK;have bf:=acp (H.o.below Q.o acs);clear fK;have nQ:acr (∀C,MapAt dD C (nb d) (bZ K (bJ x))->O.mapTurned C (nb d)->(aK g D C p mb ib nb (aV T d K)/\Keeps (λ b=>g b≠ .none) O C)/\au id (aV T d K)=some y/\C.cell? ⟨ib id,2,none⟩=some (.int .i64 y.links)/\C.frozen? ⟨ib id,2,none⟩=false):=λ C hM aL=>by
     have h3:=Jr bf.o HX.o zN.o hM aL;have F:au id (aV T d K)=some y:=by unfold aV;rw[bB,if_neg H_.o];exact M.o
     exact⟨h3,F,(h3.1.item id y F).cell.2.2.1,(h3.1.item id y F).frozen 2⟩
    go_wp2_with (at_delete;refine lQ dD rfl _ _ 194 3 rfl aah rfl Bo.o K rfl mY ?_;intro C Er Dl;obtain⟨E,F,g2,bq⟩:=nQ.o C Er Dl;have SH:=acp E;have aD:=acp F;clear E Er Dl F);have E:=SH.o;have aA:=H.o.qL id y M.o
    have Gt:aK g D (C.setCell ⟨ib id,2,none⟩ (.int .i64 (y.links-1))) p mb ib nb (cZ id (λ x=>{x with links:=x.links-1}) (aV T d K)):=
     E.1.fields aD.o (λ x=>{x with links:=x.links-1}) rfl rfl rfl (Keeps.jy C ⟨ib id,2,none⟩ _) (by rw[size_set]) λ a c hc=>by rw[aG hc];rfl
    have ak:au id (cZ id (λ x=>{x with links:=x.links-1}) (aV T d K))=some {y with links:=y.links-1}:=by rw[bB,if_pos rfl,aD.o];rfl
    have qN:acr (Keeps (λ b=>g b≠ .none) w (C.setCell ⟨ib id,2,none⟩ (.int .i64 (y.links-1)))):=
     ((gI Q.o).trans E.2 (λ _ _ h=>h)).trans ((Keeps.jy C ⟨ib id,2,none⟩ _).mono λ b _ G=>by rw[show b=ib id from G,aA];simp) (λ _ _ h=>h)
    have SF:=acp (Eh id ak Z.o _ Gt);have aH:=acp H.o.lI;clear E aA Gt ak;refine SF.o.mono ?_;rintro e w5 ⟨rfl,Ko,aF,_⟩;have aJ:=acp Ko;have Kq:=acp aF;clear Ko aF;go_wp2_with fail;go_ret;rw[U.o];exact Turn.of rfl aJ.o (qN.o.trans (Kq.o.mono λ b _ G=>by rw[show b=mb from G,aH.o];simp) (λ _ _ h=>h))
  ·have aN:(X==0)=false:=by simpa using V
   have av:(X !=0)=true:=by simpa using V
   have U:acr (dY T u=(X,T)):=by
    have:kX T u=X:=by
     unfold kX;rw[Dh.o,if_pos V]
    unfold dY;rw[this,if_neg V];exact rfl
   clear V;go_enter Tryz.func135,Tryz.ntmps135;go_wp2_with fail;refine HF.o.mono ?_;rintro e z ⟨rfl,A⟩;have m:=acp A;clear A;go_wp2_with fail;refine(oP.o z m.o).mono ?_;rintro e O ⟨rfl,rfl⟩;go_wp2_with fail;go_ret;rw[U.o];exact Turn.same H.o m.o rfl
 ·have U:acr (dY T u=(bN u,T)):=by
   have:kX T u=bN u:=by unfold kX bG;rw[if_pos J,if_pos J]
   unfold dY;rw[this,if_neg J];exact rfl
  have aN:(bN u==0)=false:=by simpa using J
  have av:(bN u !=0)=true:=by simpa using J
  clear J;go_enter Tryz.func135,Tryz.ntmps135;go_wp2_with fail;refine HF.o.mono ?_;rintro e z ⟨rfl,A⟩;go_wp2_with fail;go_ret;rw[U.o];exact Turn.same H.o A rfl
theorem Wt{S:Nat->Prop}(a:Mx)(n c:Nat)(B:List Nm)(w:World)(h:aK g D w p mb ib nb T)(hT:fA T)(hS:aW S w a n (B.map strOf))(hc:n<=c)(uJ:n<=1000000):
  Dy 64 #[ptr p,.slice a n c] w (Turn g D w p mb (fC T B).2 (.int .i64 (fC T B).1)):=by
 have G:=acp h;have HT:=acp hT;have HS:=acp hS;have Z:=acp (zM (S:=S) a n c B w hS);have oP:=acp (λ A (E:Below w.heap.size w A)=>rV a n c B A (h.below E acs) hT (hS.below E acs));clear h hT hS;by_cases Q:bN B=0
 ·have uK:=acp Q;rw[Q]at Z;clear Q;have Dh:acr (bG T B=aP T 0 B):=by unfold bG;rw[if_neg (by rw[uK.o];simp)];exact rfl
  obtain⟨⟨id,e0⟩,hq⟩:∃q,q=aP T 0 B:=⟨_,rfl⟩;have U:=acp hq;rw[<-hq]at oP Dh;clear hq;by_cases he:e0=0
  ·subst he;obtain⟨y,hy⟩:=aag.1 (qp U.o.symm HT.o);have O:=acp hy;have rE:=HT.o.ids id y hy;have H:aY.ok id:=gG rE.1 (by omega);have HG:acr (au id (T.map λ q=>(q.1,ptr (ib q.1)))=some (ptr (ib id))):=by rw[eH,hy];rfl
   have J:acr (∀A,Below w.heap.size w A->A.cell? ⟨p,0,none⟩=some (.map (some mb))/\MapAt aY A mb (T.map λ q=>(q.1,ptr (ib q.1)))/\A.cell? ⟨ib id,1,none⟩=some (.int .i64 y.kind)):=λ A E=>by
    have h2:=G.o.below E acs;obtain⟨_,c1,c2,_⟩:=(h2.item id y O.o).cell;exact⟨h2.cell.1,h2.map,c1⟩
   clear hy;by_cases hk:y.kind=2
   ·rw[hk]at J;have N:=acp hk;clear hk;by_cases h0:id=0
    ·have M:acr (fC T B=(1,T)):=by
      have:kG T B=1:=by
       unfold kG;rw[Dh.o,<-U.o,if_neg (by simp),if_neg (by rw[eO O.o,N.o];simp),if_pos h0]
      unfold fC;rw[this]<;>exact rfl
     have hd0:(id==0)=true:=by simpa using h0
     clear h0;go_enter Tryz.func64,aco;go_wp2_with fail;refine Z.o.mono ?_;rintro e A ⟨rfl,z⟩;have m:=acp z;clear z;go_wp2_with fail;refine(oP.o A m.o).mono ?_;rintro e F ⟨rfl,rfl⟩;obtain⟨c0,u,c1⟩:=J.o A m.o;have V:=acp u;clear u;go_wp2_with (first|(at_lookup;refine aX aY rfl _ _ 190 193 rfl Tryz.underlying190 (Tryz.bD _) rfl V.o id rfl H ?_;rw[HG.o]));go_ret;rw[M.o];exact Turn.same G.o m.o rfl
    ·have hd0:(id==0)=false:=by simpa using h0
     have K_:=acp h0;have Wu:=acp (λ F (E:Below w.heap.size w F)=>mJ (G.o.below E acs) O.o N.o);have aF:acr ((bJ y).length=y.names.length):=by unfold bJ;rw[List.length_map]<;>exact rfl
     clear h0;by_cases C:0<y.names.length
     ·have M:acr (fC T B=(24,T)):=by
       have av:bM T id=y.names:=by unfold bM;rw[O.o]
       have:kG T B=24:=by
        unfold kG;rw[Dh.o,<-U.o,if_neg (by simp),if_neg (by rw[eO O.o,N.o];simp),if_neg K_.o,av,if_pos C]
       unfold fC;rw[this]<;>exact rfl
      have hd:decide ((0:Int)<(y.names.length:Int))=true:=by simp;omega
      have bD:decide (0<y.names.length)=true:=by simpa using C
      go_enter Tryz.func64,aco;go_wp2_with fail;refine Z.o.mono ?_;rintro e A ⟨rfl,z⟩;have m:=acp z;clear z;go_wp2_with fail;refine(oP.o A m.o).mono ?_;rintro e F ⟨rfl,rfl⟩;obtain⟨c0,u,c1⟩:=J.o A m.o;have V:=acp u;clear u;obtain⟨y7,K⟩:=Wu.o A m.o;have W:=acp K;clear K;go_wp2_with (first|(at_lookup;refine aX aY rfl _ _ 190 193 rfl Tryz.underlying190 (Tryz.bD _) rfl V.o id rfl H ?_;rw[HG.o])|(at_len;refine kD dD rfl _ 194 3 rfl aah rfl W.o ?_;rw[aF.o]));go_ret;rw[M.o];exact Turn.same G.o m.o rfl
     ·have aJ:acr (y.names=[]):=by
       have:y.names=[]:=aac (by omega);exact this
      have aC:y.names.length=0:=by omega
      have zD:=acp aC;have hp:B≠[]:=λ e=>by
       have h1:id=0:=aaK Prod.fst (U.o.trans (by rw[e]<;>exact(rfl:aP T 0 []=(0,0))));exact K_.o h1
      obtain⟨d,x,nm,e1,-,hx,X,hn,R,-⟩:=eP U.o.symm hp;have Jk:=acp (jg uK.o _ R);have mY:=Ws Jk.o;have M:acr (fC T B=(0,bZ id (aV T d nm))):=by
       have av:bM T id=y.names:=by unfold bM;rw[O.o]
       have:kG T B=0:=by
        unfold kG;rw[Dh.o,<-U.o,if_neg (by simp),if_neg (by rw[eO O.o,N.o];simp),if_neg K_.o,av,if_neg (by omega)]
       unfold fC DF;rw[this,<-U.o,e1]<;>exact rfl
      have rW:=acp (λ A (E:Below w.heap.size w A)=>Ep a n c B A (G.o.below E acs) HT.o (HS.o.below E acs) hc uJ e1);have HX:=acp hx;have zN:=acp X;have aD:id≠d:=λ e=>by subst e;rw[O.o]at hx;cases hx;rw[aJ.o]at hn;cases hn
      have H_:=acp aD;have vS:=acp (λ F (E:Below w.heap.size w F)=>mJ (G.o.below E acs) hx X);clear hp e1 hx X hn R aD C aC;go_enter Tryz.func64,aco;go_wp2_with fail;refine Z.o.mono ?_;rintro e A ⟨rfl,z⟩;have m:=acp z;clear z;go_wp2_with fail;refine(oP.o A m.o).mono ?_;rintro e F ⟨rfl,rfl⟩;obtain⟨c0,u,c1⟩:=J.o A m.o;have V:=acp u;clear u;obtain⟨y7,K⟩:=Wu.o A m.o;have W:=acp K;clear K;go_wp2_with (first|(at_lookup;refine aX aY rfl _ _ 190 193 rfl Tryz.underlying190 (Tryz.bD _) rfl V.o id rfl H ?_;rw[HG.o])|(at_len;refine kD dD rfl _ 194 3 rfl aah rfl W.o ?_;rw[aF.o,zD.o]));refine(rW.o A m.o).mono ?_;rintro e F ⟨rfl,aA⟩;have Y:=acp (m.o.trans (aA.mono m.o.size));clear aA;obtain⟨d7,fK⟩:=vS.o F Y.o;have Bo:=acp fK;have bn:=acp (G.o.below Y.o acs);clear fK;have nQ:acr (∀P,MapAt dD P (nb d) (bZ nm (bJ x))->F.mapTurned P (nb d)->(aK g D P p mb ib nb (aV T d nm)/\Keeps (λ b=>g b≠ .none) F P)/\P.cell? ⟨p,0,none⟩=some (.map (some mb))/\MapAt aY P mb (T.map λ q=>(q.1,ptr (ib q.1)))):=λ P hM aN=>by
       have h3:=Jr bn.o HX.o zN.o hM aN;have hm:=h3.1.map;unfold aV at hm;rw[Ba _ _ _ (λ j=>ptr (ib j))]at hm;exact⟨h3,h3.1.cell.1,hm⟩
      go_wp2_with (first|(at_delete;refine lQ dD rfl _ _ 194 3 rfl aah rfl Bo.o nm rfl mY ?_;intro P Er Dl;obtain⟨I,bq,Jl⟩:=nQ.o P Er Dl;have SH:=acp I;have zT:=acp Jl;clear I Er Dl Jl)|(at_delete;refine lQ aY rfl _ _ 190 193 rfl Tryz.underlying190 rfl zT.o id rfl H ?_;intro w4 sQ sP;have sW:=acp sQ;have ak:=acp sP;clear sQ sP));go_ret;rw[M.o];have I:=SH.o;have bS:=iw ak.o;have Gt:aK g D w4 p mb ib nb (bZ id (aV T d nm)):=by
       refine I.1.del ?_ (by omega) (λ b E aL=>eU ak.o b E aL);unfold aV;rw[Ba _ _ _ (λ j=>ptr (ib j))];exact sW.o
      have aH:=G.o.lI;exact Turn.of rfl Gt (((gI Y.o).trans I.2 (λ _ _ h=>h)).trans ((eX ak.o).mono λ b _ E=>by rw[show b=mb from E,aH];simp) (λ _ _ h=>h))
   ·have bT:(y.kind==2)=false:=by simpa using hk
    have M:acr (fC T B=(23,T)):=by
     have:kG T B=23:=by
      unfold kG;rw[Dh.o,<-U.o,if_neg (by simp),if_pos (by rw[eO O.o];exact hk)]
     unfold fC;rw[this]<;>exact rfl
    go_enter Tryz.func64,aco;go_wp2_with fail;refine Z.o.mono ?_;rintro e A ⟨rfl,z⟩;have m:=acp z;clear z;go_wp2_with fail;refine(oP.o A m.o).mono ?_;rintro e F ⟨rfl,rfl⟩;obtain⟨c0,u,c1⟩:=J.o A m.o;have V:=acp u;clear u;go_wp2_with (first|(at_lookup;refine aX aY rfl _ _ 190 193 rfl Tryz.underlying190 (Tryz.bD _) rfl V.o id rfl H ?_;rw[HG.o]));go_ret;rw[M.o];exact Turn.same G.o m.o rfl
  ·have bf:(e0==0)=false:=by simpa using he
   have aB:(e0 !=0)=true:=by simpa using he
   have M:acr (fC T B=(e0,T)):=by
    have:kG T B=e0:=by
     unfold kG;rw[Dh.o,if_pos he]
    unfold fC;rw[this,if_neg he];exact rfl
   clear he;go_enter Tryz.func64,aco;go_wp2_with fail;refine Z.o.mono ?_;rintro e A ⟨rfl,z⟩;have m:=acp z;clear z;go_wp2_with fail;refine(oP.o A m.o).mono ?_;rintro e F ⟨rfl,rfl⟩;go_wp2_with fail;go_ret;rw[M.o];exact Turn.same G.o m.o rfl
 ·have M:acr (fC T B=(bN B,T)):=by
   have:kG T B=bN B:=by unfold kG bG;rw[if_pos Q,if_pos Q]
   unfold fC;rw[this,if_neg Q];exact rfl
  have bf:(bN B==0)=false:=by simpa using Q
  have aB:(bN B !=0)=true:=by simpa using Q
  clear Q;go_enter Tryz.func64,aco;go_wp2_with fail;refine Z.o.mono ?_;rintro e A ⟨rfl,z⟩;go_wp2_with fail;go_ret;rw[M.o];exact Turn.same G.o z rfl
end
def maxD(d:Int->Nat)(l:List (Nm×Int)):Nat:=(l.map λ e=>1+d e.2).foldr Nat.max 0
theorem DK(d:Int->Nat):∀{l:List (Nm×Int)} {e:Nm×Int},e∈l->1+d e.2<=maxD d l
 |x::r,e,h=>by
  have m:maxD d (x::r)=Nat.max (1+d x.2) (maxD d r):=rfl;rw[m];rcases List.mem_cons.1 h with rfl|h
  ·exact Nat.le_max_left _ _
  ·exact Nat.le_trans (DK d h) (Nat.le_max_right _ _)
theorem maxD_le(d:Int->Nat){m:Nat}:∀{l:List (Nm×Int)},(∀e∈l,1+d e.2<=m)->maxD d l<=m
 |[],_=>Nat.zero_le _
 |x::r,h=>by
  have u:maxD d (x::r)=Nat.max (1+d x.2) (maxD d r):=rfl;rw[u];exact Nat.max_le.2 ⟨h x (by simp),maxD_le d λ e y=>h e (by simp[y])⟩
def mK(T:aS):Nat->Int->Nat
 |0,_=>0
 |n+1,id=>maxD (mK T n) (bM T id)
def Js(T:aS):Nat->Int->Prop
 |0,id=>bM T id=[]
 |n+1,id=>∀e∈bM T id,Js T n e.2
theorem Js.le{T:aS}:∀{n:Nat} {id:Int},Js T n id->mK T n id<=n
 |0,_,_=>Nat.le_refl _
 |n+1,id,h=>maxD_le _ λ e m=>by have:=(h e m).le;omega
section
variable{P:Program}{w:World}{ops:Array Oper}{rest:List Oper}{o:Oper}{a:Act}{Q:Exit->Act->World->Prop}
theorem rZ(C:o.guard=none)(m:Operand)(t k e:TypeId)(z:o.op=Op.range t m)(B:P.underlying t=some (.map k e))(A:a.eval m= .map none)
  (h:wpList P ops Q rest (a.put o.dst (.pointer (some ⟨w.heap.size,0,none⟩))) (w.alloc (.mapIter none 0 #[] 0))):wpList P ops Q (o::rest) a w:=by
 refine abU C λ D y=> ?_;have u:(Instr.range t (.map none)).run P w= .ok (.pointer (some ⟨w.heap.size,0,none⟩)) (w.alloc (.mapIter none 0 #[] 0)):=by
  simp[Instr.range,abT B,Result.andThen]
 unfold Oper.wp;simp[execOp,z,A,u,Result.andThen];exact y _ _ h
theorem uL(C:o.guard=none)(A:Operand)(z:o.op=Op.next A false){r:Nat}(u:a.eval A= .pointer (some ⟨r,0,none⟩))(B:w.heap[r]? =some (.mapIter none 0 #[] 0))
  (h:wpList P ops Q rest (a.put o.dst (.tuple #[.bool false])) w):wpList P ops Q (o::rest) a w:=by
 refine abU C λ D y=> ?_;have m:(Instr.next (.pointer (some ⟨r,0,none⟩)) false o.type).run P w= .ok (.tuple #[.bool false]) w:=by
  simp only[Instr.next,getObj,abV,Sem.run,B,Result.andThen];rfl
 unfold Oper.wp;simp[execOp,z,u,m,Result.andThen];exact y _ _ h
end
section
variable{g:Nat->Own}{D:Nat->Prop}{p mb:Nat}{ib nb:Int->Nat}{T:aS}
def yG(p:Nat)(w:World)(id:Int)(n:Nat):Prop:=Dy 137 #[ptr p,.int .i64 id] w λ e w'=>e= .returned (.int .i64 n)/\Below w.heap.size w w'
def DeepRel(w:World)(d:Int->Nat)(x:fI)(y r:Nat)(v:Value)(wr:World):Prop:=
 ∃(m:Nat) (left:Nm->Bool) (u:Nat),v= .int .i64 m/\m<=maxD d x.names/\(∀e∈x.names,left e.1=false->1+d e.2<=m)/\dR dD wr y r (bJ x) left u/\Below w.heap.size w wr
theorem Ia(id:Int)(x:fI)(d:Int->Nat)(w:World)(h:aK g D w p mb ib nb T)(hT:fA T)(Y:au id T=some x)(hd:∀e∈x.names,d e.2<=64)
  (hc:∀e∈x.names,∀w1,Below w.heap.size w w1->yG p w1 e.2 (d e.2)):yG p w id (maxD d x.names):=by
 obtain⟨bT,bq,bS⟩:=h.cell;have rE:=hT.ids id x Y;have S:aY.ok id:=gG rE.1 (by omega);obtain⟨c0,c1,c2,c3,c4,c5,c7,bn⟩:=(h.item id x Y).cell;have B:au id (T.map λ q=>(q.1,ptr (ib q.1)))=some (ptr (ib id)):=by rw[eH,Y];rfl
 have HG:=acp B;have iM:=acp h.map;have HC:=acp hc;have HD:=acp hd;have O1:=acp (hT.each id x Y);by_cases O:x.kind=2
 ·have V:dS x (nb id)= .map (some (nb id)):=if_pos O;rw[V]at c7;have HN:=acp ((h.item id x Y).names O);have bD:=HN.o.lt;clear B hc hd h O V hT;unfold yG;go_enter Tryz.func137,Tryz.ntmps137;go_wp2_with (first|(at_lookup;refine aX aY rfl _ _ 190 193 rfl Tryz.underlying190 (Tryz.bD _) rfl iM.o id rfl S ?_;rw[HG.o])|(at_range;refine jI dD rfl _ 194 3 rfl aah rfl HN.o ?_;intro w0 av aF aJ))
  go_frame
  go_loopw [5,7] (λ v _ wr=>DeepRel w d x (nb id) w.heap.size v wr) (λ _ _ wr=>wr.rangeLeft (nb id) w.heap.size)
  case atStart=>
   refine⟨0,_,_,rfl,Nat.zero_le _,λ e F R=> ?_,av,aF⟩;simp only[eY]at R;rw[fq Sd O1.o.sorted F]at R;cases R
  case round=>
   obtain⟨m,left,bf,rfl,hm,J,hR,hB⟩:=hrel;have K:=acp hB;have I:=acp J;have HR:=acp hR;have cB:maxD d x.names<=65:=maxD_le d λ e F=>by have:=HD.o e F;omega
   clear J hR hB;go_wp2_with (first|(at_next;refine kE dD rfl _ rfl rfl HR.o ?_ ?_))
   ·intro C;have NW:=acp C;clear C;go_wp2;go_ret;refine⟨dX ?_,K.o⟩;have:maxD d x.names<=m:=maxD_le d λ e F=>I.o e F (NW.o _);omega
   ·intro k v w3 H Wv aA E lN U z aH aD;rw[eY]at E;cases A:au k x.names with
    |none=>rw[A]at E;cases E
    |some j=>
     rw[A]at E;cases E;have u:=fH A;have M:Below w.heap.size w w3:=⟨z.os.trans K.o.os,z.tape.trans K.o.tape,z.output.trans K.o.output,by rw[aH];exact K.o.size,λ b hb=>(z.block b (by have:=K.o.size;omega) (by omega)).trans (K.o.block b hb)⟩;have aC:=acp (HC.o _ u w3 M);have aB:=HD.o _ u;have Q:=DK d u;have P:=acp M;have y:=acp lN;have Di:=acp A;have Gw:=acp U;simp only at aB Q;have e1:IntKind.i64.wrap (1+(d j:Int))=1+(d j:Int):=aaf _ (by omega);have aL:=HR.o.lt;clear A u lN M U z;show wpList _ _ _ _ _ _;have e3:dD.val k= .string (strOf k):=rfl;rw[e3]at aD⊢;clear e3;have X:=acp (show Dy 137 #[ptr p,.int .i64 j] w3 _ from aC.o);go_wp2_with fail;refine X.o.mono ?_;rintro e w4 ⟨rfl,ak⟩;have N:=acp ak;clear ak;go_wp2_with fail;go_roundw
     case rel=>
      have aN:=N.o.size;refine⟨Nat.max m (1+d j),_,H,?_,Nat.max_le.2 ⟨hm,Q⟩,λ e F R=> ?_,y.o.kept (N.o.block _ y.o.lt.1) (N.o.block _ y.o.lt.2.1),P.o.trans (N.o.mono P.o.size)⟩
      ·congr 1;show max (m:Int) (1+(d j:Int))=((Nat.max m (1+d j):Nat):Int);rcases Nat.le_total m (1+d j)with h0|h0
       ·rw[show Nat.max m (1+d j)=1+d j from Nat.max_eq_right h0];omega
       ·rw[show Nat.max m (1+d j)=m from Nat.max_eq_left h0];omega
      ·by_cases W:e.1=k
       ·have h1:=fq Sd O1.o.sorted F;rw[W,Di.o]at h1;have h2:j=e.2:=aat h1;rw[<-h2];exact Nat.le_max_right _ _
       ·refine Nat.le_trans (I.o e F ?_) (Nat.le_max_left _ _);simpa[W]using R
     case measure=>
      have h4:dR dD w4 (nb id) w.heap.size (bJ x) _ H:=y.o.kept (N.o.block _ y.o.lt.1) (N.o.block _ y.o.lt.2.1);rw[h4.measure,HR.o.measure];exact Gw.o
 ·have V:dS x (nb id)= .map none:=if_neg O;rw[V]at c7;have G:x.names=[]:=O1.o.file (O1.o.kind.resolve_right O);have Z:=acp G;clear B hc hd h O V hT G;unfold yG;rw[Z.o];go_enter Tryz.func137,Tryz.ntmps137;go_wp2_with (first|(at_lookup;refine aX aY rfl _ _ 190 193 rfl Tryz.underlying190 (Tryz.bD _) rfl iM.o id rfl S ?_;rw[HG.o])|(at_range;refine rZ rfl _ 194 9 3 rfl aah rfl ?_))
  go_frame
  go_loopw [5,7] (λ v _ wr=>v= .int .i64 0/\wr=w.alloc (.mapIter none 0 #[] 0)) (λ _ _ wr=>0)
  case atStart=>exact⟨rfl,rfl⟩
  case round=>
   obtain⟨rfl,rfl⟩:=hrel;go_wp2_with (first|(at_next;refine uL rfl _ rfl rfl (MapKept.heap_alloc w _).1 ?_));go_ret;exact⟨rfl,wall w _⟩
theorem La(A:fA T):∀(n:Nat) (id:Int) (w:World),aK g D w p mb ib nb T->(au id T).isSome=true->Js T n id->n<=64->yG p w id (mK T n id)
 |0,id,w,h,E,B,I=>by
  obtain⟨x,m⟩:=aag.1 E;have e:x.names=[]:=by have C:bM T id=[]:=B;unfold bM at C;rw[m]at C;exact C
  have:=Ia id x (λ _=>0) w h A m (λ _ _=>Nat.zero_le _) (λ y F=>by rw[e]at F;cases F);rw[e]at this;exact this
 |n+1,id,w,h,E,B,I=>by
  obtain⟨x,m⟩:=aag.1 E;have e:bM T id=x.names:=by unfold bM;rw[m]
  have z:∀e∈x.names,Js T n e.2:=λ y u=>B y (by rw[e];exact u);have:=Ia id x (mK T n) w h A m (λ y u=>Nat.le_trans (z y u).le (by omega)) (λ y u G H=>
   La A n y.2 G (h.below H acs) (A.leads id x m y u).1 (z y u) (by omega))
  rw[<-e]at this;exact this
end
structure fV(T:aS)(dep:Int->Nat):Prop where
 zero:dep 0=0
 up:∀d x,au d T=some x->∀e∈x.names,dep d<8/\(bQ T e.2=2->dep e.2=dep d+1)
theorem kZ{T:aS}{id:Int}{x:fI}(m:au id T=some x):bM T id=x.names:=by unfold bM;rw[m]
theorem Es{T:aS}{id:Int}{e:Nm×Int}(h:e∈bM T id):∃x,au id T=some x/\e∈x.names:=by
 unfold bM at h;cases m:au id T with
 |none=>rw[m]at h;cases h
 |some x=>rw[m]at h;exact⟨x,rfl,h⟩
theorem Ib{T:aS}(y:OkW T){id:Int}{x:fI}(m:au id T=some x){e:Nm×Int}(u:e∈x.names):x.kind=2:=by
 rcases (y.each id x m).kind with h|h
 ·rw[(y.each id x m).file h]at u;cases u
 ·exact h
theorem Ww{T:aS}{id:Int}(h:bM T id=[]):∀n,Js T n id
 |0=>h
 |n+1=>λ e m=>by rw[h]at m;cases m
theorem fV.Wx{T:aS}{u:Int->Nat}(h:fV T u)(B:OkW T):∀(n:Nat) (d:Int),8<=n+u d->Js T n d
 |0,d,D=>by
  show bM T d=[];cases E:bM T d with
  |nil=>rfl
  |cons e r=>
   obtain⟨x,A,m⟩:=Es (T:=T) (id:=d) (e:=e) (by rw[E];simp);have:=(h.up d x A e m).1;omega
 |n+1,d,D=>λ e m=>by
  obtain⟨x,A,m⟩:=Es m;by_cases C:bQ T e.2=2
  ·have:=(h.up d x A e m).2 C;exact h.Wx B n e.2 (by omega)
  ·refine Ww ?_ n;obtain⟨y,z⟩:=aag.1 (B.leads d x A e m).1;rw[eO z]at C;rw[kZ z];exact(B.each _ y z).file ((B.each _ y z).kind.resolve_right C)
theorem fV.shal8{T:aS}{m:Int->Nat}(h:fV T m)(u:OkW T)(d:Int):Js T 8 d:=h.Wx u 8 d (by omega)
theorem xq{T:aS}{a d:Int}{n:Nm}{r:List Nm}(h:aP T a (n::r)=(d,0)):∃x k,au a T=some x/\x.kind=2/\au n x.names=some k/\aP T k r=(d,0):=by
 simp only[aP]at h;cases y:au a T with
 |none=>rw[y]at h;cases h
 |some x=>
  rw[y]at h;simp only at h;by_cases m:x.kind=2
  ·rw[if_pos m]at h;cases u:au n x.names with
   |none=>rw[u]at h;cases h
   |some k=>rw[u]at h;exact⟨x,k,rfl,m,u,h⟩
  ·rw[if_neg m]at h;cases h
theorem vW{T:aS}{u:Int->Nat}(h:fV T u):∀(p:List Nm) (a d:Int),aP T a p=(d,0)->bQ T d=2->u d=u a+p.length
 |[],a,d,z,_=>by
  have:a=d:=aaK Prod.fst z;subst this;rfl
 |n::r,a,d,z,C=>by
  obtain⟨x,k,D,H,G,z⟩:=xq z;have A:bQ T k=2:=by
   cases r with
   |nil=>
    have:k=d:=aaK Prod.fst z;rw[this];exact C
   |cons m s=>
    obtain⟨y,j,F,B,_⟩:=xq z;rw[eO F];exact B
  have E:=(h.up a x D _ (fH G)).2 A;have I:=vW h r k d z C;simp only at E;rw[List.length_cons];omega
theorem zU{T:aS}(C:OkW T){a b k:Int}{x y:fI}{n m:Nm}(B:au a T=some x)(K:au n x.names=some k)(E:au b T=some y)(J:au m y.names=some k)(M:bQ T k=2):a=b/\n=m:=by
 obtain⟨z,H,G⟩:=nM M;have P:=(C.leads a x B _ (fH K)).2;have N:=C.counts k z H P;rw[((C.each k z H).dir G).1]at N;have O:=rY C.toEd B K k;rw[if_pos rfl]at O;have I:iH (aV T a n) k=0:=by omega
 by_cases u:b=a
 ·subst u;rw[B]at E;cases E;refine⟨rfl,?_⟩;by_cases A:m=n
  ·exact A.symm
  ·have D:au b (aV T b n)=some {x with names:=bZ n x.names}:=by unfold aV;rw[bB,if_pos rfl,B];rfl
   have F:au m (bZ n x.names)=some k:=by rw[oM A];exact J
   exact absurd rfl (DJ I D _ (fH F))
 ·have D:au b (aV T a n)=some y:=by unfold aV;rw[bB,if_neg u];exact E
  exact absurd rfl (DJ I D _ (fH J))
theorem Et{T:aS}(C:OkW T):∀(l:Nat) (p q:List Nm) (d:Int),p.length<=l->aP T 0 p=(d,0)->aP T 0 q=(d,0)->bQ T d=2->p=q
 |l,p,q,d,I,M,D,P=>by
  by_cases A:p=[]
  ·subst A;by_cases z:q=[]
   ·exact z.symm
   ·obtain⟨Q,x,n,-,-,u,_,B,_⟩:=eP D z;have H:(0:Int)=d:=aaK Prod.fst M;have:=(C.leads Q x u _ (fH B)).2;exact absurd H.symm this
  ·obtain⟨N,x,n,-,E,u,F,B,_,S⟩:=eP M A;by_cases z:q=[]
   ·subst z;have H:(0:Int)=d:=aaK Prod.fst D;have:=(C.leads N x u _ (fH B)).2;exact absurd H.symm this
   ·obtain⟨W,y,m,-,J,U,_,R,_,V⟩:=eP D z;obtain⟨G,K⟩:=zU C u B U R P;subst G K;have O:p.dropLast.length<p.length:=by
     rw[abw];have:p.length≠0:=λ e=>A (aac e);omega
    match l,I with
    |0,I=>exact absurd (aac (by omega)) A
    |l+1,I=>
     have:=Et C l p.dropLast q.dropLast N (by omega) E J ((eO u).trans F);rw[S,V,this]
def Oi(T:aS)(id d:Int):Prop:=∃q,aP T id q=(d,0)
theorem QO{T:aS}(E:fA T):∀(q:List Nm) (id d:Int) (x:fI) (e:Nm×Int) (n:Nat),aP T id q=(d,0)->au d T=some x->e∈x.names->q.length<n->q.length+1<=mK T n id
 |[],id,d,x,e,n+1,u,z,A,B=>by
  have:id=d:=aaK Prod.fst u;subst this;have:1+mK T n e.2<=maxD (mK T n) (bM T id):=DK _ (by rw[kZ z];exact A);show 0+1<=maxD (mK T n) (bM T id);omega
 |m::r,id,d,x,e,n+1,u,z,A,B=>by
  obtain⟨y,k,D,F,C,u⟩:=xq u;rw[List.length_cons]at B;have G:=QO E r k d x e n u z A (by omega);have:1+mK T n k<=maxD (mK T n) (bM T id):=DK (mK T n) (e:=(m,k)) (by rw[kZ D];exact fH C);show(m::r).length+1<=maxD (mK T n) (bM T id);rw[List.length_cons];omega
 |q,_,_,_,_,0,_,_,_,B=>by omega
def lg(p q:List Nm):Bool:=decide (p.take q.length=q)
def lY(T:aS)(p m:List Nm):Int:=
 if mH p m≠0 then mH p m else
 if (aP T 0 p).2≠0 then(aP T 0 p).2 else
 if (aP T 0 p).1=0 then 1 else
 if (aQ T m).2.2≠0 then(aQ T m).2.2 else
 if bQ T (aP T 0 p).1=2/\lg m p=true then 1 else
 match au (aQ T m).2.1 (bM T (aQ T m).1)with
 |some k=>if k=(aP T 0 p).1 then 0 else 21
 |none=>if 8<m.length+mK T 8 (aP T 0 p).1 then 3 else 0
def zV(T:aS)(p m:List Nm):aS:=setName (aV T (aQ T p).1 (aQ T p).2.1) (aQ T m).1 (aQ T m).2.1 (aP T 0 p).1
def dz(T:aS)(p m:List Nm):Int×aS:=
 (lY T p m,if lY T p m=0/\(au (aQ T m).2.1 (bM T (aQ T m).1)).isSome=false then zV T p m else T)
theorem fA.move{T:aS}(h:fA T){y D id:Int}{H O:fI}{A B:Nm}(m:au y T=some H)(K:H.kind=2)(I:au A H.names=some id)(C:au D T=some O)(S:O.kind=2)(U:gF B=true)(E:au B O.names=none):
  fA (setName (aV T y A) D B id):=by
 have J:=h.leads y H m _ (fH I);have hP:=h.toDg.cut (n:=A) m K;obtain⟨P,G,V,DL⟩:∃P,au D (aV T y A)=some P/\P.kind=2/\au B P.names=none:=by
  unfold aV;rw[bB];by_cases Y:D=y
  ·subst Y;rw[m]at C;cases C;rw[if_pos rfl,m];refine⟨_,rfl,K,?_⟩;show au B (bZ A H.names)=none;rw[eG];split
   ·rfl
   ·exact E
  ·rw[if_neg Y];exact⟨O,C,S,E⟩
 have M:(au id (aV T y A)).isSome=true:=by
  unfold aV;rw[bB];split<;>simp[J.1]
 refine⟨hP.set G V U ⟨M,J.2⟩,λ j z u hj=> ?_⟩;have h1:=rY h.toDg m I j;have h2:=nO hP.sorted (λ x=>{x with names:=dO bytesBefore B id x.names}) G j;have h3:=NZ (id:=id) DL j;have e:iH (setName (aV T y A) D B id) j=iH T j:=by
  unfold setName;omega
 rw[e];unfold setName at u;rw[bB]at u;obtain⟨N,X,Q⟩:∃N,au j (aV T y A)=some N/\z.links=N.links:=by
  by_cases F:j=D
  ·rw[if_pos F]at u;cases Z:au j (aV T y A)with
   |none=>rw[Z]at u;cases u
   |some N=>
    rw[Z]at u;simp only[aao,aae]at u;exact⟨N,rfl,by rw[<-u]⟩
  ·rw[if_neg F]at u;exact⟨z,u,rfl⟩
 obtain⟨z2,W,R,_⟩:=Jo X;rw[Q,R];exact h.counts j z2 W hj
theorem Lb{T:aS}(E:fA T){id a k:Int}{x:fI}{n:Nm}(A:au a T=some x)(C:au n x.names=some k)(F:bQ T k=2)(D:k≠id):Oi T id k↔Oi T id a:=by
 constructor
 ·rintro ⟨q,u⟩;rcases List.eq_nil_or_concat q with rfl|⟨r,m,rfl⟩
  ·exact absurd (aaK Prod.fst u).symm D
  ·rw[List.concat_eq_append,kY]at u;by_cases z:(aP T id r).2=0
   ·rw[if_pos z]at u;obtain⟨y,j,H,J,G,I⟩:=xq u;have:j=k:=aaK Prod.fst I;subst this;obtain⟨B,_⟩:=zU E A C H G F;exact⟨r,abd B.symm z⟩
   ·rw[if_neg z]at u;rw[u]at z;exact absurd rfl z
 ·rintro ⟨q,u⟩;refine⟨q++[n],?_⟩;rw[kY,u];simp only[if_pos];have:=Ib E A (fH C);simp only[aP,A,if_pos this,C]
theorem Eu{T:aS}{D E id:Int}{F G:Nm}{a:Int}{x:fI}(h:au a (setName (aV T D F) E G id)=some x):∃y,au a T=some y/\x.kind=y.kind/\∀e∈x.names,(e∈y.names/\¬(a=D/\e.1=F))\/(a=E/\e=(G,id)):=by
 obtain⟨z,m,H,I⟩:∃z,au a (aV T D F)=some z/\x.kind=z.kind/\∀e∈x.names,e∈z.names\/(a=E/\e=(G,id)):=by
  unfold setName at h;rw[bB]at h;by_cases B:a=E
  ·rw[if_pos B]at h;cases m:au a (aV T D F)with
   |none=>rw[m]at h;cases h
   |some z=>
    rw[m]at h;simp only[aao,aae]at h;refine⟨z,rfl,by rw[<-h],λ e u=> ?_⟩;rw[<-h]at u;rcases (qc bytesBefore).1 u with C|C
    ·exact .inr ⟨B,C⟩
    ·exact .inl (aaG.1 C).1
  ·rw[if_neg B]at h;exact⟨x,h,rfl,λ e u=> .inl u⟩
 unfold aV at m;rw[bB]at m;by_cases B:a=D
 ·rw[if_pos B]at m;cases J:au a T with
  |none=>rw[J]at m;cases m
  |some y=>
   rw[J]at m;simp only[aao,aae]at m;refine⟨y,rfl,by rw[H,<-m],λ e u=> ?_⟩;rcases I e u with A|A
   ·rw[<-m]at A;have C:=aaG.1 A;refine .inl ⟨C.1,λ K=> ?_⟩;have:=C.2;simp[K.2]at this
   ·exact .inr A
 ·rw[if_neg B]at m;refine⟨z,m,H,λ e u=> ?_⟩;rcases I e u with A|A
  ·exact .inl ⟨A,λ h=>B h.1⟩
  ·exact .inr A
theorem Br{T:aS}{d:Int}{f:fI->fI}(m:∀x,(f x).kind=x.kind)(k:Int):bQ (cZ d f T) k=bQ T k:=by
 unfold bQ;rw[bB];by_cases h:k=d
 ·rw[if_pos h];cases au k T with
  |none=>rfl
  |some y=>exact m y
 ·rw[if_neg h]
theorem Ic{T:aS}{z m id:Int}{u y:Nm}(k:Int):bQ (setName (aV T z u) m y id) k=bQ T k:=by
 unfold setName aV;exact(Br (λ _=>by exact rfl) k).trans (Br (λ _=>by exact rfl) k)
open Classical in
theorem fV.move{T:aS}{H:Int->Nat}(h:fV T H)(C:fA T){p u:List Nm}{id D:Int}{nt:Nm}(S:aP T 0 p=(id,0))(h0:id≠0)(m:aQ T u=(D,nt,0))(hf:u.length<=8)(hw:bQ T id=2->lg u p=false/\u.length+mK T 8 id<=8):
  ∃X,fV (setName (aV T (aQ T p).1 (aQ T p).2.1) D nt id) X:=by
 have Y:p≠[]:=λ e=>by subst e;exact h0 (aaK Prod.fst S).symm
 obtain⟨d1,x1,n1,e1,aL,ak,aN,Z,_,ep⟩:=eP S Y;rw[e1];obtain⟨aD,W,av⟩:u≠[]/\aP T 0 u.dropLast=(D,0)/\bQ T D=2:=by
  unfold aQ at m;by_cases N:u=[]
  ·rw[if_pos N]at m;cases m
  ·rw[if_neg N]at m;by_cases E:(aP T 0 u.dropLast).2≠0
   ·rw[if_pos E]at m;exact absurd (aaK (·.2.2) m) E
   ·rw[if_neg E]at m;by_cases P:bQ T (aP T 0 u.dropLast).1=2
    ·rw[if_pos P]at m;have G:(aP T 0 u.dropLast).1=D:=aaK Prod.fst m;exact⟨N,abd G (by simpa using E),G▸P⟩
    ·rw[if_neg P]at m;cases m
 have aB:=vW h _ 0 D W av;rw[h.zero,abw]at aB;have bf:u.length≠0:=λ e=>aD (aac e);by_cases hk:bQ T id=2
 ·obtain⟨M,bn⟩:=hw hk;have R:=vW h p 0 id S hk;rw[h.zero]at R;have aH:¬Oi T id D:=by
   rintro ⟨q,I⟩;have G:aP T 0 (p++q)=(D,0):=by rw[kY,S];simp only[if_pos];exact I
   have V:=Et C _ _ _ D acs W G av;have h5:u.take p.length=p:=by
    have J:u.dropLast.take p.length=p:=by rw[V,List.take_left]
    have U:p.length<=u.length-1:=by
     have:=aaK List.length V;rw[abw,List.length_append]at this;omega
    rw[List.dropLast_eq_take,List.take_take,Nat.min_eq_left U]at J;exact J
   unfold lg at M;rw[h5]at M;simp at M
  refine⟨λ d=>if Oi T id d then H d+u.length-p.length else H d,?_,λ d x hx e he=> ?_⟩
  ·have:¬Oi T id 0:=by
    rintro ⟨q,I⟩;have G:aP T 0 (p++q)=(0,0):=by rw[kY,S];simp only[if_pos];exact I
    have V:=Et C 0 [] _ 0 acs rfl G C.root;have:=aaK List.length V;rw[List.length_append]at this;exact Y (aac (by simp at this;omega))
   simp only[if_neg this,h.zero]
  ·obtain⟨y,B,aF,Q⟩:=Eu hx;rw[Ic];rcases Q e he with⟨z,aA⟩|⟨hd,O⟩
   ·have F:=h.up d y B e z;have aJ:=Ib C B z;have hn:=fq Sd (C.each d y B).sorted z;by_cases hD:Oi T id d
    ·obtain⟨q,I⟩:=hD;have G:=vW h q id d I ((eO B).trans aJ);have aC:q.length<8:=by have:=F.1;omega
     have V:=QO C q id d y e 8 I B z aC;simp only[if_pos (show Oi T id d from⟨q,I⟩)];refine⟨by omega,λ A=> ?_⟩;have K:e.2≠id:=λ h5=>by
      obtain⟨J,U⟩:=zU C ak Z B (by rw[<-h5];exact hn) hk;exact aA ⟨J.symm,U.symm⟩
     have:=F.2 A;rw[if_pos ((Lb C B hn A K).2 ⟨q,I⟩)];omega
    ·simp only[if_neg hD];refine⟨F.1,λ A=> ?_⟩;have K:e.2≠id:=λ h5=>by
      obtain⟨J,U⟩:=zU C ak Z B (by rw[<-h5];exact hn) hk;exact aA ⟨J.symm,U.symm⟩
     rw[if_neg (λ J=>hD ((Lb C B hn A K).1 J))];exact F.2 A
   ·subst hd O;simp only[if_neg aH];refine⟨by omega,λ _=> ?_⟩;rw[if_pos ⟨[],rfl⟩];omega
 ·refine⟨H,h.zero,λ d x hx e he=> ?_⟩;obtain⟨y,B,aF,Q⟩:=Eu hx;rw[Ic];rcases Q e he with⟨z,_⟩|⟨hd,O⟩
  ·exact h.up d y B e z
  ·subst hd O;exact⟨by omega,λ G=>absurd G hk⟩
theorem Oj{T:aS}{z:List Nm}{B:Int}{nt:Nm}(m:aQ T z=(B,nt,0)):z≠[]/\aP T 0 z.dropLast=(B,0)/\bQ T B=2:=by
 unfold aQ at m;by_cases A:z=[]
 ·rw[if_pos A]at m;cases m
 ·rw[if_neg A]at m;by_cases u:(aP T 0 z.dropLast).2≠0
  ·rw[if_pos u]at m;exact absurd (aaK (·.2.2) m) u
  ·rw[if_neg u]at m;by_cases y:bQ T (aP T 0 z.dropLast).1=2
   ·rw[if_pos y]at m;have C:(aP T 0 z.dropLast).1=B:=aaK Prod.fst m;exact⟨A,abd C (by simpa using u),C▸y⟩
   ·rw[if_neg y]at m;cases m
theorem fV.place{T:aS}{m:Int->Nat}(h:fV T m){y:List Nm}{u:Int}{nt:Nm}(z:aQ T y=(u,nt,0))(D:y.length<=8):m u<8:=by
 obtain⟨C,A,B⟩:=Oj z;have:=vW h _ 0 u A B;rw[h.zero,abw]at this;have:y.length≠0:=λ e=>C (aac e);omega
def Sub(m T:aS):Prop:=∀d x,au d m=some x->∃y,au d T=some y/\x.kind=y.kind/\∀e∈x.names,e∈y.names
theorem Sub.refl(T:aS):Sub T T:=λ d x h=>⟨x,h,rfl,λ _ m=>m⟩
theorem Sub.trans{A B C:aS}(h:Sub A B)(k:Sub B C):Sub A C:=λ d x u=>by
 obtain⟨y,H,G,E⟩:=h d x u;obtain⟨z,m,I,D⟩:=k d y H;exact⟨z,m,G.trans I,λ e F=>D e (E e F)⟩
theorem Sub.cZ{T:aS}{k:Int}{f:fI->fI}(C:∀x,(f x).kind=x.kind)(B:∀x,∀e∈(f x).names,e∈x.names):Sub (Go.Proofs.YthillkfmdndedaaGreatDoor.cZ k f T) T:=λ d x m=>by
 rw[bB]at m;by_cases z:d=k
 ·rw[if_pos z]at m;cases A:au d T with
  |none=>rw[A]at m;cases m
  |some y=>
   rw[A]at m;simp only[aao,aae]at m;exact⟨y,rfl,by rw[<-m];exact C y,λ e u=>B y e (by rw[m];exact u)⟩
 ·rw[if_neg z]at m;exact⟨x,m,rfl,λ _ u=>u⟩
theorem Sub.del{T:aS}(k:Int):Sub (bZ k T) T:=λ d x m=>by
 rw[eG]at m;split at m
 ·cases m
 ·exact⟨x,m,rfl,λ _ u=>u⟩
theorem Sub.settle{T:aS}(k:Int):Sub (iQ T k) T:=by
 unfold iQ;cases au k T with
 |none=>exact Sub.refl T
 |some x=>
  simp only;split
  ·exact Sub.del k
  ·exact Sub.refl T
theorem Sub.cut{T:aS}(d:Int)(n:Nm):Sub (aV T d n) T:=Sub.cZ (λ _=>by exact rfl) λ x e m=>(aaG.1 m).1
theorem fV.sub{T E:aS}{m:Int->Nat}(h:fV T m)(C:Sub E T):fV E m:=by
 refine⟨h.zero,λ d x H e I=> ?_⟩;obtain⟨y,K,_,M⟩:=C d x H;have D:=h.up d y K e (M e I);refine⟨D.1,λ G=>D.2 ?_⟩;obtain⟨z,F,B⟩:=nM G;obtain⟨u,J,A,_⟩:=C _ z F;rw[eO J,<-A];exact B
theorem Ev{T:aS}{d id a:Int}{n:Nm}{x:fI}(h:au a (setName T d n id)=some x):∃y,au a T=some y/\x.kind=y.kind/\∀e∈x.names,e∈y.names\/(a=d/\e=(n,id)):=by
 unfold setName at h;rw[bB]at h;by_cases u:a=d
 ·rw[if_pos u]at h;cases B:au a T with
  |none=>rw[B]at h;cases h
  |some z=>
   rw[B]at h;simp only[aao,aae]at h;refine⟨z,rfl,by rw[<-h],λ e m=> ?_⟩;rw[<-h]at m;rcases (qc bytesBefore).1 m with A|A
   ·exact .inr ⟨u,A⟩
   ·exact .inl (aaG.1 A).1
 ·rw[if_neg u]at h;exact⟨x,h,rfl,λ e m=> .inl m⟩
theorem Lc{T:aS}{d id:Int}{n:Nm}(k:Int):bQ (setName T d n id) k=bQ T k:=by
 unfold setName;exact Br (λ _=>by exact rfl) k
theorem fV.link{T:aS}{m:Int->Nat}(h:fV T m){d id:Int}{n:Nm}(z:m d<8)(A:bQ T id≠2):fV (setName T d n id) m:=by
 refine⟨h.zero,λ a x B e D=> ?_⟩;rw[Lc];obtain⟨y,E,_,F⟩:=Ev B;rcases F e D with u|⟨u,C⟩
 ·exact h.up a y E e u
 ·subst u C;exact⟨z,λ G=>absurd G A⟩
theorem fV.make{T:aS}{m:Int->Nat}(h:fV T m)(N:fA T){d f kind:Int}{n:Nm}(O:m d<8)(H:au f T=none)(E:f≠0)(A:(au d T).isSome=true):∃B,fV (setName (dO qK f (dh kind) T) d n f) B:=by
 refine⟨λ k=>if k=f then m d+1 else m k,by simp only[if_neg (aa6 E),h.zero],λ a x Q e K=> ?_⟩;have G:d≠f:=λ e=>by rw[e,H]at A;cases A
 obtain⟨y,R,_,M⟩:=Ev Q;rw[Lc];rcases vQ N.sorted R with⟨D,C⟩|⟨D,C⟩
 ·rcases M e K with u|⟨u,J⟩
  ·rw[C]at u;cases u
  ·exact absurd (u.symm.trans D) G
 ·rcases M e K with u|⟨u,J⟩
  ·have F:=h.up a y C e u;have I:=(N.leads a y C e u).1;have z:e.2≠f:=λ P=>by rw[P,H]at I;cases I
   simp only[if_neg D,if_neg z];have:bQ (dO qK f (dh kind) T) e.2=bQ T e.2:=by unfold bQ;rw[fO,if_neg z]
   rw[this];exact F
  ·subst u J;simp only[if_neg D,if_pos];exact⟨O,λ _=>trivial⟩
def gT(T:aS):Prop:=fA T/\∃m,fV T m
def OkayW(T:aS):Prop:=OkW T/\∃m,fV T m
theorem gT.w{T:aS}(h:gT T):OkayW T:=⟨h.1.w,h.2⟩
instance{T:aS}:Coe (gT T) (OkayW T):=⟨gT.w⟩
theorem gT.new:gT mO:=by
 refine⟨newM_ok,λ _=>0,rfl,λ d x m e y=> ?_⟩;unfold mO at m;rw[iG]at m;by_cases u:(0:Int)=d
 ·rw[if_pos u]at m;cases m;cases y
 ·rw[if_neg u]at m;cases m
theorem gT.Wx{T:aS}(h:gT T)(d:Int):Js T 8 d:=by
 obtain⟨y,u,m⟩:=h;exact m.shal8 y d
theorem gT.dF{T:aS}(h:gT T)(u:List Nm)(kind:Int):gT (dF T u kind).2:=by
 obtain⟨y,m,A⟩:=h;refine⟨y.dF u kind,?_⟩;unfold Go.Proofs.YthillkfmdndedaaGreatDoor.dF;by_cases B:ow T u kind=0
 ·rw[if_pos B];obtain⟨G,I,a3,a4,a5⟩:=En y B;obtain⟨x,E,H,J⟩:=kH y a3;obtain⟨f,F,D,C,z,_⟩:=y.free;show ∃m,fV (yD T u kind) m;unfold yD;rw[F];exact A.make y (A.place (nt:=(aQ T u).2.1) (abd rfl (abd rfl a3)) (rX G)) z (by omega) (by rw[E];rfl)
 ·rw[if_neg B];exact⟨m,A⟩
theorem gT.iy{T:aS}(h:gT T)(p y:List Nm):gT (iy T p y).2:=by
 obtain⟨A,u,z⟩:=h;refine⟨A.iy p y,?_⟩;unfold Go.Proofs.YthillkfmdndedaaGreatDoor.iy;by_cases m:pq T p y=0
 ·simp only[if_pos m];obtain⟨B,E,a3,a4,a5,D⟩:=Eo m;have C:=z.link (n:=(aQ T y).2.1) (z.place (nt:=(aQ T y).2.1) (abd rfl (abd rfl a4)) (rX (tJ B).2)) a3;unfold NS;exact⟨u,C.sub (Sub.cZ (λ _=>by exact rfl) λ x e m=>m)⟩
 ·simp only[if_neg m];exact⟨u,z⟩
theorem gT.dY{T:aS}(h:gT T)(p:List Nm):gT (dY T p).2:=by
 obtain⟨z,m,u⟩:=h;refine⟨z.dY p,m,?_⟩;unfold Go.Proofs.YthillkfmdndedaaGreatDoor.dY;simp only;split
 ·unfold zH;exact u.sub ((Sub.settle _).trans ((Sub.cZ (f:=λ x=>{x with links:=x.links-1}) (λ _=>by exact rfl) λ x e y=>y).trans (Sub.cut _ _)))
 ·exact u
theorem gT.fC{T:aS}(h:gT T)(p:List Nm):gT (fC T p).2:=by
 obtain⟨y,m,u⟩:=h;refine⟨y.fC p,m,?_⟩;unfold Go.Proofs.YthillkfmdndedaaGreatDoor.fC;simp only;split
 ·unfold DF;exact u.sub ((Sub.del _).trans (Sub.cut _ _))
 ·exact u
theorem gT.dP{T:aS}(h:gT T)(id:Int)(b:I8):gT (dP T id b).2:=by
 obtain⟨z,m,u⟩:=h;refine⟨z.dP id b,m,?_⟩;unfold Go.Proofs.YthillkfmdndedaaGreatDoor.dP;simp only;split
 ·exact u.sub (Sub.cZ (λ _=>by exact rfl) λ x e y=>y)
 ·exact u
theorem gT.gu{T:aS}(h:gT T)(id u:Int)(z:0<=u):gT (gu T id u).2:=by
 obtain⟨B,m,y⟩:=h;refine⟨B.gu id u z,m,?_⟩;unfold Go.Proofs.YthillkfmdndedaaGreatDoor.gu;simp only;split
 ·exact y.sub ((Sub.settle _).trans (Sub.cZ (λ _=>by exact rfl) λ x e A=>A))
 ·exact y
theorem gT.iX{T:aS}(h:gT T)(id u:Int)(z:0<=u):gT (iX T id u).2:=by
 obtain⟨B,m,y⟩:=h;refine⟨B.iX id u z,m,?_⟩;unfold Go.Proofs.YthillkfmdndedaaGreatDoor.iX;simp only;split
 ·exact y.sub (Sub.cZ (λ _=>by exact rfl) λ x e A=>A)
 ·exact y
def kI(T:aS)(id:Int):aS:=T.map λ q=>(q.1,{q.2 with names:=q.2.names.filter λ e=> !decide (e.2=id)})
theorem xw(T:aS)(id:Int):Bb T id=bZ id (kI T id):=rfl
def iV(id:Int)(x:fI):fI:={x with names:=x.names.filter λ e=> !decide (e.2=id)}
theorem mD(T:aS)(id k:Int):au k (kI T id)=(au k T).map (iV id):=KI (iV id) k T
theorem Wz(id j:Int)(x:fI):cn j (iV id x)=if j=id then 0 else cn j x:=by
 unfold cn iV;simp only;rw[List.countP_filter];by_cases h:j=id
 ·subst h;rw[if_pos rfl,ab9];intro e _;simp
 ·rw[if_neg h];apply List.countP_congr;intro e _;simp only[aaW,aap,Bool.not_eq_true',aa1];exact⟨λ m=>m.1,λ m=>⟨m,λ u=>h (m.symm.trans u)⟩⟩
theorem Ew(T:aS)(id j:Int):iH (kI T id) j=if j=id then 0 else iH T j:=by
 induction T with
 |nil=>simp[iH,kI]
 |cons y r ih=>
  have m:iH (kI (y::r) id) j=cn j (iV id y.2)+iH (kI r id) j:=by
   unfold iH kI iV;simp
  have u:iH (y::r) j=cn j y.2+iH r j:=by unfold iH;simp
  rw[m,u,ih,Wz];split<;>simp
theorem Ed.strip{T:aS}(h:Ed T)(id:Int):Ed (kI T id):=by
 have u:∀k x,au k (kI T id)=some x->∃y,au k T=some y/\x=iV id y:=λ k x m=>by
  rw[mD]at m;cases A:au k T with
  |none=>rw[A]at m;cases m
  |some y=>
   rw[A]at m;simp only[aao,aae]at m;exact⟨y,rfl,m.symm⟩
 refine⟨?_,?_,λ k x m=> ?_,λ k x m e B=> ?_,by unfold kI;rw[List.length_map];exact h.len,λ k x m=> ?_⟩
 ·have:=h.sorted;unfold bA kI at*;rw[abQ];exact this
 ·obtain⟨x,m,D⟩:=nM h.root;unfold bQ;rw[mD,m];exact D
 ·obtain⟨y,A,rfl⟩:=u k x m;have o:=h.each k y A;refine⟨o.kind,λ E=> ?_,o.dir,o.gone,?_,λ e B=>o.good e (aaG.1 B).1,o.size,o.links,o.aL⟩
  ·unfold iV;simp only;rw[o.file E];rfl
  ·exact List.Pairwise.filter _ o.sorted
 ·obtain⟨y,A,rfl⟩:=u k x m;have:=h.leads k y A e (aaG.1 B).1;refine⟨?_,this.2⟩;rw[mD];obtain⟨z,C⟩:=aag.1 this.1;rw[C];rfl
 ·obtain⟨y,A,rfl⟩:=u k x m;exact h.ids k y A
theorem Sub.strip(T:aS)(id:Int):Sub (kI T id) T:=λ d x m=>by
 rw[mD]at m;cases u:au d T with
 |none=>rw[u]at m;cases m
 |some y=>
  rw[u]at m;simp only[aao,aae]at m;subst m;exact⟨y,rfl,rfl,λ e z=>(aaG.1 z).1⟩
theorem Ey{T:aS}{id:Int}(h:lF T id=0):∃x,au id T=some x/\x.kind≠2/\x.closed=false:=by
 unfold lF at h;cases u:au id T with
 |none=>rw[u]at h;cases h
 |some x=>
  rw[u]at h;simp only at h;by_cases m:x.kind=2
  ·rw[if_pos m]at h;cases h
  ·rw[if_neg m]at h;cases y:x.closed with
   |true=>rw[y]at h;cases h
   |false=>exact⟨x,rfl,m,y⟩
theorem OkW.fJ{T:aS}(h:OkW T)(id:Int):OkW (fJ T id).2:=by
 unfold Go.Proofs.YthillkfmdndedaaGreatDoor.fJ;by_cases F:lF T id=0
 ·simp only[if_pos F];obtain⟨x,C,H,_⟩:=Ey F;have K:id≠0:=λ e=>by
   have E:=h.root;unfold bQ at E;rw[<-e,C]at E;exact H E
  have A:=(h.each id x C).file ((h.each id x C).kind.resolve_right H);have I:=h.toEd.strip id;have B:au id (kI T id)=some (iV id x):=by rw[mD,C];rfl
  have G:(iV id x).names=[]:=by unfold iV;simp only;rw[A];rfl
  rw[xw];refine⟨I.del B K (by rw[Ew,if_pos rfl]),λ j y m J=> ?_⟩;have u:j≠id:=λ e=>by subst e;rw[qd]at m;cases m
  rw[eG,if_neg u,mD]at m;cases D:au j T with
  |none=>rw[D]at m;cases m
  |some z=>
   rw[D]at m;simp only[aao,aae]at m;have P:=Bj I.sorted B j;have O:cn j (iV id x)=0:=by unfold cn;rw[G];rfl
   have M:=Ew T id j;rw[if_neg u]at M;have N:=h.counts j z D J;have Q:y.links=z.links:=by rw[<-m];rfl
   omega
 ·simp only[if_neg F];exact h
theorem fA.fJ{T:aS}(h:fA T)(id:Int):fA (fJ T id).2:=by
 have z:=h.w.fJ id;refine⟨Dg.of_w z.toEd λ k x m=> ?_,z.counts⟩;unfold Go.Proofs.YthillkfmdndedaaGreatDoor.fJ at m;simp only at m;split at m
 ·rw[xw,eG]at m;split at m
  ·cases m
  ·rw[mD]at m;cases u:au k T with
   |none=>rw[u]at m;cases m
   |some y=>
    rw[u]at m;simp only[aao,aae]at m;subst m;exact(h.each k y u).links.2
 ·exact(h.each k x m).links.2
theorem gT.fJ{T:aS}(h:gT T)(id:Int):gT (fJ T id).2:=by
 obtain⟨y,m,u⟩:=h;refine⟨y.fJ id,m,?_⟩;unfold Go.Proofs.YthillkfmdndedaaGreatDoor.fJ;simp only;split
 ·rw[xw];exact u.sub ((Sub.del _).trans (Sub.strip _ _))
 ·exact u
theorem Jt{T:aS}{p m:List Nm}(h:lY T p m=0):mH p m=0/\(aP T 0 p).2=0/\(aP T 0 p).1≠0/\(aQ T m).2.2=0/\(bQ T (aP T 0 p).1=2->lg m p=false)/\(au (aQ T m).2.1 (bM T (aQ T m).1)=none->m.length+mK T 8 (aP T 0 p).1<=8):=by
 unfold lY at h;by_cases C:mH p m≠0
 ·rw[if_pos C]at h;exact absurd h C
 ·rw[if_neg C]at h;by_cases z:(aP T 0 p).2≠0
  ·rw[if_pos z]at h;exact absurd h z
  ·rw[if_neg z]at h;by_cases B:(aP T 0 p).1=0
   ·rw[if_pos B]at h;cases h
   ·rw[if_neg B]at h;by_cases u:(aQ T m).2.2≠0
    ·rw[if_pos u]at h;exact absurd h u
    ·rw[if_neg u]at h;by_cases A:bQ T (aP T 0 p).1=2/\lg m p=true
     ·rw[if_pos A]at h;cases h
     ·rw[if_neg A]at h;refine⟨by omega,by omega,B,by omega,λ y=> ?_,λ y=> ?_⟩
      ·cases D:lg m p with
       |false=>rfl
       |true=>exact absurd ⟨y,D⟩ A
      ·rw[y]at h;simp only at h;split at h
       ·cases h
       ·omega
theorem gT.dz{T:aS}(h:gT T)(p m:List Nm):gT (dz T p m).2:=by
 unfold Go.Proofs.YthillkfmdndedaaGreatDoor.dz;simp only;by_cases z:lY T p m=0/\(au (aQ T m).2.1 (bM T (aQ T m).1)).isSome=false
 ·rw[if_pos z];obtain⟨H,Q,P⟩:=h;obtain⟨M,S,a3,a4,a5,O⟩:=Jt z.1;have I:au (aQ T m).2.1 (bM T (aQ T m).1)=none:=by simpa using z.2
  have y:aP T 0 p=((aP T 0 p).1,0):=abd rfl S;have D:aQ T m=((aQ T m).1,(aQ T m).2.1,0):=abd rfl (abd rfl a4);obtain⟨W,u,E,A⟩:=kH H a4;have B:p≠[]:=λ e=>a3 (by rw[e];rfl);obtain⟨U,V,X,R,K,F,G,C,_,Y⟩:=eP y B;have J:=tJ M;unfold zV;refine⟨?_,P.move H y a3 D (rX J.2) λ N=>⟨a5 N,O I⟩⟩;rw[R];rw[kZ u]at I;exact H.move F G C u E (jg J.2 _ A) I
 ·rw[if_neg z];exact h
