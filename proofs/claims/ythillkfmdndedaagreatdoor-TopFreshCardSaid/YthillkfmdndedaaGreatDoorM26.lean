/- package -/
import Derived.Test.YthillkfmdndedaaGreatDoorM25
set_option maxRecDepth 100000
set_option maxHeartbeats 64000000
set_option linter.all false
namespace Go.Proofs.YthillkfmdndedaaGreatDoor
open Go.ChangeShapes Go.WideShapes Go.ChangeAt Go.RowKit
theorem EX{M:dQ}{n:Int}{b:Bool}{f:Nz}(h:gW M n b=some f):∃m:Nat,n=m/\m<8/\M.fds m=some f/\f.wr=b:=by
 unfold gW at h;split at h
 ·rename_i z;split at h
  ·rename_i g y;split at h
   ·rename_i u;cases h;exact⟨n.toNat,by omega,by omega,y,u⟩
   ·cases h
  ·cases h
 ·cases h
def dQ.put(M:dQ)(n:Nat)(f:Option Nz):dQ:={M with fds:=λ m=>if m=n then f else M.fds m}
section
variable{W w:World}{o:Mark}{i j k l p:Nat}{M:dQ}
theorem bP.put(h:bP o i j k w p M)(G:Marks W o w)(H:Mk i j k l)(n:Nat)(C:n<8)(v:Value)(f:Option Nz)(F:yM o w v f):Step o (λ m=>m=k) w o (w.setCell ⟨p,3+n,none⟩ v)/\bP o i j k (w.setCell ⟨p,3+n,none⟩ v) p (M.put n f):=by
 obtain⟨Z,V,O,S,U,D,X,P,n9,N⟩:=H.ne;obtain⟨t,s,B,K,J,Q,I⟩:=h.at_;have R:=size_set w ⟨p,3+n,none⟩ v;have u:Step o (λ m=>m=k) w o (w.setCell ⟨p,3+n,none⟩ v):=⟨λ _ _=>rfl,λ b Y C=>absurd (G.new b C).2 (by omega),(Keeps.jy w ⟨p,3+n,none⟩ v).mono λ x _ A=>by
  have A:x=p:=A;rw[A];exact h.own⟩
 have z:¬(λ m=>m=k) 0:=λ e=>O e.symm;refine⟨u,⟨t,s,λ m=>if m=n then v else B m,?_,J.step z D u,Q.step z P u,λ m E=> ?_⟩,h.own,by have:=h.low;omega⟩
 ·have:=aG (i:=3+n) (v:=v) K;rw[st_put t s M.now B n C v]at this;exact this
 ·show yM o _ (if m=n then v else B m) (if m=n then f else M.fds m);by_cases y:m=n
  ·rw[if_pos y,if_pos y];exact F.step z u
  ·rw[if_neg y,if_neg y];exact(I m E).step z u
def L9(o:Mark)(i j k l:Nat)(w:World)(p:Nat)(q:Int×dQ)(e:Ending)(w':World):Prop:=
 e= .returned (.int .i64 q.1)/\∃u,Step o (λ m=>m=i\/m=j\/m=k\/m=l) w u w'/\bP u i j k w' p q.2
def ku(M:dQ)(x:iI):Int×dQ:=match gW M x.fd true with
 |some f=>if (gu M.t f.id x.aL).1≠0 then((gu M.t f.id x.aL).1,{M with t:=(gu M.t f.id x.aL).2})else(0,dQ.put {M with t:=(gu M.t f.id x.aL).2} x.fd.toNat none)
 |none=>match gW M x.fd false with
  |none=>(26,M)
  |some _=>(0,M.put x.fd.toNat none)
theorem Ph(u:bP o i j k w p M)(hM:Marks W o w)(hk:Mk i j k l)(x:iI)(hx:wM x)(aC:∀n f,M.fds n=some f->(Lit.int .i64 f.id).wf=true)(Q:Mx)(P:Nat):
  Dy 61 #[ptr p,.agg (opC x Q P)] w (L9 o i j k l w p (ku M x)):=by
 have H:=acp hk;have HX:=acp hx;have HM:=acp hM;have TU:=acp aC;have D:Below w.heap.size w (w.alloc (.cells (opC x Q P) 32)):=wall w _;have aA:=hM.step (I:=λ _=>False) (λ e=>e) (Step.grow hM D);have C:=u.grow hM D;have ak:(w.alloc (.cells (opC x Q P) 32)).heap[w.heap.size]? =some (.cells (opC x Q P) 32 (0,0)):=(MapKept.heap_alloc w _).1;obtain⟨w1,av⟩:∃w1,w1=w.alloc (.cells (opC x Q P) 32):=⟨_,rfl⟩;have V:acr (Dy 53 #[ptr p,.int .i64 x.fd,.bool true] (w.alloc (.cells (opC x Q P) 32)) λ e dM=>dM=w1/\LW o w1 M x.fd true e):=by rw[<-av]at C⊢;exact acp (EU C x.fd true)
 rw[<-av]at D aA C ak;unfold opC at V;have BK:=acp ak;have d9:=acp D;have N:=acp C;have O:=acp aA;clear u hM hk hx aC av D aA C ak;unfold opC;go_enter Tryz.func61,Tryz.ntmps61;go_wp2_with fail;refine V.o.mono ?_;rintro e w2 ⟨rfl,rF⟩;clear V;obtain⟨n1,n2,n3,n4,n5,n6,n7,n8,n9,fK⟩:=H.o.ne;have mQ:acr (Step o (λ m=>m=i\/m=j\/m=k\/m=l) w o w2):=acp (Step.grow HM.o d9.o);have c3:w2.cell? ⟨w.heap.size,3,none⟩=some (.int .i64 x.fd):=by simp[World.cell?,BK.o,opC]
 rcases rF with⟨hg,rfl⟩|⟨f,fv,hg,rfl,X⟩
 ·have HG:=acp hg;have bT:=acp (EU N.o x.fd false);clear hg;go_wp2_with fail;refine bT.o.mono ?_;rintro e w3 ⟨rfl,aJ⟩;rcases aJ with⟨B,rfl⟩|⟨f,fv,B,rfl,X⟩
  ·have E:ku M x=(26,M):=by unfold ku;rw[HG.o,B]
   have z:=acp E;clear E B;go_wp2_with fail;go_ret;rw[z.o];exact⟨rfl,o,mQ.o,N.o⟩
  ·obtain⟨m,A,Og,G,Z⟩:=EX B;have E:ku M x=(0,M.put x.fd.toNat none):=by unfold ku;rw[HG.o,B]
   rw[A]at E;have z:=acp E;have TV:=acp (O.o.step (I:=λ _=>False) (λ e=>e) (Step.grow O.o acu.drew));have oU:=acp ((N.o.grow O.o acu.drew).put TV.o H.o m Og (.pointer none) none rfl);obtain⟨t,s,v,h1,h2,h3,h4⟩:=N.o.at_;obtain⟨z0,z1,z2,z3,z4⟩:=gV h1;have aB:=z3 m Og;have Y:=z4 (3+m);rw[A]at c3;have i0:(0:Int)<=m:=by omega
   have i1:(m:Int)<8:=by omega
   clear E B A G Z X h1 h2 h3 h4 z0 z1 z2 z3 z4;go_wp2_with fail;refine vJ 6 ((λ w'=>w'.cell? ⟨w.heap.size,3,none⟩=some (.int .i64 m)/\w'.cell? ⟨p,3+m,none⟩=some (v m)/\w'.frozen? ⟨p,3+m,none⟩=false)) ?_ λ u=> ?_
   ·exact⟨c3,aB,Y⟩
   refine aO 0 u ?_;refine aO 1 u ?_;refine aO 2 u ?_;refine aO 3 u ?_;refine aO 4 u ?_;refine aO 5 u ?_;refine cu 6 λ K R=> ?_;go_simp;refine o_ R ?_;clear u R K;go_wp2_with fail;go_ret;rw[z.o];exact⟨rfl,o,((mQ.o.trans (Step.grow O.o acu.drew)).trans (oU.o.1.mono λ m A=> .inr (.inr (.inl A)))),oU.o.2⟩
 ·obtain⟨m,A,Og,G,Z⟩:=EX hg;have E:ku M x=if (gu M.t f.id x.aL).1≠0 then((gu M.t f.id x.aL).1,{M with t:=(gu M.t f.id x.aL).2})else(0,dQ.put {M with t:=(gu M.t f.id x.aL).2} x.fd.toNat none):=by unfold ku;rw[hg]
  rw[A]at E;have XE:=TU.o _ _ G;obtain⟨q,fa,fc,rfl,bn,dn,bf,dV,F⟩:=X;obtain⟨t,s,v,h1,h2,h3,h4⟩:=(N.o.grow O.o acu.drew).at_;have bq:w2.drew.heap[q]? =some (.cells #[.bool f.wr,.int .i64 f.id,.slice fa f.b.length fc] 205 (0,0)):=bf;have aL:w2.drew.heap[w.heap.size]? =some (.cells (opC x Q P) 32 (0,0)):=BK.o;have t_:=O.o.step (I:=λ _=>False) (λ e=>e) (Step.grow O.o acu.drew);have Ez:=acp (om_seal h3 t_ n2 f.id x.aL XE HX.o.wt.1 HX.o.wt.2);have HC:acr (∀w':World,w'.heap[w.heap.size]? =some (.cells (opC x Q P) 32 (0,0))->w'.heap[q]? =some (.cells #[.bool f.wr,.int .i64 f.id,.slice fa f.b.length fc] 205 (0,0))->w'.heap[p]? =some (.cells (Dq t s M.now v) 110 (0,0))->w'.cell? ⟨p,0,none⟩=some (ptr t)/\w'.cell? ⟨q,1,none⟩=some (.int .i64 f.id)/\w'.cell? ⟨w.heap.size,6,none⟩=some (.int .u64 x.aL)):=λ w' e1 e2 e3=>by
   refine⟨?_,?_,?_⟩<;>simp[World.cell?,e1,e2,e3,opC,Dq]
  have HQ:=acp (And.intro bn (And.intro dn bq));have S:=acp h1;have dI:=acp h2;have dN:=acp h4;have bD:=acp aL;have TV:=acp t_;have aH:=N.o.low;have bS:=(qW.1 BK.o).1;have aD:o w.heap.size=0:=Wy λ h9=>by have:=(HM.o.new _ h9).2;omega
  have GJ:=acp aD;have z:=acp E;have dG:=acp A;obtain⟨T2,H9⟩:∃T2,T2=(gu M.t f.id x.aL).2:=⟨_,rfl⟩;obtain⟨ae,aN⟩:∃ae,ae=(gu M.t f.id x.aL).1:=⟨_,rfl⟩;rw[<-aN,<-H9]at Ez z;have i0:(0:Int)<=m:=by omega
  have i1:(m:Int)<8:=by omega
  clear hg E A G Z XE bn bf dV F h1 h2 h3 h4 bq aL t_ aN H9 aD;go_wp2_with fail;refine su ((λ w'=>w'.cell? ⟨p,0,none⟩=some (ptr t)/\w'.cell? ⟨q,1,none⟩=some (.int .i64 f.id)/\w'.cell? ⟨w.heap.size,6,none⟩=some (.int .u64 x.aL))) ?_ λ u=> ?_
  ·exact HC.o _ bD.o HQ.o.2.2 S.o
  refine aM 0 u ?_;refine aM 1 u ?_;refine aM 2 u ?_;refine aM 3 u ?_;refine aM 4 u ?_;refine aM 5 u ?_;refine aM 6 u ?_;refine aM 7 u ?_;refine aM 8 u ?_;refine aM 9 u ?_;refine lJ 10 λ K R=> ?_;go_simp;refine Ez.o.mono ?_;rintro e w4 ⟨rfl,o4,y,sP⟩;have U:¬(λ m=>m=j) 0:=λ e=>n2 e.symm;have F:=(y.block HQ.o.2.1 (by rw[HQ.o.1];exact U)).trans HQ.o.2.2;have AP:=(y.block aH (by rw[N.o.own];exact λ e=>n8 e.symm)).trans S.o;have nG:=(y.block (b:=w.heap.size) bS (by rw[GJ.o];exact U)).trans bD.o;have pF:=bP.tree (M:=M) H.o S.o dI.o dN.o N.o.own aH y sP;have sQ:=TV.o.step U y;have jl:=acp pF;have sW:=acp sQ;have rM:=acp (mQ.o.trans (Step.behind O.o acu.drew (y.mono (J:=λ m=>m=i\/m=j\/m=k\/m=l) λ m A=> .inr (.inl A))));have JK:=acp (HC.o _ nG F AP);have aF:=acp (sQ.step (I:=λ _=>False) (λ e=>e) (Step.grow sQ acu.drew));have oU:=acp ((pF.grow sQ acu.drew).put aF.o H.o m Og (.pointer none) none rfl);obtain⟨t',s',v',k1,k2,k3,k4⟩:=pF.at_;obtain⟨z0,z1,z2,z3,z4⟩:=gV k1;have aB:=z3 m Og;have Y:=z4 (3+m);have dK:w4.cell? ⟨w.heap.size,3,none⟩=some (.int .i64 m):=by rw[<-dG.o];simp[World.cell?,nG,opC]
  clear F AP nG pF sQ y sP k1 k2 k3 k4 z0 z1 z2 z3 z4;go_wp2_with fail;refine kV R (JK.o) λ u=> ?_;clear R K;refine aM 11 u ?_;refine rH ?_;clear u c3;by_cases hz:ae=0
  ·have HZ:=acp hz;have cB:(ae !=0)=false:=by simpa using hz
   clear hz;go_wp2_with fail;refine vJ 6 ((λ w'=>w'.cell? ⟨w.heap.size,3,none⟩=some (.int .i64 m)/\w'.cell? ⟨p,3+m,none⟩=some (v' m)/\w'.frozen? ⟨p,3+m,none⟩=false)) ?_ λ u=> ?_
   ·exact⟨dK,aB,Y⟩
   refine aO 0 u ?_;refine aO 1 u ?_;refine aO 2 u ?_;refine aO 3 u ?_;refine aO 4 u ?_;refine aO 5 u ?_;refine cu 6 λ K R=> ?_;go_simp;refine o_ R ?_;clear u R K;go_wp2_with fail;go_ret;rw[z.o,if_neg (λ h=>h HZ.o)];exact⟨rfl,o4,((rM.o.trans (Step.grow sW.o acu.drew)).trans (oU.o.1.mono λ m A=> .inr (.inr (.inl A)))),oU.o.2⟩
  ·have HZ:=acp hz;have cB:(ae !=0)=true:=by simpa using hz
   clear hz;go_wp2_with fail;go_ret;rw[z.o,if_pos HZ.o];exact⟨rfl,o4,rM.o,jl.o⟩
end
def nI(M:dQ):Int:=match (List.range 8).find? (λ n=>(M.fds n).isNone)with|some n=>n|none=> -1
theorem Rh.eq{M:dQ}{v:Int}(h:Rh M v):v=nI M:=by
 unfold nI;rcases h with⟨rfl,h⟩|⟨n,y,rfl,C,B⟩
 ·have:(List.range 8).find? (λ n=>(M.fds n).isNone)=none:=by
   rw[abo];intro n y;rw[aa9]at y;have:=h n y;cases u:M.fds n with
   |none=>exact absurd u this
   |some f=>simp
  rw[this]
 ·have:(List.range 8).find? (λ n=>(M.fds n).isNone)=some n:=by
   have e:List.range 8=List.range n++n::(List.range (8-(n+1))).map (· +(n+1)):=by
    rcases (show n=0\/n=1\/n=2\/n=3\/n=4\/n=5\/n=6\/n=7 by omega)with rfl|rfl|rfl|rfl|rfl|rfl|rfl|rfl<;>rfl
   rw[e,List.find?_append];have A:(List.range n).find? (λ n=>(M.fds n).isNone)=none:=by
    rw[abo];intro m z;rw[aa9]at z;have:=B m z;cases u:M.fds m with
    |none=>exact absurd u this
    |some f=>simp
   rw[A,List.find?_cons_of_pos (by rw[C];rfl)];rfl
  rw[this]
def jU(M:dQ)(m:List Nm):tZ×dQ:=
 if nI M<0 then(eD 25,M)else
 if (dF M.t m 1).1.2≠0 then(eD (dF M.t m 1).1.2,{M with t:=(dF M.t m 1).2})else
 (⟨0,nI M,[],[],none⟩,dQ.put {M with t:=(dF M.t m 1).2} (nI M).toNat (some ⟨true,(dF M.t m 1).1.1,[]⟩))
section
variable{W w:World}{o:Mark}{i j k l p:Nat}{M:dQ}
theorem L_{S:Nat->Prop}(hS:bP o i j k w p M)(hM:Marks W o w)(hk:Mk i j k l)(aN:fA M.t)(a:Mx)(n c:Nat)(A:List Nm)(aH:aW S w a n (A.map strOf))(d9:n<=c)(uJ:n<=1000000):
  Dy 56 #[ptr p,.slice a n c] w (Iq o i j k l w p (jU M A)):=by
 have aL:=acp hk;have h_:=acp aN;have HM:=acp hM;have HS:=acp hS;have dM:=acp aH;obtain⟨O,H⟩:∃O,O=w.alloc (.cells (eF (eD 0) none none 0 0) 38):=⟨_,rfl⟩;have Y:Below w.heap.size w O:=by rw[H];exact wall w _
 have ak:O.heap[w.heap.size]? =some (.cells (eF (eD 0) none none 0 0) 38 (0,0)):=by rw[H];exact(MapKept.heap_alloc w _).1
 obtain⟨n1,n2,n3,n4,n5,n6,n7,n8,n9,G⟩:=hk.ne;obtain⟨o1,K,aJ,gy⟩:=cK HM.o l (λ b=>b=w.heap.size) (w':=O) (λ b hb=>by subst hb;exact⟨Nat.le_refl _,(qW.1 ak).1⟩) Y;have Q:bP o1 i j k O p M:=HS.o.step (λ e=>n4 e.symm) n7 n9 G K;have bf:Marks W o1 O:=HM.o.step (λ e=>n4 e.symm) K;have xI:acr (Dy 121 #[ptr p] (w.alloc (.cells (eF (eD 0) none none 0 0) 38)) λ e iD=>∃v,e= .returned (.int .i64 v)/\Rh M v/\iD=O):=by rw[<-H];exact acp (LZ Q)
 unfold eF eD at xI;dsimp only[List.length_nil]at xI;have tO:=acp ak;have gM:=acp Y;have mo:=acp Q;have jL:=acp bf;have yO:=acp (aJ _ rfl);have mQ:=acp K;clear hS hM hk aN aH ak Y H Q bf aJ gy K;go_enter Tryz.func56,Tryz.ntmps56;go_wp2_with fail;refine xI.o.mono ?_;rintro e w3 ⟨v,rfl,aA,rfl⟩;have hv:=aA.eq;clear xI;rcases aA with⟨rfl,R⟩|⟨m,Og,rfl,dV,cB⟩
 ·have hr:jU M A=(eD 25,M):=by unfold jU;rw[<-hv,if_pos (by omega)]
  have F:=acp hr;clear hr hv R;go_wp2_with fail;refine(g_ _ _).mono ?_;rintro e E ⟨rfl,av⟩;unfold AU;have dI:=acp av;have z:=acp ((av.block _ (qW.1 tO.o).1).trans tO.o);clear av;go_wp2_with (refine aj (by rfl) 38 _ _ (by rfl) w.heap.size (eF (eD 25) none none 0 0) (by rfl) (by rfl) _ z.o bC rfl (bE _ _ _ _ _) ?_;intro w5 aF;have gL:=acp aF;clear aF);refine bI rfl rfl rfl gL.o.1 ?_;rw[F.o];have sQ:=jL.o.step (I:=λ _=>False) (λ e=>e) (Step.grow jL.o dI.o);have u:=gL.o.step sQ yO.o;exact⟨o1,⟨_,rfl,n_.no_ _ _ _⟩,((mQ.o.trans (Step.grow jL.o dI.o)).trans u).mono λ m B=> .inr (.inr (.inr B)),(mo.o.grow jL.o dI.o).step (λ e=>n4 e.symm) n7 n9 G u⟩
 ·have P:¬((m:Int)<0):=by omega
  have dn:decide ((m:Int)<0)=false:=by simp
  obtain⟨t,s,vv,h1,h2,h3,h4⟩:=mo.o.at_;obtain⟨z0,z1,z2,z3,z4⟩:=gV h1;have bD:=acp (Q6 h3 jL.o n2 h_.o a n c A 1 (dM.o.below gM.o acs) d9 uJ);have hr:jU M A=if (dF M.t A 1).1.2≠0 then(eD (dF M.t A 1).1.2,{M with t:=(dF M.t A 1).2})else(⟨0,m,[],[],none⟩,dQ.put {M with t:=(dF M.t A 1).2} m (some ⟨true,(dF M.t A 1).1.1,[]⟩)):=by
   unfold jU;rw[<-hv,if_neg P];rfl
  have F:=acp hr;obtain⟨T2,H9⟩:∃T2,T2=(dF M.t A 1).2:=⟨_,rfl⟩;obtain⟨ae,bn⟩:∃ae,ae=(dF M.t A 1).1.2:=⟨_,rfl⟩;obtain⟨ai,aB⟩:∃ai,ai=(dF M.t A 1).1.1:=⟨_,rfl⟩;rw[<-bn,<-H9,<-aB]at bD F;have bS:=acp h1;have ig:=acp h2;have iE:=acp h4;have fK:=mo.o.low;have dG:=(qW.1 tO.o).1;have aD:=acp dG;clear hr hv dV cB H9 bn aB h1 h2 h3 h4 z1 z2 z3 z4;go_wp2_with fail;refine bD.o.mono ?_;rintro e E ⟨rfl,o4,y,sP⟩;have bT:¬(λ m=>m=j) 0:=λ e=>n2 e.symm;have V:=(y.block (b:=w.heap.size) aD.o (by rw[yO.o];exact λ e=>n9 e.symm)).trans tO.o;have pF:=bP.tree (M:=M) aL.o bS.o ig.o iE.o mo.o.own fK y sP;have sQ:=jL.o.step bT y;have jl:=acp pF;have N:=acp sQ;have Z:=acp ((y.old _ aD.o).trans yO.o);have z:=acp V;have rM:=acp ((mQ.o.mono (J:=λ m=>m=i\/m=j\/m=k\/m=l) λ m B=> .inr (.inr (.inr B))).trans (y.mono λ m B=> .inr (.inl B)));by_cases hz:ae=0
  ·have HZ:=acp hz;have dN:(ae !=0)=false:=by simpa using hz
   clear hz V sQ y sP z0 P dn;obtain⟨t',s',v',k1,k2,k3,k4⟩:=pF.at_;have U:Below E.heap.size E (E.alloc (.cells #[.bool true,.int .i64 ai,.slice none 0 0] 205)):=wall E _;have CQ:=acp (N.o.step (I:=λ _=>False) (λ e=>e) (Step.grow N.o U));have bq:=jl.o.grow N.o U;have D:o4 E.heap.size=0:=Wy λ h9=>by have:=(N.o.new _ h9).2;omega
   have oU:=acp (bq.put CQ.o aL.o m Og (ptr E.heap.size) (some ⟨true,ai,[]⟩) ⟨E.heap.size,none,0,rfl,D,by simp,(MapKept.heap_alloc E _).1,Nat.le_refl _,ah.nil _ _ _⟩);have aC:=(U.block p jl.o.low).trans k1;obtain⟨y0,y1,y2,y3,y4⟩:=gV aC;have iN:=y3 m Og;have iM:=y4 (3+m);have oD:acr (((E.alloc (.cells #[.bool true,.int .i64 ai,.slice none 0 0] 205)).setCell ⟨p,3+m,none⟩ (ptr E.heap.size)).heap[w.heap.size]? =some (.cells (eF (eD 0) none none 0 0) 38 (0,0))):=acp ((oU.o.1.block (b:=w.heap.size) (Pd (qW.1 z.o).1 U.size) (by rw[Z.o];exact λ e=>G e.symm)).trans ((U.block _ (qW.1 z.o).1).trans z.o));have i0:(0:Int)<=m:=by omega
   have i1:(m:Int)<8:=by omega
   have fT:=acp U;clear k1 k2 k3 k4 bq D aC y0 y1 y2 y3 y4 pF U;go_wp2_with (refine aj (by rfl) 38 _ _ (by rfl) w.heap.size (eF ⟨0,m,[],[],none⟩ none none 0 0) (by rfl) (by rfl) _ oD.o bC rfl (bE _ _ _ _ _) ?_;intro w6 C;have kW:=acp C;clear C);refine bI rfl rfl rfl kW.o.1 ?_;rw[F.o,if_neg (λ h=>h HZ.o)];have Kt:=CQ.o.step (I:=λ m=>m=k) (λ e=>n3 e.symm) oU.o.1;have u:=kW.o.step Kt Z.o;refine⟨o4,⟨_,rfl,none,none,0,0,rfl,Nat.le_refl _,Nat.le_refl _,ah.nil _ _ _,jT _ _⟩,((rM.o.trans (Step.grow N.o fT.o)).trans (oU.o.1.mono λ m B=> .inr (.inr (.inl B)))).trans (u.mono λ m B=> .inr (.inr (.inr B))),oU.o.2.step (λ e=>n4 e.symm) n7 n9 G u⟩
  ·have HZ:=acp hz;have dN:(ae !=0)=true:=by simpa using hz
   clear hz V sQ y sP z0 pF;go_wp2_with fail;refine(g_ _ _).mono ?_;rintro e w5 ⟨rfl,X⟩;unfold AU;have dK:=acp X;have oD:=acp ((X.block _ (qW.1 z.o).1).trans z.o);clear X;go_wp2_with (refine aj (by rfl) 38 _ _ (by rfl) w.heap.size (eF (eD ae) none none 0 0) (by rfl) (by rfl) _ oD.o bC rfl (bE _ _ _ _ _) ?_;intro w6 C;have kW:=acp C;clear C);refine bI rfl rfl rfl kW.o.1 ?_;rw[F.o,if_pos HZ.o];have Kn:=N.o.step (I:=λ _=>False) (λ e=>e) (Step.grow N.o dK.o);have u:=kW.o.step Kn Z.o;exact⟨o4,⟨_,rfl,n_.no_ _ _ _⟩,(rM.o.trans (Step.grow N.o dK.o)).trans (u.mono λ m B=> .inr (.inr (.inr B))),(jl.o.grow N.o dK.o).step (λ e=>n4 e.symm) n7 n9 G u⟩
end
def lq(M:dQ)(id:Int):Option aS:=if id=0 then some M.t else(Ip M.s id).map (·.t)
def AtRet(o:Mark)(j:Nat)(w:World)(M:dQ)(id:Int)(e:Ending)(w':World):Prop:=
 Below w.heap.size w w'/\((lq M id=none/\e= .returned (.tuple #[.pointer none,.int .i64 29]))\/∃T q,lq M id=some T/\e= .returned (.tuple #[ptr q,.int .i64 0])/\(∃m,dW o m w' q T)/\fA T)
section
variable{W w:World}{o:Mark}{i j k l p:Nat}{M:dQ}
theorem XF(D:bP o i j k w p M)(F:Marks W o w)(u:fA M.t)(E:M.s.l.length<=1000)(id:Int):Dy 125 #[ptr p,.int .i64 id] w (AtRet o j w M id):=by
 obtain⟨t,s,v,I,G,K,P⟩:=D.at_;obtain⟨z0,V,O,z3,z4⟩:=gV I;by_cases C:id=0
 ·subst C;have J:=acp K;have H:=acp u;clear D F u E I G K P V O z3 z4;go_enter Tryz.func125,Tryz.ntmps125;go_wp2_with fail
  go_ret2
  exact⟨Below.refl _ _,.inr ⟨M.t,t,if_pos rfl,rfl,⟨j,J.o⟩,H.o⟩⟩
 ·have X:(id==0)=false:=by simpa using C
  have S:=acp (get_any G F E id);have Q:=acp C;clear D F u E I G K P z0 O z3 z4 C;go_enter Tryz.func125,Tryz.ntmps125;go_wp2_with fail;refine S.o.mono ?_;rintro e Y ⟨A,U⟩;have B:=acp A;clear A;rcases U with⟨y,rfl⟩|⟨x,q,y,rfl,R,N⟩
  ·have z:lq M id=none:=by unfold lq;rw[if_neg Q.o,y];rfl
   have m:=acp z;clear y z;go_wp2_with fail
   go_ret2
   exact⟨B.o,.inl ⟨m.o,rfl⟩⟩
  ·have z:lq M id=some x.t:=by unfold lq;rw[if_neg Q.o,y];rfl
   have m:=acp z;have J:=acp R;have H:=acp N;clear y z R N;go_wp2_with fail
   go_ret2
   exact⟨B.o,.inr ⟨x.t,q,m.o,rfl,⟨0,J.o⟩,H.o⟩⟩
end
def yP(k:Int)(x:fI):Array Value:= #[.int .i64 k,.int .i64 x.kind,.int .i64 x.links,.int .i64 x.b.length,.int .u64 x.aL,.bool x.closed]
def xJ(T:aS)(m:List Nm):Array Value×Int:=if (bG T m).2≠0 then(m_,(bG T m).2)else match au (bG T m).1 T with|some x=>(yP (bG T m).1 x,0)|none=>(m_,0)
section
variable{W w:World}{o:Mark}{i j k l p:Nat}{M:dQ}
theorem Ir{S:Nat->Prop}(hS:bP o i j k w p M)(hM:Marks W o w)(V:fA M.t)(a:Mx)(n c:Nat)(u:List Nm)(ak:aW S w a n (u.map strOf))(av:(Lit.int .i64 (bG M.t u).1).wf=true):
  Dy 133 #[ptr p,.slice a n c] w λ e w'=>e= .returned (.tuple #[.agg (xJ M.t u).1,.int .i64 (xJ M.t u).2])/\Below w.heap.size w w':=by
 obtain⟨t,s,v,h1,h2,h3,h4⟩:=hS.at_;obtain⟨z0,z1,z2,z3,z4⟩:=gV h1;have Z:=hS.low;obtain⟨G,J⟩:∃G,G=w.alloc (.cells m_ 36):=⟨_,rfl⟩;have y:Below w.heap.size w G:=by rw[J];exact wall w _
 have O:G.heap[w.heap.size]? =some (.cells m_ 36 (0,0)):=by rw[J];exact(MapKept.heap_alloc w _).1
 obtain⟨g,D,mb,ib,nb,hA,hg,hD⟩:=h3.grow y;have oP:acr (Dy 126 #[ptr t,.slice a n c] (w.alloc (.cells m_ 36)) λ e w'=>e= .returned (.tuple #[.int .i64 (bG M.t u).1,.int .i64 (bG M.t u).2])/\Below G.heap.size G w'):=by
  rw[<-J];exact acp (Jq a n c u G hA V (ak.below y acs))
 unfold m_ at oP;have ZJ:acr (∀w',Below G.heap.size G w'->Dy 127 #[ptr t,.int .i64 (bG M.t u).1] w' λ e aA=>e= .returned (.tuple #[lS M.t (bG M.t u).1,.bool (au (bG M.t u).1 M.t).isSome])/\Below w'.heap.size w' aA):=λ w' hb=>zO _ w' (hA.below hb acs) av;have HP:acr (∀w',Below G.heap.size G w'->w'.cell? ⟨p,0,none⟩=some (ptr t)):=λ w' hb=>((y.trans (hb.mono y.size)).cell (p:=⟨p,0,none⟩) Z).trans z0;have tO:=acp O;have A:=acp y;have aB:=(qW.1 O).1;clear hS hM V ak av h1 h2 h3 h4 z1 z2 z3 z4 J y O hA hg hD;obtain⟨C,I⟩:∃C,C=(bG M.t u).1:=⟨_,rfl⟩;obtain⟨K,N⟩:∃K,K=(bG M.t u).2:=⟨_,rfl⟩;rw[<-I,<-N]at oP;rw[<-I]at ZJ;have HR:acr (xJ M.t u=if K≠0 then(m_,K)else match au C M.t with|some x=>(yP C x,0)|none=>(m_,0)):=by
  unfold xJ;rw[<-I,<-N];exact acp rfl
 clear I N;go_enter Tryz.func133,Tryz.ntmps133;go_wp2_with fail;refine oP.o.mono ?_;rintro e w3 ⟨rfl,z⟩;have B:=acp z;have F:=acp ((z.block _ aB).trans tO.o);have q0:=HP.o _ z;by_cases P:K=0
 ·have HZ:=acp P;have aC:(K !=0)=false:=by simpa using P
  have HN:=acp (ZJ.o _ z);clear P z;cases Q:au C M.t with
  |none=>
   have H:lS M.t C= .agg #[.int .i64 0,.int .i64 0,.int .i64 0,.int .i64 0,.int .u64 0,.bool false]:=by unfold lS;rw[Q]
   rw[H]at HN;have HA:=acp Q;clear Q H;go_wp2_with fail;refine HN.o.mono ?_;rintro e X ⟨rfl,m⟩;have dI:=acp m;have U:acr (Below w3.heap.size w3 (X.alloc (.cells (m_) 36))):=acp (m.trans ((wall _ _).mono m.size));have oD:acr ((X.alloc (.cells (m_) 36)).heap[w.heap.size]? =some (.cells m_ 36 (0,0))):=acp ((U.o.block _ (qW.1 F.o).1).trans F.o);clear m;go_wp2_with (refine aj (by rfl) 36 _ _ (by rfl) w.heap.size (m_) (by rfl) (by rfl) _ oD.o wz rfl (by simp[m_,yP,Value.oneCell']) ?_;intro w6 E;have R:=acp E;clear E);refine Aa rfl rfl rfl rfl R.o.1 rfl ?_;rw[HR.o,if_neg (λ h=>h HZ.o),HA.o];exact⟨rfl,R.o.below (A.o.trans ((B.o.trans (U.o.mono B.o.size)).mono A.o.size)) acs⟩
  |some x=>
   have H:lS M.t C= .agg #[.int .i64 C,.int .i64 x.kind,.int .i64 x.links,.int .i64 x.b.length,.int .u64 x.aL,.bool x.closed]:=by unfold lS;rw[Q];rfl
   rw[H]at HN;have HA:=acp Q;clear Q H;go_wp2_with fail;refine HN.o.mono ?_;rintro e X ⟨rfl,m⟩;have dI:=acp m;have U:acr (Below w3.heap.size w3 (X.alloc (.cells (yP C x) 36))):=acp (m.trans ((wall _ _).mono m.size));have oD:acr ((X.alloc (.cells (yP C x) 36)).heap[w.heap.size]? =some (.cells m_ 36 (0,0))):=acp ((U.o.block _ (qW.1 F.o).1).trans F.o);clear m;go_wp2_with (refine aj (by rfl) 36 _ _ (by rfl) w.heap.size (yP C x) (by rfl) (by rfl) _ oD.o wz rfl (by simp[m_,yP,Value.oneCell']) ?_;intro w6 E;have R:=acp E;clear E);refine Aa rfl rfl rfl rfl R.o.1 rfl ?_;rw[HR.o,if_neg (λ h=>h HZ.o),HA.o];exact⟨rfl,R.o.below (A.o.trans ((B.o.trans (U.o.mono B.o.size)).mono A.o.size)) acs⟩
 ·have HZ:=acp P;have aC:(K !=0)=true:=by simpa using P
  clear P z;go_wp2_with (refine aj (by rfl) 36 _ _ (by rfl) w.heap.size m_ (by rfl) (by rfl) _ F.o wz rfl (by simp[m_,Value.oneCell']) ?_;intro w5 Y;have gL:=acp Y;clear Y);refine Aa rfl rfl rfl rfl gL.o.1 rfl ?_;rw[HR.o,if_pos HZ.o];exact⟨rfl,gL.o.below (A.o.trans (B.o.mono A.o.size)) acs⟩
end
def XH(T:aS)(kind:Int)(m:List Nm):tZ:=
 if (bG T m).2≠0 then eD (bG T m).2 else
 if kind=12 then⟨0,0,[],[],(au (bG T m).1 T).map λ x=>((bG T m).1,x)⟩else⟨(uN T (bG T m).1).2,(uN T (bG T m).1).1.length,[],(uN T (bG T m).1).1,none⟩
def rO(M:dQ)(x:iI)(m:List Nm):tZ:=match lq M x.snap with
 |none=>eD 29
 |some T=>XH T x.kind m
section
variable{W w:World}{o:Mark}{i j k l p:Nat}{M:dQ}
theorem Iu{S:Nat->Prop}(hS:bP o i j k w p M)(hM:Marks W o w)(aC:fA M.t)(Bv:M.s.l.length<=1000)(x:iI)(da:Mx)(dc:Nat)(a:Mx)(n c:Nat)(F:List Nm)(aL:aW S w a n (F.map strOf))(H:∀T,lq M x.snap=some T->(Lit.int .i64 (bG T F).1).wf=true):
  Dy 66 #[ptr p,.agg (opC x da dc),.slice a n c] w λ e w'=>BJ o (rO M x F) e w'/\Below w.heap.size w w':=by
 obtain⟨w2,Q⟩:∃w2,w2=(w.alloc (.cells (opC x da dc) 32)).alloc (.cells (eF (eD 0) none none 0 0) 38):=⟨_,rfl⟩;have N:Below w.heap.size w w2:=by rw[Q];exact(wall w _).trans ((wall _ _).mono (by simp))
 have Y:w2.heap[w.heap.size]? =some (.cells (opC x da dc) 32 (0,0)):=by
  rw[Q];exact((wall _ _).block _ (by simp)).trans (MapKept.heap_alloc w _).1
 have bn:w2.heap[w.heap.size+1]? =some (.cells (eF (eD 0) none none 0 0) 38 (0,0)):=by
  rw[Q];have:=(MapKept.heap_alloc (w.alloc (.cells (opC x da dc) 32)) (.cells (eF (eD 0) none none 0 0) 38)).1;rw[Pe]at this;exact this
 have ak:=hM.step (I:=λ _=>False) (λ e=>e) (Step.grow hM N);have av:acr (Dy 125 #[ptr p,.int .i64 x.snap] ((w.alloc (.cells (opC x da dc) 32)).alloc (.cells (eF (eD 0) none none 0 0) 38)) (AtRet o j w2 M x.snap)):=by
  rw[<-Q];exact acp (XF (hS.grow hM N) ak aC Bv x.snap)
 unfold opC eF eD at av;dsimp only[List.length_nil]at av;have bS:=acp (aL.below N acs);have BK:=acp Y;have tO:=acp bn;have P:=acp N;have EM:=acp H;have tF:=acp ak;have aD:acr (∀w',Below w2.heap.size w2 w'->w'.cell? ⟨w.heap.size,0,none⟩=some (.int .i64 x.kind)):=λ w' hb=>by
  have:=(hb.block _ (qW.1 Y).1).trans Y;simp[World.cell?,this,opC]
 clear hS hM aC Bv aL H Q N Y bn ak;unfold opC;go_enter Tryz.func66,Tryz.ntmps66;go_wp2_with fail;refine av.o.mono ?_;rintro e w3 ⟨G,dn⟩;have X:=acp G;have Z:=acp ((G.block _ (qW.1 tO.o).1).trans tO.o);rcases dn with⟨hT,rfl⟩|⟨T,q,hT,rfl,⟨m,dG⟩,XG⟩
 ·have hr:rO M x F=eD 29:=by unfold rO;rw[hT]
  have C:=acp hr;clear hr hT G;go_wp2_with fail;refine(g_ _ _).mono ?_;rintro e w4 ⟨rfl,B⟩;unfold AU;have V:=acp (P.o.trans ((X.o.trans (B.mono X.o.size)).mono P.o.size));have z:=acp ((B.block _ (qW.1 Z.o).1).trans Z.o);clear B;go_wp2_with (refine aj (by rfl) 38 _ _ (by rfl) (w.heap.size+1) (eF (eD 29) none none 0 0) (by rfl) (by rfl) _ z.o bC rfl (bE _ _ _ _ _) ?_;intro K aH;have gL:=acp aH;clear aH);refine bI rfl rfl rfl gL.o.1 ⟨⟨_,rfl,?_⟩,gL.o.below V.o (by omega)⟩;rw[C.o];exact n_.no_ _ _ _
 ·obtain⟨g,D,mb,ib,nb,hA,-,-⟩:=dG;have H:=EM.o T hT;have oP:=acp (Jq a n c F w3 hA XG (bS.o.below G acs));have ZJ:acr (∀w',Below w3.heap.size w3 w'->Dy 127 #[ptr q,.int .i64 (bG T F).1] w' λ e bT=>e= .returned (.tuple #[lS T (bG T F).1,.bool (au (bG T F).1 T).isSome])/\Below w'.heap.size w' bT):=λ w' hb=>zO _ w' (hA.below hb acs) H;have aJ:acr (∀w',Below w3.heap.size w3 w'->Dy 138 #[ptr q,.int .i64 (bG T F).1] w' (QT w' (uN T (bG T F).1))):=λ w' hb=>list_at _ w' (hA.below hb acs) XG H;have hr:rO M x F=XH T x.kind F:=by unfold rO;rw[hT]
  unfold XH at hr;have C:=acp hr;have O:=acp G;clear hr hT hA XG H G;obtain⟨J,aA⟩:∃J,J=(bG T F).1:=⟨_,rfl⟩;obtain⟨ke,aN⟩:∃ke,ke=(bG T F).2:=⟨_,rfl⟩;rw[<-aA,<-aN]at oP C;rw[<-aA]at ZJ aJ;clear aA aN;go_wp2_with fail;refine oP.o.mono ?_;rintro e w4 ⟨rfl,B⟩;have R:=acp B;have V:=acp (P.o.trans ((X.o.trans (B.mono X.o.size)).mono P.o.size));have z:=acp ((B.block _ (qW.1 Z.o).1).trans Z.o);have c0:=aD.o _ (O.o.trans (B.mono O.o.size));clear B;by_cases hz:ke=0
  ·have HZ:=acp hz;have dM:(ke !=0)=false:=by simpa using hz
   clear hz;by_cases hk:x.kind=12
   ·have HK:=acp hk;have bD:(x.kind==12)=true:=by simpa using hk
    clear hk;have HN:=acp (ZJ.o _ R.o);cases ha:au J T with
    |none=>
     have U:lS T J= .agg #[.int .i64 0,.int .i64 0,.int .i64 0,.int .i64 0,.int .u64 0,.bool false]:=by unfold lS;rw[ha]
     rw[U]at HN;have HA:=acp ha;clear ha U;go_wp2_with fail;refine HN.o.mono ?_;rintro e K ⟨rfl,u⟩;have dK:acr (Below w.heap.size w (K.alloc (.cells #[.int .i64 0,.int .i64 0,.int .i64 0,.int .i64 0,.int .u64 0,.bool false] 36))):=acp (V.o.trans ((u.trans ((wall K (.cells #[.int .i64 0,.int .i64 0,.int .i64 0,.int .i64 0,.int .u64 0,.bool false] 36)).mono u.size)).mono V.o.size));have oD:acr ((K.alloc (.cells #[.int .i64 0,.int .i64 0,.int .i64 0,.int .i64 0,.int .u64 0,.bool false] 36)).heap[w.heap.size+1]? =some (.cells (eF (eD 0) none none 0 0) 38 (0,0))):=acp (((u.trans ((wall K (.cells #[.int .i64 0,.int .i64 0,.int .i64 0,.int .i64 0,.int .u64 0,.bool false] 36)).mono u.size)).block _ (qW.1 z.o).1).trans z.o);clear u;go_wp2_with (refine aj (by rfl) 38 _ _ (by rfl) (w.heap.size+1) (eF ⟨0,0,[],[],none⟩ none none 0 0) (by rfl) (by rfl) _ oD.o bC rfl (bE _ _ _ _ _) ?_;intro w6 A;have E:=acp A;clear A);refine bI rfl rfl rfl E.o.1 ⟨⟨_,rfl,?_⟩,E.o.below dK.o (by omega)⟩;rw[C.o,if_neg (λ h=>h HZ.o),if_pos HK.o,HA.o];exact⟨none,none,0,0,rfl,Nat.le_refl _,Nat.le_refl _,ah.nil _ _ _,jT _ _⟩
    |some y=>
     have U:lS T J= .agg #[.int .i64 J,.int .i64 y.kind,.int .i64 y.links,.int .i64 y.b.length,.int .u64 y.aL,.bool y.closed]:=by unfold lS;rw[ha];rfl
     rw[U]at HN;have HA:=acp ha;clear ha U;go_wp2_with fail;refine HN.o.mono ?_;rintro e K ⟨rfl,u⟩;have dK:acr (Below w.heap.size w (K.alloc (.cells #[.int .i64 J,.int .i64 y.kind,.int .i64 y.links,.int .i64 y.b.length,.int .u64 y.aL,.bool y.closed] 36))):=acp (V.o.trans ((u.trans ((wall K (.cells #[.int .i64 J,.int .i64 y.kind,.int .i64 y.links,.int .i64 y.b.length,.int .u64 y.aL,.bool y.closed] 36)).mono u.size)).mono V.o.size));have oD:acr ((K.alloc (.cells #[.int .i64 J,.int .i64 y.kind,.int .i64 y.links,.int .i64 y.b.length,.int .u64 y.aL,.bool y.closed] 36)).heap[w.heap.size+1]? =some (.cells (eF (eD 0) none none 0 0) 38 (0,0))):=acp (((u.trans ((wall K (.cells #[.int .i64 J,.int .i64 y.kind,.int .i64 y.links,.int .i64 y.b.length,.int .u64 y.aL,.bool y.closed] 36)).mono u.size)).block _ (qW.1 z.o).1).trans z.o);clear u;go_wp2_with (refine aj (by rfl) 38 _ _ (by rfl) (w.heap.size+1) (eF ⟨0,0,[],[],some (J,y)⟩ none none 0 0) (by rfl) (by rfl) _ oD.o bC rfl (bE _ _ _ _ _) ?_;intro w6 A;have E:=acp A;clear A);refine bI rfl rfl rfl E.o.1 ⟨⟨_,rfl,?_⟩,E.o.below dK.o (by omega)⟩;rw[C.o,if_neg (λ h=>h HZ.o),if_pos HK.o,HA.o];exact⟨none,none,0,0,rfl,Nat.le_refl _,Nat.le_refl _,ah.nil _ _ _,jT _ _⟩
   ·have HK:=acp hk;have bD:(x.kind==12)=false:=by simpa using hk
    clear hk;have HL:=acp (aJ.o _ R.o);obtain⟨lm,aB⟩:∃lm,lm=uN T J:=⟨_,rfl⟩;rw[<-aB]at HL C;clear aB;obtain⟨ln,le⟩:=lm;go_wp2_with fail;refine HL.o.mono ?_;rintro e K ⟨la,lc,rfl,bf,aF,u⟩;have dK:=acp (V.o.trans (u.mono V.o.size));have oD:=acp ((u.block _ (qW.1 z.o).1).trans z.o);have GA:=acp u;have Xy:=acp bf;have bq:=acp aF;clear u bf aF;dsimp only;go_wp2_with (refine aj (by rfl) 38 _ _ (by rfl) (w.heap.size+1) (eF ⟨le,ln.length,[],ln,none⟩ none la 0 lc) (by rfl) (by rfl) _ oD.o bC rfl (bE _ _ _ _ _) ?_;intro w6 A;have E:=acp A;clear A);refine bI rfl rfl rfl E.o.1 ⟨⟨_,rfl,?_⟩,E.o.below dK.o (by omega)⟩;rw[C.o,if_neg (λ h=>h HZ.o),if_neg HK.o];refine⟨none,la,0,lc,rfl,Nat.le_refl _,Xy.o,ah.nil _ _ _,?_⟩;have h2:=P.o.size;have h3:=O.o.size;have dN:=R.o.size;have dV:=(qW.1 z.o).1;refine⟨bq.o.row.move (by rw[E.o.2.2];exact Nat.le_refl _) λ b hb cB=>⟨⟨Wy λ h0=> ?_,by rw[E.o.2.2];exact hb.2⟩,E.o.2.1.block b cB (λ e:b=w.heap.size+1=> ?_)⟩,bq.o.short⟩
    ·have:=(tF.o.new b h0).2;have:=hb.1;omega
    ·have:=hb.1;omega
  ·have HZ:=acp hz;have dM:(ke !=0)=true:=by simpa using hz
   clear hz;go_wp2_with fail;refine(g_ _ _).mono ?_;rintro e K ⟨rfl,u⟩;unfold AU;have dK:=acp (V.o.trans (u.mono V.o.size));have oD:=acp ((u.block _ (qW.1 z.o).1).trans z.o);clear u;go_wp2_with (refine aj (by rfl) 38 _ _ (by rfl) (w.heap.size+1) (eF (eD ke) none none 0 0) (by rfl) (by rfl) _ oD.o bC rfl (bE _ _ _ _ _) ?_;intro w6 A;have E:=acp A;clear A);refine bI rfl rfl rfl E.o.1 ⟨⟨_,rfl,?_⟩,E.o.below dK.o (by omega)⟩;rw[C.o,if_pos HZ.o];exact n_.no_ _ _ _
end
def Mc(M:dQ)(T:aS)(m:List Nm):tZ×dQ:=
 if (bG T m).2≠0 then(eD (bG T m).2,M)else
 match au (bG T m).1 T with
 |none=>(eD 25,M)
 |some y=>if y.kind=2 then(eD 22,M)else if y.closed=false then(eD 25,M)else
  (⟨0,nI M,[],[],none⟩,M.put (nI M).toNat (some ⟨false,0,qV T (bG T m).1 0 y.b.length⟩))
def jE(M:dQ)(m:List Nm)(id:Int):tZ×dQ:=match lq M id with
 |none=>(eD 29,M)
 |some T=>if nI M<0 then(eD 25,M)else Mc M T m
section
variable{W w:World}{o:Mark}{i j k l p:Nat}{M:dQ}
theorem TW{S:Nat->Prop}(hS:bP o i j k w p M)(hM:Marks W o w)(F:Mk i j k l)(gM:fA M.t)(Bv:M.s.l.length<=1000)(a:Mx)(n c:Nat)(A:List Nm)(gy:aW S w a n (A.map strOf))(id:Int)(V:∀T,lq M id=some T->(Lit.int .i64 (bG T A).1).wf=true):
  Dy 58 #[ptr p,.slice a n c,.int .i64 id] w (Iq o i j k l w p (jE M A id)):=by
 have jm:=acp F;have HM:=acp hM;have HS:=acp hS;obtain⟨w2,aD⟩:∃w2,w2=w.alloc (.cells (eF (eD 0) none none 0 0) 38):=⟨_,rfl⟩;have aJ:Below w.heap.size w w2:=by rw[aD];exact wall w _
 have dV:w2.heap[w.heap.size]? =some (.cells (eF (eD 0) none none 0 0) 38 (0,0)):=by rw[aD];exact(MapKept.heap_alloc w _).1
 obtain⟨n1,n2,n3,n4,n5,n6,n7,n8,n9,aN⟩:=F.ne;obtain⟨o1,aL,gL,jo⟩:=cK HM.o l (λ b=>b=w.heap.size) (w':=w2) (λ b Q=>by subst Q;exact⟨Nat.le_refl _,(qW.1 dV).1⟩) aJ;have bq:bP o1 i j k w2 p M:=HS.o.step (λ e=>n4 e.symm) n7 n9 aN aL;have dM:Marks W o1 w2:=HM.o.step (λ e=>n4 e.symm) aL;have bD:acr (Dy 125 #[ptr p,.int .i64 id] (w.alloc (.cells (eF (eD 0) none none 0 0) 38)) (AtRet o1 j w2 M id)):=by rw[<-aD];exact acp (XF bq dM gM Bv id)
 unfold eF eD at bD;dsimp only[List.length_nil]at bD;have iO:=acp (gy.below aJ acs);have tO:=acp dV;have lC:=acp aJ;have mo:=acp bq;have jL:=acp dM;have yO:=acp (gL _ rfl);have mQ:=acp aL;have EM:=acp V;have uV:acr (∀(z:tZ) (w4 w5:World),Below w2.heap.size w2 w4->jK w4 w.heap.size (eF z none none 0 0) 38 w5->z.data=[]->z.names=[]->Iq o i j k l w p (z,M) (.returned (.agg (eF z none none 0 0))) w5):=λ z w4 w5 Q hs iE aF=>by
  have sQ:=jL.o.step (I:=λ _=>False) (λ e=>e) (Step.grow jL.o Q);have aB:=hs.step sQ yO.o;have pF:=(mo.o.grow jL.o Q).step (λ e=>n4 e.symm) n7 n9 aN aB;refine⟨o1,⟨_,rfl,none,none,0,0,rfl,by rw[iE];exact Nat.le_refl _,by rw[aF];exact Nat.le_refl _,by rw[iE];exact ah.nil _ _ _,by rw[aF];exact jT _ _⟩,((mQ.o.trans (Step.grow jL.o Q)).trans aB).mono λ m hm=> .inr (.inr (.inr hm)),pF⟩
 clear hS hM F gM Bv gy V dV aJ aD bq dM gL jo aL;go_enter Tryz.func58,Tryz.ntmps58;go_wp2_with fail;refine bD.o.mono ?_;rintro e w3 ⟨J,jG⟩;have X:=acp J;have Z:=acp ((J.block _ (qW.1 tO.o).1).trans tO.o);rcases jG with⟨hT,rfl⟩|⟨T,q,hT,rfl,⟨m,iN⟩,XG⟩
 ·have HT:=acp hT;clear hT J;go_wp2_with fail;refine(g_ _ _).mono ?_;rintro e w9 ⟨rfl,u⟩;unfold AU;have K:=acp (X.o.trans (u.mono X.o.size));have O:=acp ((u.block _ (qW.1 Z.o).1).trans Z.o);clear u;go_wp2_with (refine aj (by rfl) 38 _ _ (by rfl) w.heap.size (eF (eD 29) none none 0 0) (by rfl) (by rfl) _ O.o bC rfl (bE _ _ _ _ _) ?_;intro AO C;have B:=acp C;clear C);refine bI rfl rfl rfl B.o.1 ?_;have P:jE M A id=(eD 29,M):=by unfold jE;rw[HT.o]
  rw[P];exact uV.o _ _ _ K.o B.o rfl rfl
 ·have jv:=acp (LZ (mo.o.grow jL.o J));obtain⟨g,D,mb,ib,nb,hA,-,-⟩:=iN;have V:=EM.o T hT;have oP:acr (∀w',Below w3.heap.size w3 w'->Dy 126 #[ptr q,.slice a n c] w' λ e dN=>e= .returned (.tuple #[.int .i64 (bG T A).1,.int .i64 (bG T A).2])/\Below w'.heap.size w' dN):=λ w' Q=>Jq a n c A w' (hA.below Q acs) XG ((iO.o.below J acs).below Q acs);have ZJ:acr (∀w',Below w3.heap.size w3 w'->Dy 127 #[ptr q,.int .i64 (bG T A).1] w' λ e dN=>e= .returned (.tuple #[lS T (bG T A).1,.bool (au (bG T A).1 T).isSome])/\Below w'.heap.size w' dN):=λ w' Q=>zO _ w' (hA.below Q acs) V;have GK:acr (∀w' (N:Int),(Lit.int .i64 N).wf=true->Below w3.heap.size w3 w'->Dy 128 #[ptr q,.int .i64 (bG T A).1,.int .i64 0,.int .i64 N] w' (tC w' (qV T (bG T A).1 0 N) (G_ T (bG T A).1 0 N))):=λ w' N hN Q=>Wj _ 0 N w' (hA.below Q acs) (λ x hx=>(XG.each _ x hx).size) V (by decide) hN;have dn:acr (∀y,au (bG T A).1 T=some y->y.b.length<=4096):=λ y hy=>(XG.each _ y hy).size;have HT:=acp hT;have kg:=acp J;clear hT hA XG V J;go_wp2_with fail;refine jv.o.mono ?_;rintro e w4 ⟨v,rfl,fK,rfl⟩;have hv:=fK.eq;rcases fK with⟨rfl,bS⟩|⟨fm,Og,rfl,iT,iM⟩
  ·have HV:=acp hv;clear hv bS;go_wp2_with fail;refine(g_ _ _).mono ?_;rintro e w9 ⟨rfl,u⟩;unfold AU;have K:=acp (X.o.trans (u.mono X.o.size));have O:=acp ((u.block _ (qW.1 Z.o).1).trans Z.o);clear u;go_wp2_with (refine aj (by rfl) 38 _ _ (by rfl) w.heap.size (eF (eD 25) none none 0 0) (by rfl) (by rfl) _ O.o bC rfl (bE _ _ _ _ _) ?_;intro AO C;have B:=acp C;clear C);refine bI rfl rfl rfl B.o.1 ?_;have P:jE M A id=(eD 25,M):=by unfold jE;rw[HT.o];exact if_pos (by rw[<-HV.o];omega)
   rw[P];exact uV.o _ _ _ K.o B.o rfl rfl
  ·have HV:=acp hv;have kN:decide ((fm:Int)<0)=false:=by simp
   have ko:¬((fm:Int)<0):=by omega
   have XI:acr (jE M A id=Mc M T A):=by unfold jE;rw[HT.o];exact acp (if_neg (by rw[<-HV.o];omega))
   have bf:=acp (oP.o w4 acu);clear hv iT iM;unfold Mc at XI;obtain⟨H,bT⟩:∃H,H=(bG T A).1:=⟨_,rfl⟩;obtain⟨ke,iD⟩:∃ke,ke=(bG T A).2:=⟨_,rfl⟩;rw[<-bT,<-iD]at bf XI;rw[<-bT]at ZJ GK dn;clear bT iD;go_wp2_with fail;refine bf.o.mono ?_;rintro e w5 ⟨rfl,aH⟩;have Pj:=acp aH;have dK:=acp (X.o.trans (aH.mono X.o.size));have oD:=acp ((aH.block _ (qW.1 Z.o).1).trans Z.o);clear aH;by_cases hz:ke=0
   ·have HZ:=acp hz;have aF:(ke !=0)=false:=by simpa using hz
    clear hz;have HN:=acp (ZJ.o _ Pj.o);cases ha:au H T with
    |none=>
     have G:lS T H= .agg #[.int .i64 0,.int .i64 0,.int .i64 0,.int .i64 0,.int .u64 0,.bool false]:=by unfold lS;rw[ha]
     rw[G]at HN;have HA:=acp ha;clear ha G;go_wp2_with fail;refine HN.o.mono ?_;rintro e w6 ⟨rfl,E⟩;have R:Below w5.heap.size w5 (w6.alloc (.cells #[.int .i64 0,.int .i64 0,.int .i64 0,.int .i64 0,.int .u64 0,.bool false] 36)):=E.trans ((wall w6 _).mono E.size);have av:=acp (Pj.o.trans (R.mono Pj.o.size));have Y:=acp (dK.o.trans (R.mono dK.o.size));have yL:=acp ((R.block _ (qW.1 oD.o).1).trans oD.o);clear R E;go_wp2_with fail;refine(g_ _ _).mono ?_;rintro e w9 ⟨rfl,u⟩;unfold AU;have K:=acp (Y.o.trans (u.mono Y.o.size));have O:=acp ((u.block _ (qW.1 yL.o).1).trans yL.o);clear u;go_wp2_with (refine aj (by rfl) 38 _ _ (by rfl) w.heap.size (eF (eD 25) none none 0 0) (by rfl) (by rfl) _ O.o bC rfl (bE _ _ _ _ _) ?_;intro AO C;have B:=acp C;clear C);refine bI rfl rfl rfl B.o.1 ?_;have P:jE M A id=(eD 25,M):=XI.o.trans ((if_neg (λ h=>h HZ.o)).trans (by rw[HA.o]));rw[P];exact uV.o _ _ _ K.o B.o rfl rfl
    |some y=>
     cases ak:y.closed with
     |false=>
      have wm:=acp ak;have G:lS T H= .agg #[.int .i64 H,.int .i64 y.kind,.int .i64 y.links,.int .i64 y.b.length,.int .u64 y.aL,.bool false]:=by unfold lS;rw[ha];show vU H y=_;unfold vU;rw[ak]
      clear ak;rw[G]at HN;have HA:=acp ha;clear ha G;go_wp2_with fail;refine HN.o.mono ?_;rintro e w6 ⟨rfl,E⟩;have R:Below w5.heap.size w5 (w6.alloc (.cells #[.int .i64 H,.int .i64 y.kind,.int .i64 y.links,.int .i64 y.b.length,.int .u64 y.aL,.bool false] 36)):=E.trans ((wall w6 _).mono E.size);have av:=acp (Pj.o.trans (R.mono Pj.o.size));have Y:=acp (dK.o.trans (R.mono dK.o.size));have yL:=acp ((R.block _ (qW.1 oD.o).1).trans oD.o);clear R E;by_cases F:y.kind=2
      ·have HK:=acp F;have dI:(y.kind==2)=true:=by simpa using F
       clear F;go_wp2_with fail;refine(g_ _ _).mono ?_;rintro e w9 ⟨rfl,u⟩;unfold AU;have K:=acp (Y.o.trans (u.mono Y.o.size));have O:=acp ((u.block _ (qW.1 yL.o).1).trans yL.o);clear u;go_wp2_with (refine aj (by rfl) 38 _ _ (by rfl) w.heap.size (eF (eD 22) none none 0 0) (by rfl) (by rfl) _ O.o bC rfl (bE _ _ _ _ _) ?_;intro AO C;have B:=acp C;clear C);refine bI rfl rfl rfl B.o.1 ?_;have P:jE M A id=(eD 22,M):=XI.o.trans ((if_neg (λ h=>h HZ.o)).trans (by rw[HA.o];exact if_pos HK.o));rw[P];exact uV.o _ _ _ K.o B.o rfl rfl
      ·have HK:=acp F;have dI:(y.kind==2)=false:=by simpa using F
       clear F;go_wp2_with fail;refine(g_ _ _).mono ?_;rintro e w9 ⟨rfl,u⟩;unfold AU;have K:=acp (Y.o.trans (u.mono Y.o.size));have O:=acp ((u.block _ (qW.1 yL.o).1).trans yL.o);clear u;go_wp2_with (refine aj (by rfl) 38 _ _ (by rfl) w.heap.size (eF (eD 25) none none 0 0) (by rfl) (by rfl) _ O.o bC rfl (bE _ _ _ _ _) ?_;intro AO C;have B:=acp C;clear C);refine bI rfl rfl rfl B.o.1 ?_;have P:jE M A id=(eD 25,M):=XI.o.trans ((if_neg (λ h=>h HZ.o)).trans (by rw[HA.o];exact(if_neg HK.o).trans (if_pos wm.o)));rw[P];exact uV.o _ _ _ K.o B.o rfl rfl
     |true=>
      have wm:=acp ak;have G:lS T H= .agg #[.int .i64 H,.int .i64 y.kind,.int .i64 y.links,.int .i64 y.b.length,.int .u64 y.aL,.bool true]:=by unfold lS;rw[ha];show vU H y=_;unfold vU;rw[ak]
      clear ak;rw[G]at HN;have HA:=acp ha;clear ha G;go_wp2_with fail;refine HN.o.mono ?_;rintro e w6 ⟨rfl,E⟩;have R:Below w5.heap.size w5 (w6.alloc (.cells #[.int .i64 H,.int .i64 y.kind,.int .i64 y.links,.int .i64 y.b.length,.int .u64 y.aL,.bool true] 36)):=E.trans ((wall w6 _).mono E.size);have av:=acp (Pj.o.trans (R.mono Pj.o.size));have Y:=acp (dK.o.trans (R.mono dK.o.size));have yL:=acp ((R.block _ (qW.1 oD.o).1).trans oD.o);clear R E;by_cases F:y.kind=2
      ·have HK:=acp F;have dI:(y.kind==2)=true:=by simpa using F
       clear F;go_wp2_with fail;refine(g_ _ _).mono ?_;rintro e w9 ⟨rfl,u⟩;unfold AU;have K:=acp (Y.o.trans (u.mono Y.o.size));have O:=acp ((u.block _ (qW.1 yL.o).1).trans yL.o);clear u;go_wp2_with (refine aj (by rfl) 38 _ _ (by rfl) w.heap.size (eF (eD 22) none none 0 0) (by rfl) (by rfl) _ O.o bC rfl (bE _ _ _ _ _) ?_;intro AO C;have B:=acp C;clear C);refine bI rfl rfl rfl B.o.1 ?_;have P:jE M A id=(eD 22,M):=XI.o.trans ((if_neg (λ h=>h HZ.o)).trans (by rw[HA.o];exact if_pos HK.o));rw[P];exact uV.o _ _ _ K.o B.o rfl rfl
      ·have HK:=acp F;have dI:(y.kind==2)=false:=by simpa using F
       clear F;have ZY:=acp (GK.o _ (y.b.length:Int) (gG (by have:=dn.o y HA.o;omega) (by have:=dn.o y HA.o;omega)) av.o);go_wp2_with fail;refine ZY.o.mono ?_;rintro e U ⟨ra,rn,rc,rfl,jl,d9,jw⟩;have aC:(qV T H 0 y.b.length).length=rn:=by have:=d9.length;simpa using this
       have qY:=acp (Y.o.trans (jw.mono Y.o.size));have Gd:=acp ((jw.block _ (qW.1 yL.o).1).trans yL.o);have Q5:=jL.o.step (I:=λ _=>False) (λ e=>e) (Step.grow jL.o qY.o);have cB:=mo.o.grow jL.o qY.o;have BL:Below U.heap.size U (U.alloc (.cells #[.bool false,.int .i64 0,.slice ra rn rc] 205)):=wall U _;have ig:=acp (Q5.step (I:=λ _=>False) (λ e=>e) (Step.grow Q5 BL));have aA:o1 U.heap.size=0:=Wy λ h9=>by have:=(Q5.new _ h9).2;omega
       have Kt:=jL.o.step (I:=λ _=>False) (λ e=>e) (Step.grow jL.o Y.o);have bn:ah (Free o1 (U.alloc (.cells #[.bool false,.int .i64 0,.slice ra rn rc] 205))) (U.alloc (.cells #[.bool false,.int .i64 0,.slice ra rn rc] 205)) ra rn ((qV T H 0 y.b.length).map bv):=(ah.oF Kt d9).move BL.size λ b Q jy=>⟨⟨Q.1,Pd Q.2 BL.size⟩,BL.block b jy⟩;have rF:yM o1 (U.alloc (.cells #[.bool false,.int .i64 0,.slice ra rn rc] 205)) (ptr U.heap.size) (some ⟨false,0,qV T H 0 y.b.length⟩):=by
        refine⟨U.heap.size,ra,rc,rfl,aA,by simp,?_,by rw[aC];exact jl,by rw[aC];exact bn⟩;rw[aC];exact(MapKept.heap_alloc U _).1
       have oU:=acp ((cB.grow Q5 BL).put ig.o jm.o fm Og (ptr U.heap.size) _ rF);obtain⟨t',s',v',k1,k2,k3,k4⟩:=(cB.grow Q5 BL).at_;obtain⟨y0,y1,y2,y3,y4⟩:=gV k1;have lI:=y3 fm Og;have kW:=y4 (3+fm);have O:acr (((U.alloc (.cells #[.bool false,.int .i64 0,.slice ra rn rc] 205)).setCell ⟨p,3+fm,none⟩ (ptr U.heap.size)).heap[w.heap.size]? =some (.cells (eF (eD 0) none none 0 0) 38 (0,0))):=acp ((oU.o.1.block (b:=w.heap.size) (Pd (qW.1 Gd.o).1 BL.size) (by rw[yO.o];exact λ e=>aN e.symm)).trans ((BL.block _ (qW.1 Gd.o).1).trans Gd.o));have i0:(0:Int)<=fm:=by omega
       have i1:(fm:Int)<8:=by omega
       have K:=acp (qY.o.trans (BL.mono qY.o.size));clear k1 k2 k3 k4 cB Q5 aA y0 y1 y2 y3 y4 BL bn rF d9 jw aC Kt;go_wp2_with (refine aj (by rfl) 38 _ _ (by rfl) w.heap.size (eF ⟨0,fm,[],[],none⟩ none none 0 0) (by rfl) (by rfl) _ O.o bC rfl (bE _ _ _ _ _) ?_;intro AO C;have B:=acp C;clear C);refine bI rfl rfl rfl B.o.1 ?_;have P:jE M A id=(⟨0,fm,[],[],none⟩,M.put fm (some ⟨false,0,qV T H 0 y.b.length⟩)):=by
        refine XI.o.trans ((if_neg (λ h=>h HZ.o)).trans ?_);rw[HA.o];refine(if_neg HK.o).trans ((if_neg (by rw[wm.o];simp)).trans ?_);rw[<-HV.o];rfl
       rw[P];have fT:=ig.o.step (I:=λ m=>m=k) (λ e=>n3 e.symm) oU.o.1;have aB:=B.o.step fT yO.o;exact⟨o1,⟨_,rfl,none,none,0,0,rfl,Nat.le_refl _,Nat.le_refl _,ah.nil _ _ _,jT _ _⟩,(((mQ.o.mono λ m hm=> .inr (.inr (.inr hm))).trans (Step.grow jL.o K.o)).trans (oU.o.1.mono λ m hm=> .inr (.inr (.inl hm)))).trans (aB.mono λ m hm=> .inr (.inr (.inr hm))),oU.o.2.step (λ e=>n4 e.symm) n7 n9 aN aB⟩
   ·have HZ:=acp hz;have aF:(ke !=0)=true:=by simpa using hz
    clear hz;go_wp2_with fail;refine(g_ _ _).mono ?_;rintro e w9 ⟨rfl,u⟩;unfold AU;have K:=acp (dK.o.trans (u.mono dK.o.size));have O:=acp ((u.block _ (qW.1 oD.o).1).trans oD.o);clear u;go_wp2_with (refine aj (by rfl) 38 _ _ (by rfl) w.heap.size (eF (eD ke) none none 0 0) (by rfl) (by rfl) _ O.o bC rfl (bE _ _ _ _ _) ?_;intro AO C;have B:=acp C;clear C);refine bI rfl rfl rfl B.o.1 ?_;have P:jE M A id=(eD ke,M):=XI.o.trans (if_pos HZ.o);rw[P];exact uV.o _ _ _ K.o B.o rfl rfl
end
