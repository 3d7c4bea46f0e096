/- package -/
import Derived.Test.YthillkfmdndedaaGreatDoorM30
set_option maxRecDepth 100000
set_option maxHeartbeats 64000000
set_option linter.all false
namespace Go.Proofs.YthillkfmdndedaaGreatDoor
open Go.ChangeShapes Go.WideShapes Go.ChangeAt Go.RowKit
theorem qx.step1{w w':World}{o u:Mark}{m j s:Nat}{S:qJ}(h:jD o j w s S)(A:0<m)(y:j≠m)(z:Step o (λ k=>k=m) w u w'):jD u j w' s S:=h.step (I:=λ k=>k=m) (λ e=>by have B:0=m:=e;omega) (λ e=>y e) z
theorem PI.step1{w w':World}{o u:Mark}{m j x:Nat}{s:Rd}(h:PI o j w x s)(A:0<m)(y:j≠m)(z:Step o (λ k=>k=m) w u w'):PI u j w' x s:=h.step (I:=λ k=>k=m) (λ e=>by have B:0=m:=e;omega) (λ e=>y e) z
section
variable{W w:World}{o:Mark}{p:Nat}{T:aS}
end
def PN(T:aS):Prop:=∀(S:Nat->Prop) (a:Mx) (n c:Nat) (w:World),n<=100000000->ah S w a n ((iA T).map bv)->Dy 251 #[.slice a n c] w λ e w'=>∃p,e= .returned (.tuple #[ptr p,.int .i64 0])/\tQ w p T w'
def PO(S:qJ):Prop:=∀(Q:Nat->Prop) (W w:World) (o:Mark),Marks W o w->∀(i j:Nat),i≠0->j≠0->i≠j->∀(a:Mx) (n c:Nat),n<=60000000->ah Q w a n ((j_ S).map bv)->Dy 252 #[.slice a n c] w λ e w'=>∃s u,e= .returned (.tuple #[ptr s,.int .i64 0])/\Step o (λ m=>m=i\/m=j) w u w'/\jD u i w' s S
def Loads(c:Int)(M:dQ):Prop:=∀(Q:Nat->Prop) (W w:World) (o:Mark),Marks W o w->∀(i:Nat),0<i->∀(a:Mx) (n u:Nat),ah Q w a n ((fU M).map bv)->Dy 222 #[.slice a n u] w λ e w'=>∃q m,e= .returned (.tuple #[ptr q,.int .i64 0])/\Step o (Five i) w m w'/\vo W m i w' q c (gJ M)
section
variable{W w:World}{o:Mark}{p:Nat}{T:aS}
theorem Yb{Q:Nat->Prop}{c:Int}{M:dQ}(hM:Marks W o w)(i:Nat)(hi:0<i)(E:iJ c M)(bS:(j_ M.s).length<=60000000)(cB:PN (bX M.t))(ak:PO M.s)(a:Mx)(n cp:Nat)(hr:ah Q w a n ((fU M).map bv)):
  Dy 222 #[.slice a n cp] w λ e w'=>∃q o',e= .returned (.tuple #[ptr q,.int .i64 0])/\Step o (Five i) w o' w'/\vo W o' i w' q c (gJ M):=by
 have U:gT (bX M.t):=E.t.bX;have bT:=LX U.1;obtain⟨C,hC⟩:∃C,C=iA (bX M.t):=⟨_,rfl⟩;obtain⟨sn,D⟩:∃sn,sn=j_ M.s:=⟨_,rfl⟩;rw[<-hC]at bT;have e8:(256:Int)^8=18446744073709551616:=rfl;have Dt:=E.now;have u:fU M=bF M.now 8++(bF (C.length:Int) 8++(C++sn)):=by
  unfold fU;rw[<-hC,<-D,List.append_assoc,List.append_assoc]
 have gM:n=16+C.length+sn.length:=by
  have h9:=hr.length;rw[u]at h9;simp only[List.length_map,List.length_append,ay]at h9;omega
 rw[<-D]at bS;have n1:fD (fU M,0) 8=(M.now,(bF (C.length:Int) 8++(C++sn),0)):=by
  rw[u];exact qw 8 _ _ (by omega) (by omega)
 have n2:fD (bF (C.length:Int) 8++(C++sn),0) 8=((C.length:Int),(C++sn,0)):=qw 8 _ _ (by omega) (by omega);have n3:uO (C++sn,0)=C.length+sn.length:=by unfold uO;rw[if_neg (by simp),List.length_append]
 have n4:kJ (C++sn,0) (C.length:Int)=(C,(sn,0)):=vZ _ _ _ rfl;have n5:uO (sn,0)=sn.length:=by unfold uO;rw[if_neg (by simp)]
 have n6:kJ (sn,0) (sn.length:Int)=(sn,([],0)):=by
  have:=vZ sn [] sn.length rfl;rw[aaz]at this;exact this
 have zD:=acp (ro_new hM (i+3) a n cp (fU M) (by omega) hr);have aD:=acp E;have WJ:=acp cB;have dn:=acp ak;have HM:=acp hM;have XI:=acp U;have av:=acp hC;have Ez:=acp D;have u_:=acp n1;have NH:=acp n2;have Uq:=acp n3;have ZN:=acp n4;have aN:=acp n5;have aL:=acp n6;obtain⟨now,P⟩:∃now,now=M.now:=⟨_,rfl⟩;rw[<-P]at u_ Dt;have gL:=acp P;obtain⟨L,hL⟩:∃L,L=C.length:=⟨_,rfl⟩;obtain⟨K,hK⟩:∃K,K=sn.length:=⟨_,rfl⟩;rw[<-hL]at NH u_ Uq ZN bT;rw[<-hK]at Uq aN aL bS;have Dh:=acp hL;have fT:=acp hK;clear hM E cB ak hr U hC D u gM n1 n2 n3 n4 n5 n6 P hL hK;go_enter Tryz.func222,Tryz.ntmps222;go_wp2_with fail;refine zD.o.mono ?_;rintro e w1 ⟨xr,o1,rfl,lN,X⟩;have jL:=acp (HM.o.step1 (by omega) X);have mQ:=acp X;have SX:=acp (Rs lN jL.o u_.o);clear lN X zD;go_wp2_with fail;refine SX.o.mono ?_;rintro e w2 ⟨rfl,aB,V⟩;have tF:=acp (jL.o.step1 (by omega) V);have G:=acp (mQ.o.trans V);have xI:=acp (Rs aB tF.o NH.o);clear aB V SX jL mQ;go_wp2_with fail;refine xI.o.mono ?_;rintro e w3 ⟨rfl,JE,S⟩;have zT:=acp (tF.o.step1 (by omega) S);have Du:=acp (G.o.trans S);have pE:=acp (sG now w3);rw[aak Dt.2]at pE;have F:=acp (Rt JE);rw[Uq.o]at F;have Gx:=acp (Ya JE zT.o (L:Int) (by omega) (by omega) ZN.o);have z2:IntKind.u64.wrap ((L+K:Nat):Int)=((L+K:Nat):Int):=by simp[IntKind.wrap,IntKind.bits,IntKind.signed];omega
 have z4:decide (((L+K:Nat):Int)<(L:Int))=false:=aad (by omega);have z9:IntKind.i64.wrap (L:Int)=(L:Int):=aaf _ (by omega);obtain⟨R,hR⟩:∃R,R=L+K:=⟨_,rfl⟩;rw[<-hR]at F z2 z4;have zB:L<=R:=by omega
 have zC:decide (R<L)=false:=aad (by omega);clear hR JE S xI tF G;go_wp2_with fail;refine pE.o.mono ?_;rintro e _ ⟨rfl,rfl⟩;go_wp2_with fail;refine F.o.mono ?_;rintro e _ ⟨rfl,rfl⟩;go_wp2_with fail;refine Gx.o.mono ?_;rintro e w4 ⟨a4,c4,rfl,dV,B,Dm,N⟩;rw[<-Dh.o]at B⊢;have sW:=acp (zT.o.step1 (by omega) N);have rM:=acp (Du.o.trans N);have dI:acr (ah (Free o1 w4) w4 a4 L (C.map bv)):=B;have aJ:=acp Dm;have aA:=acp (WJ.o _ a4 L c4 w4 (by omega) (by rw[<-av.o];exact B));clear dV B Dm N Gx F pE zT Du z2 z4 zB zC;go_wp2_with fail;refine aA.o.mono ?_;rintro e w5 ⟨p,rfl,bf⟩;obtain⟨o5,z,KY⟩:=bf.mark sW.o (i+1);have Wo:=acp KY;have Z:=acp (sW.o.step1 (by omega) z);have GQ:acr (Step o (Five i) w o5 w5):=(rM.o.mono λ k hk=>pR (by omega)).trans (z.mono λ k hk=>pR (by omega));have dK:=acp (dI.o.free1 (by omega) z);have oD:=acp (aJ.o.step1 (by omega) (by omega) z);have Vu:=acp (rJ Wo.o Z.o XI.o.1);rw[Am]at Vu;clear bf z KY aA sW rM dI aJ;go_wp2_with fail;refine Vu.o.mono ?_;rintro e w6 ⟨q2,rfl,Vv,bq⟩;have y:=acp (JF Vv XI.o.1);rw[<-av.o]at y;have A:=acp bq;clear Vv bq Vu;go_wp2_with fail;refine y.o.mono ?_;rintro e w7 ⟨a7,n7,c7,rfl,Lr,rT,jG⟩;have Y:Below w5.heap.size w5 w7:=A.o.trans (jG.mono A.o.size);have aH:=acp (Wo.o.grow Y);have EK:=acp (Z.o.grow Y);have ze:=acp (GQ.o.trans (Step.grow Z.o Y));have aF:=acp (qB a7 a4 n7 L c7 c4 C w7 rT (dK.o.free (I:=λ _=>False) (λ e=>e) (Step.grow Z.o Y)));have Q0:=oD.o.grow Z.o Y;have O:=acp (Rt Q0);rw[aN.o]at O;have bD:=acp (Ya Q0 EK.o (K:Int) (by omega) (by omega) aL.o);clear Lr rT jG Y Q0 y A Wo Z GQ oD dK;go_wp2_with fail;refine aF.o.mono ?_;rintro e _ ⟨rfl,rfl⟩;go_wp2_with fail;refine O.o.mono ?_;rintro e _ ⟨rfl,rfl⟩;go_wp2_with fail;refine bD.o.mono ?_;rintro e w8 ⟨a8,c8,rfl,fK,qQ,dN,vV⟩;rw[<-fT.o]at qQ⊢;have Nt:=acp (EK.o.step1 (by omega) vV);have bn:=acp (aH.o.step1 (by omega) (by omega) vV);have Fe:=acp (ze.o.trans (vV.mono λ k hk=>pR (by omega)));have aC:=acp (dn.o _ _ w8 _ Nt.o i (i+4) (by omega) (by omega) (by omega) a8 K c8 (by omega) (by rw[<-Ez.o];exact qQ));clear fK qQ dN vV bD O aF EK aH ze;go_wp2_with fail;refine aC.o.mono ?_;rintro e H ⟨s9,o9,rfl,yN,dG⟩;have h0:True:=trivial;have gy:=acp (Nt.o.step (I:=λ m=>m=i\/m=i+4) (λ e=>by
  have e':0=i\/0=i+4:=e;omega) yN)
 have d9:=acp (bn.o.step (I:=λ m=>m=i\/m=i+4) (λ e=>by
  have e':0=i\/0=i+4:=e;omega) (λ e=>by
  have e':i+1=i\/i+1=i+4:=e;omega) yN)
 have GR:=acp (Fe.o.trans (yN.mono λ k hk=>pR (by omega)));have dM:=acp dG;clear h0 yN dG aC Nt bn Fe;go_wp2_with fail
 go_ret2
 have hb:Below H.heap.size H (H.alloc (.cells (Dq p s9 now λ _=> .pointer none) 110)):=wall H _;obtain⟨oA,J,g1,g2⟩:=cK gy.o (i+2) (λ b=>b=H.heap.size) (w':=H.alloc (.cells (Dq p s9 now λ _=> .pointer none) 110)) (λ b hb=>by subst hb;exact⟨Nat.le_refl _,by simp⟩) hb;have u:Step o (Five i) w oA _:=GR.o.trans (J.mono λ k hk=>pR (by omega));refine⟨H.heap.size,oA,rfl,u,⟨⟨⟨p,s9,λ _=> .pointer none,by rw[show(gJ M).now=now from gL.o.symm];exact(MapKept.heap_alloc H _).1,dM.o.step1 (by omega) (by omega) J,d9.o.step1 (by omega) (by omega) J,λ n hn=>rfl⟩,g1 _ rfl,by simp⟩,HM.o.step (λ e=>by have:=e.1;omega) u,aD.o.settled⟩⟩
end
theorem Loads.of{c:Int}{M:dQ}(m:iJ c M)(u:(j_ M.s).length<=60000000)(y:PN (bX M.t))(z:PO M.s):Loads c M:=λ Q W w o D i C a n B A=>Yb D i C m u y z a n B A
theorem PS:j_ EI=bF 1 8++(qO []++(bF 0 1++[])):=by kernel_rfl
theorem snload0:PO EI:=by
 intro Q W w o K i j hi hj Z a n c hn H;rw[PS]at H;have J:=acp (yI w w acu a n c _ (by omega) H);have HM:=acp K;clear H K;go_enter Tryz.func252,Tryz.ntmps252;go_wp2_with fail;refine J.o.mono ?_;rintro e w1 ⟨x,rfl,-,u,-⟩;have N:=acp (tN u 1 rfl (by omega) (by omega));clear u J;go_wp2_with fail;refine N.o.mono ?_;rintro e w2 ⟨rfl,u,-⟩;have M:=acp (z_ u (l:=[]) (r:=bF 0 1++[]) rfl (by decide));clear u N;go_wp2_with fail;refine M.o.mono ?_;rintro e w3 ⟨F,G,rfl,A,-,u,-⟩;have P:=acp (JB u 0 rfl (by omega) (by omega));have Xy:=acp A;clear u A M;go_wp2_with fail;refine P.o.mono ?_;rintro e z ⟨rfl,u,-⟩;obtain⟨C,D⟩:∃C,C=z.alloc (.cells #[.slice none 0 0,.int .i64 1,.slice F 0 G] 203):=⟨_,rfl⟩;have B:C.heap[z.heap.size]? =some (.cells #[.slice none 0 0,.int .i64 1,.slice F 0 G] 203 (0,0)):=by rw[D];exact(MapKept.heap_alloc z _).1
 have E:=u.grow (w':=C) (by rw[D];exact wall z _);have O:=acp (Ox E);have X:=acp E.below;have y:=acp B;have R:=acp u.below.size;have xS:=acp D;clear u E B D P;go_wp2_with fail;rw[<-xS.o]
 go_loopw [10,43] (λ lv V wr=>V= .int .i64 0/\wr=C) (λ _ _ _=>0)
 case atStart=>exact⟨rfl,rfl⟩
 case round=>
  obtain⟨rfl,rfl⟩:=hrel;go_wp2_with fail;refine O.o.mono ?_;rintro e _ ⟨rfl,rfl⟩;clear O;go_wp2_with fail
  go_ret2
  obtain⟨S,Y,h1,h2⟩:=cK HM.o i (λ b=>b=z.heap.size) (w':=wr) (λ b I=>by subst I;exact⟨R.o,(qW.1 y.o).1⟩) X.o;exact⟨z.heap.size,S,rfl,Y.mono λ m U=> .inl U,⟨.slice none 0 0,F,G,[],y.o,h1 _ rfl,(qW.1 y.o).1,⟨rfl,.inl ⟨rfl,rfl⟩⟩,λ b I=>by simp[Value.ownBlock]at I,rfl,Nat.zero_le _,⟨rfl,Nat.zero_le _,λ h9=>absurd h9 (by simp[EI])⟩⟩⟩
theorem tloads0:PN mO:=λ S a n c w _ m=>tload0 a n c w (by have u:=m.length;rw[List.length_map]at u;rw[<-u];decide) m
theorem load0:Loads 1 nH:=Loads.of iJ.new (by decide) tloads0 snload0
def zh(x:Int):Int:=bits .xor .u32 IntKind.u32.max x
def Fg(c:Int):Int:=if bits .and .u32 c 1=1 then bits .xor .u32 (c/2) 3988292384 else c/2
def CX(c:Int):Nat->Int
 |0=>c
 |n+1=>Fg (CX c n)
def kC(c:Int)(x:UInt8):Int:=CX (bits .xor .u32 c ((x.toNat:Int)%4294967296)) 8
def nk(m:I8):Int:=zh (m.foldl kC (zh 0))
theorem Yc(m:BinOp)(x y:Int):0<=bits m .u32 x y/\bits m .u32 x y<4294967296:=by
 unfold bits;simp only[IntKind.wrap,IntKind.bits,IntKind.signed];simp;omega
theorem mE(m:I8):0<=nk m/\nk m<4294967296:=by unfold nk zh;exact Yc _ _ _
theorem Us{m:I8}{k:Nat}{x:UInt8}(h:m[k]? =some x)(c:Int):(m.take (k+1)).foldl kC c=kC ((m.take k).foldl kC c) x:=by
 obtain⟨u,e⟩:=aaj.1 h;rw[aai u,List.foldl_append,e];rfl
theorem Mr{S:Nat->Prop}(c:Int)(a:Mx)(n cp:Nat)(u:I8)(w:World)(N:ah S w a n (u.map bv))(hn:n<=1000000000):
  Dy 158 #[.int .u32 c,.slice a n cp] w λ e w'=>e= .returned (.int .u32 (zh (u.foldl kC (zh c))))/\w=w':=by
 have X:u.length=n:=by simpa using N.length
 obtain⟨y,A⟩:∃y,y=zh c:=⟨_,rfl⟩;have HR:=acp N;have Z:=acp X;rw[<-A];have aA:=acp A;have ak:IntKind.u32.signed=false:=rfl;clear N X;go_enter Tryz.func158,Tryz.ntmps158;go_wp2_with fail;rw[show bits .xor .u32 IntKind.u32.max c=y from A.symm];clear A
 go_loopw [0,12] (λ v C wr=>∃k:Nat,C= .int .i64 k/\k<=n/\v= .int .u32 ((u.take k).foldl kC y)/\w=wr) (λ _ C _=>n-(intOf C).toNat)
 case atStart=>exact⟨0,rfl,Nat.zero_le _,rfl,rfl⟩
 case round=>
  obtain⟨k,rfl,hk,rfl,rfl⟩:=hrel;obtain⟨f,K⟩:∃f,f=(u.take k).foldl kC y:=⟨_,rfl⟩;rw[<-K];have W:=acp K;clear K;by_cases m:k<n
  ·have hd:decide ((k:Int)<(n:Int))=true:=by simpa using m
   obtain⟨b,M,rfl,-,aB,V⟩:=HR.o.at_ (by omega);have F:k<u.length:=by have:=Z.o;omega
   obtain⟨x,O⟩:∃x,u[k]? =some x:=⟨_,List.getElem?_eq_getElem F⟩;have J:w.cell? ⟨b,M+k,none⟩=some (.int .u8 (x.toNat:Int)):=by
    rw[V k m,List.getElem?_map,O];rfl
   have i0:(0:Int)<=(k:Int):=by omega
   have i1:(k:Int)<(n:Int):=by omega
   have HX:=acp O;have Y:=acp m;obtain⟨g,P⟩:∃g,g=bits .xor .u32 f ((x.toNat:Int)%4294967296):=⟨_,rfl⟩;have HG:=acp P;clear V O F m hk;go_wp2_with fail;rw[<-P];clear P
   go_loopw [0,20] (λ v C wr=>∃j:Nat,C= .int .i64 j/\j<=8/\v= .int .u32 (CX g j)/\w=wr) (λ _ C _=>8-(intOf C).toNat)
   case atStart=>exact⟨0,rfl,Nat.zero_le _,rfl,rfl⟩
   case round=>
    obtain⟨j,rfl,U,rfl,rfl⟩:=hrel;obtain⟨h,H⟩:∃h,h=CX g j:=⟨_,rfl⟩;rw[<-H];have Q:=acp H;clear H;by_cases D:j<8
    ·have R:decide ((j:Int)<8)=true:=by simp;omega
     have j0:(j:Int)<8:=by omega
     have z:=acp D;clear D U;by_cases G:bits .and .u32 h 1=1
     ·have B:acr (CX g (j+1)=bits .xor .u32 (h/2) 3988292384):=by
       show Fg (CX g j)=_;rw[<-Q.o,Fg,if_pos G]
      have I:(bits .and .u32 h 1==1)=true:=by simpa using G
      go_wp2_with fail;go_roundw
      case rel=>exact⟨j+1,by go_num,by have:=z.o;omega,by rw[B.o],trivial⟩
      case measure=>have:=z.o;simp[intOf];omega
     ·have B:acr (CX g (j+1)=h/2):=by
       show Fg (CX g j)=_;rw[<-Q.o,Fg,if_neg G]
      have I:(bits .and .u32 h 1==1)=false:=by simpa using G
      go_wp2_with fail;go_roundw
      case rel=>exact⟨j+1,by go_num,by have:=z.o;omega,by rw[B.o],trivial⟩
      case measure=>have:=z.o;simp[intOf];omega
    ·have R:decide ((j:Int)<8)=false:=by simp;omega
     have E:j=8:=by omega
     have B:acr ((u.take (k+1)).foldl kC y=h):=by
      show(u.take (k+1)).foldl kC y=h;rw[show(u.take (k+1)).foldl kC y=kC ((u.take k).foldl kC y) x from Us HX.o y,<-W.o,kC,<-HG.o,Q.o,E]
     clear D U E;go_wp2_with fail;go_roundw
     case rel=>exact⟨k+1,by go_num,by have:=Y.o;omega,by rw[B.o],trivial⟩
     case measure=>have:=Y.o;simp[intOf];omega
  ·have hd:decide ((k:Int)<(n:Int))=false:=by simp;omega
   have B:acr (f=u.foldl kC y):=by
    show f=_;rw[W.o,List.take_of_length_le (by have:=Z.o;omega)]
   have av:decide (k<n)=false:=aad m;clear m;go_wp2_with fail;go_ret;rw[<-B.o];exact⟨dX (by unfold zh;exact Eq.refl _),Eq.refl _⟩
theorem xK{S:Nat->Prop}(a:Mx)(n y:Nat)(m:I8)(w:World)(u:ah S w a n (m.map bv))(z:n<=1000000000):
  Dy 90 #[.slice a n y] w λ e w'=>e= .returned (.int .u32 (nk m))/\w=w':=by
 have A:=acp (Mr 0 a n y m w u z);clear u;go_enter Tryz.func90,Tryz.ntmps90;go_wp2_with fail;refine A.o.mono ?_;rintro e _ ⟨rfl,rfl⟩;go_wp2_with fail;go_ret;exact⟨rfl,rfl⟩
structure RecM where
 kind:Int
 seq:Int
 body:List UInt8
def vw(x:RecM)(a:Mx)(c:Nat):Array Value:= #[.int .i64 x.kind,.int .u64 x.seq,.slice a x.body.length c]
structure wP(x:RecM):Prop where
 kind:x.kind=1\/x.kind=2/\x.body=[]
 seq:0<=x.seq/\x.seq<=1099511627776
 body:x.body.length<=900
def Ru(x:RecM):List UInt8:=bF x.kind 1++bF x.seq 8++(bF x.body.length 2++x.body)
def vG(x:RecM):List UInt8:=Ru x++bF (nk (Ru x)) 4
theorem JU(x:RecM):(Ru x).length=11+x.body.length:=by unfold Ru;simp only[List.length_append,ay];omega
theorem og(x:RecM):(vG x).length=15+x.body.length:=by unfold vG;rw[List.length_append,JU,ay];omega
theorem kQ(x:RecM)(h:wP x)(a:Mx)(c:Nat)(w:World):Dy 79 #[.agg (vw x a c)] w λ e w'=>e= .returned (.bool true)/\Below w.heap.size w w':=by
 obtain⟨E,A,C⟩:=x;obtain⟨z,y,u⟩:=h;dsimp only at z y u;obtain⟨L,m⟩:∃L,L=C.length:=⟨_,rfl⟩;unfold vw;dsimp only;rw[<-m]at u⊢;have F:decide (1099511627776<A)=false:=aad (by omega);have D:decide ((900:Int)<(L:Int))=false:=aad (by omega);have B:decide (900<L)=false:=aad (by omega);rcases z with rfl|⟨rfl,rfl⟩
 ·clear m y u;go_enter Tryz.func79,Tryz.ntmps79;go_wp2_with fail;go_ret;exact⟨rfl,wall w _⟩
 ·obtain rfl:L=0:=by rw[m];rfl
  clear m y u;go_enter Tryz.func79,Tryz.ntmps79;go_wp2_with fail;go_ret;exact⟨rfl,wall w _⟩
theorem PU(x:RecM)(h:wP x)(a:Mx)(c:Nat)(w:World):Dy 147 #[.agg (vw x a c)] w λ e w'=>e= .returned (.int .i64 ((vG x).length:Int))/\Below w.heap.size w w':=by
 have y:=acp (λ w'=>kQ x h a c w');rw[og];have B:=h.body;clear h;unfold vw at y⊢;obtain⟨L,z⟩:∃L,L=x.body.length:=⟨_,rfl⟩;rw[<-z]at y B⊢;clear z;have D:IntKind.i64.wrap (11+(L:Int))=11+(L:Int):=aaf _ (by omega);have E:IntKind.i64.wrap (11+(L:Int)+4)=11+(L:Int)+4:=aaf _ (by omega);go_enter Tryz.func147,Tryz.ntmps147;go_wp2_with fail;refine(y.o _).mono ?_;rintro e A ⟨rfl,m⟩;have C:A.cell? ⟨w.heap.size,2,none⟩=some (.slice a L c):=by
  rw[m.cell (p:=⟨w.heap.size,2,none⟩) (by simp)];simp only[World.cell?,(MapKept.heap_alloc w _).1];rfl
 have u:=acp ((wall w (.cells #[.int .i64 x.kind,.int .u64 x.seq,.slice a L c] 71)).trans (m.mono (by simp)));clear m;go_wp2_with fail;go_ret;exact⟨dX (by omega),u.o⟩
theorem PV{c:Int}(m:0<=c):(#[.int .u8 (c/16777216%256),.int .u8 (c/65536%256),.int .u8 (c/256%256),.int .u8 (c%256)]:Array Value)=((bF c 4).map bv).toArray:=by
 have h:∀y:Int,0<=y->Value.int .u8 (y%256)=bv (UInt8.ofNat (y.toNat%256)):=λ y u=>by
  unfold bv;congr 1;rw[UInt8.toNat_ofNat'];omega
 have e:bF c 4=[UInt8.ofNat ((c/16777216).toNat%256),UInt8.ofNat ((c/65536).toNat%256),UInt8.ofNat ((c/256).toNat%256),UInt8.ofNat ((c/1).toNat%256)]:=rfl;rw[e,h _ (Int.ediv_nonneg m (by decide)),h _ (Int.ediv_nonneg m (by decide)),h _ (Int.ediv_nonneg m (by decide)),h _ m,Int.ediv_one];rfl
theorem Ms{c:Int}(m:0<=c)(w:World):gH w (bF c 4) (.returned (.slice (some ⟨w.heap.size,0,none⟩) 4 4)) (w.alloc (.cells #[.int .u8 (c/16777216%256),.int .u8 (c/65536%256),.int .u8 (c/256%256),.int .u8 (c%256)] 5)):=by
 rw[PV m];refine⟨_,4,4,rfl,Nat.le_refl _,?_,wall w _⟩;have h:=jr (w:=w) ((bF c 4).map bv) 5 (by rw[List.length_map,ay];decide);rw[List.length_map,ay]at h;exact h.mono λ b u=>by rw[u];exact⟨Nat.le_refl _,by simp⟩
theorem Mt(c:Int)(m:0<=c)(w:World):Dy 150 #[.int .u32 c] w (gH w (bF c 4)):=by
 go_enter Tryz.func150,Tryz.ntmps150;go_wp2_with fail;go_ret;exact Ms m w
theorem II{S:Nat->Prop}(a:Mx)(n z:Nat)(u:I8)(w:World)(y:ah S w a n (u.map bv))(C:n<=1000000000):Dy 239 #[.slice a n z] w (gH w (bF (nk u) 4)):=by
 have B:=acp (xK a n z u w y C);obtain⟨c,A⟩:∃c,c=nk u:=⟨_,rfl⟩;have m:=(mE u).1;rw[<-A]at B m⊢;clear y A;go_enter Tryz.func239,Tryz.ntmps239;go_wp2_with fail;refine B.o.mono ?_;rintro e _ ⟨rfl,rfl⟩;go_wp2_with fail;go_ret;exact Ms m w
theorem fB{S:Nat->Prop}{w:World}{a:Mx}{n:Nat}{vs:List Value}(h:ah S w a n vs):ah (λ b=>b<w.heap.size) w a n vs:=
 ⟨h.length,h.small,λ y=>let⟨b,m,e,_,u,z⟩:=h.at_ y;⟨b,m,e,u,u,z⟩⟩
def PW(w:World)(m:I8)(e:Ending)(w':World):Prop:=
 ∃a n c,e= .returned (.tuple #[.slice a n c,.int .i64 0])/\n<=c/\ah (λ x=>w.heap.size<=x/\x<w'.heap.size) w' a n (m.map bv)/\Below w.heap.size w w'
theorem Ut{S:Nat->Prop}(x:RecM)(h:wP x)(a:Mx)(c:Nat)(w:World)(hr:ah S w a x.body.length (x.body.map bv))(hc:x.body.length<=c):Dy 201 #[.agg (vw x a c)] w (PW w (vG x)):=by
 have HR:=acp (λ w'=>kQ x h a c w');have hk:0<=x.kind/\x.kind<=2:=by rcases h.kind with h|h<;>omega
 have hq:=h.seq;have M:=h.body;have dV:=acp (fB hr);have Y:acr (Ru x=[]++bF x.kind 1++bF x.seq 8++(bF (x.body.length:Int) 2++x.body)):=by show Ru x=_;unfold Ru;simp
 have X:acr (vG x=Ru x++bF (nk (Ru x)) 4):=by show vG x=_;rfl
 have aF:=JU x;unfold vw at HR⊢;obtain⟨F,z⟩:∃F,F=w.alloc (.cells #[.int .i64 x.kind,.int .u64 x.seq,.slice a x.body.length c] 71):=⟨_,rfl⟩;have A:acr (Below w.heap.size w F):=by rw[z];exact wall w _
 have H:F.heap[w.heap.size]? =some (.cells #[.int .i64 x.kind,.int .u64 x.seq,.slice a x.body.length c] 71 (0,0)):=by rw[z];exact(MapKept.heap_alloc w _).1
 have aB:w.heap.size<F.heap.size:=(qW.1 H).1;have O:acr (∀u,Below F.heap.size F u->u.cell? ⟨w.heap.size,0,none⟩=some (.int .i64 x.kind)/\u.cell? ⟨w.heap.size,1,none⟩=some (.int .u64 x.seq)/\u.cell? ⟨w.heap.size,2,none⟩=some (.slice a x.body.length c)):=λ u M=>by
  have h1:=(M.block w.heap.size aB).trans H;refine⟨?_,?_,?_⟩<;>simp[World.cell?,h1]
 have R:=acp z;clear h hr z H;go_enter Tryz.func201,Tryz.ntmps201;go_wp2_with fail;rw[<-R.o];refine(HR.o _).mono ?_;rintro e w2 ⟨rfl,D⟩;have m:=acp D;obtain⟨c0,c1,c2⟩:=O.o w2 D;clear D;go_wp2_with fail;refine(fG _).mono ?_;rintro e w3 ⟨rfl,J,E⟩;have G:=acp J;have Q:=acp E;obtain⟨d0,d1,d2⟩:=O.o w3 (m.o.trans (E.mono m.o.size));clear J E c0 c1 c2;go_wp2_with fail;refine(qo G.o x.kind hk.1 (by omega) (by simp)).mono ?_;intro e w4 y;obtain⟨rfl,x4,OP,I⟩:=dx.more G.o Q.o y;have zQ:=acp OP;have dI:=acp I;obtain⟨e0,e1,e2⟩:=O.o w4 (m.o.trans (I.mono m.o.size));clear y OP I d0 d1 d2 G;go_wp2_with fail;refine(jB zQ.o x.seq hq.1 (by omega) (by simp[ay])).mono ?_;intro e w5 y;obtain⟨rfl,x5,Rp,C⟩:=dx.more zQ.o dI.o y;have N:=acp Rp;have dK:=acp C;have B:=m.o.trans (C.mono m.o.size);obtain⟨f0,f1,f2⟩:=O.o w5 B;have BI:=dV.o.below (A.o.trans (B.mono A.o.size)) acs;have ak:=A.o.size;have aD:=m.o.size;clear y Rp C e0 e1 e2 zQ;go_wp2_with fail;refine(pJ N.o a x.body.length c x.body BI (λ b (M:b<w.heap.size)=>⟨by omega,λ h9=>by have:=aZ N.o.own b h9;omega⟩) hc (by simp[ay]) (by omega)).mono ?_;intro e w6 y;obtain⟨rfl,x6,NG,K⟩:=dx.more N.o dK.o y;rw[<-Y.o]at NG;have Bq:=acp NG;have nP:=acp K;clear y NG K f0 f1 f2 BI N;go_wp2_with fail;refine(iZ Bq.o (by omega)).mono ?_;rintro e w7 ⟨a7,n7,c7,rfl,Lr,U,Z⟩;have aJ:n7<=1000:=by have:=U.length;rw[List.length_map]at this;omega
 have CG:=acp (Bq.o.below Z);have nE:=acp (nP.o.trans (Z.mono nP.o.size));have zF:=acp (II a7 n7 c7 (Ru x) w7 U (by omega));clear U Z Bq;go_wp2_with fail;refine zF.o.mono ?_;rintro e w8 ⟨a8,n8,c8,rfl,aC,qQ,P⟩;have uJ:n8<=4:=by have:=qQ.length;rw[List.length_map,ay]at this;omega
 have Gd:=acp qQ;have W:=acp (CG.o.below P);have qY:=acp (nE.o.trans (P.mono nE.o.size));clear qQ P CG zF;go_wp2_with fail;refine(gZ W.o a8 n8 c8 (bF (nk (Ru x)) 4) Gd.o (by omega) (by omega)).mono ?_;intro e w9 y;obtain⟨rfl,x9,uq,dG⟩:=dx.more W.o qY.o y;rw[<-X.o]at uq;have O9:=acp uq;have pK:=acp dG;have aH:=og x;clear y uq dG W;go_wp2_with fail;refine(iZ O9.o (by omega)).mono ?_;rintro e wA ⟨aA,nA,cA,rfl,av,Yd,Dv⟩;have Rv:=acp Yd;have sU:=acp Dv;clear Yd Dv;go_wp2_with fail
 go_ret2
 have yN:=pK.o.size;have V:=m.o.trans (pK.o.mono m.o.size);refine⟨aA,nA,cA,rfl,av,Rv.o.mono λ b M=>⟨by omega,M.2⟩,(A.o.trans (V.mono ak)).trans (sU.o.mono (by omega))⟩
theorem oh{P:Program}{z:Func}{a b d:Nat}{t:TypeId}{m:Array Value}{y:Addr}{v:Value}{w:World}(h:z.results= #[.cell a t,.tmp b,.tmp d])(A:m.getD a undef= .pointer (some y))(B:(loadVar t y).run P w= .ok v w):(results z m).run P w= .ok (.tuple #[v,m.getD b undef,m.getD d undef]) w:=by
 have u:m[a]?.getD undef= .pointer (some y):=by simpa using A
 simp[results,h,asAddr,u,B]
theorem Ye:(Tryz.prog.info? 71).map (·.size)=some 3:=by kernel_rfl
theorem wQ{w:World}{x:RecM}{b:Nat}{a:Mx}{c:Nat}(h:w.heap[b]? =some (.cells (vw x a c) 71 (0,0))):w.cell? ⟨b,0,none⟩=some (.int .i64 x.kind)/\w.cell? ⟨b,1,none⟩=some (.int .u64 x.seq)/\w.cell? ⟨b,2,none⟩=some (.slice a x.body.length c):=by
 refine⟨?_,?_,?_⟩<;>simp[World.cell?,h,vw]
theorem rcC_one(x:RecM)(a:Mx)(c:Nat):(vw x a c).all (·.oneCell')=true:=by simp[vw,Value.oneCell']
theorem ret_rec{B:Func}{C u A:Nat}{Q:Ending->World->Prop}{a:Act}{w:World}{b:Nat}{m:Array Value}{y z:Value}(J:B.results= #[.cell C 71,.tmp u,.tmp A])(F:a.tmps.getD C undef= .pointer (some ⟨b,0,none⟩))(I:a.tmps.getD u undef=y)(D:a.tmps.getD A undef=z)(E:a.defers=[])(G:w.heap[b]? =some (.cells m 71 (0,0)))(K:m.size=3)(H:Q (.returned (.tuple #[.agg m,y,z])) w):
  bodyPost Tryz.prog B Q .ret a w:=by
 subst I D;exact aav (v:= .tuple #[.agg m,a.tmps.getD u undef,a.tmps.getD A undef]) (oh J F (aaS w b 71 71 _ (0,0) _ G Tryz.underlying71 rfl (by rw[K];exact Ye))) E H
def Yf(w:World)(x:RecM)(e:Ending)(w':World):Prop:=
 ∃a c,e= .returned (.tuple #[.agg (vw x a c),.int .i64 ((vG x).length:Int),.int .i64 0])/\qj x.body.length c/\ah (λ b=>w.heap.size<=b/\b<w'.heap.size) w' a x.body.length (x.body.map bv)/\Below w.heap.size w w'
theorem Uu{S:Nat->Prop}(x:RecM)(h:wP x)(rest:I8)(a:Mx)(n c:Nat)(w:World)(hr:ah S w a n ((vG x++rest).map bv))(hc:n<=c)(hn:n<=1000000):
  Dy 206 #[.slice a n c] w (Yf w x):=by
 have pE:=acp (λ a c w'=>kQ x h a c w');unfold vw at pE;have hk:0<=x.kind/\x.kind<=2:=by rcases h.kind with h|h<;>omega
 have hq:=h.seq;have hb:=h.body;obtain⟨H,hH⟩:∃H,H=Ru x:=⟨_,rfl⟩;have fT:H.length=11+x.body.length:=by rw[hH];exact JU x
 obtain⟨C,hC⟩:∃C,C=bF (nk H) 4:=⟨_,rfl⟩;have aC:C.length=4:=by rw[hC,ay]
 have hB:vG x=H++C:=by unfold vG;rw[hC,hH]
 have dn:n=15+x.body.length+rest.length:=by have:=hr.length;rw[hB]at this;simp only[List.length_map,List.length_append]at this;omega
 have gL:(vG x).length=15+x.body.length:=og x;obtain⟨k8,Ny⟩:∃k8:UInt8,bF x.kind 1=[k8]:=⟨_,rfl⟩;have bS:(k8.toNat:Int)=x.kind:=by
  have G:=Jz 1 x.kind hk.1 (by omega);rw[Ny]at G;simpa[r_]using G
 obtain⟨b0,z,rfl,-,F,bn⟩:=hr.at_ (by omega);obtain⟨K,hK⟩:∃K,K=x.kind:=⟨_,rfl⟩;have q0:w.cell? ⟨b0,z,none⟩=some (.int .u8 K):=by
  have G:=bn 0 (by omega);rw[Nat.add_zero]at G;rw[G,hB,hH];unfold Ru;rw[Ny,hK,<-bS];rfl
 have bT:K=1\/K=2:=by rw[hK];exact h.kind.imp id λ h=>h.1
 obtain⟨N,y⟩:∃N,N=w.alloc (.cells #[.int .i64 0,.int .u64 0,.slice none 0 0] 71):=⟨_,rfl⟩;have O:Below w.heap.size w N:=by rw[y];exact wall w _
 have jm:N.heap.size=w.heap.size+1:=by rw[y];simp
 have av:=hr.below O acs;have q1:(w.alloc (.cells #[.int .i64 0,.int .u64 0,.slice none 0 0] 71)).cell? ⟨b0,z,none⟩=some (.int .u8 K):=by rw[<-y];exact(O.cell (p:=⟨b0,z,none⟩) F).trans q0
 have U:N.heap[w.heap.size]? =some (.cells #[.int .i64 0,.int .u64 0,.slice none 0 0] 71 (0,0)):=by rw[y];exact(MapKept.heap_alloc w _).1
 have HN:=acp (yI N N acu (some ⟨b0,z,none⟩) n c (vG x++rest) (by omega) av);obtain⟨r3,P⟩:∃r3,r3=C++rest:=⟨_,rfl⟩;obtain⟨r2,ak⟩:∃r2,r2=qO x.body++r3:=⟨_,rfl⟩;obtain⟨r1,B⟩:∃r1,r1=bF x.seq 8++r2:=⟨_,rfl⟩;have Wd:acr (vG x++rest=bF x.kind 1++r1):=by
  show vG x++rest=_;rw[B,ak,P,hB,hH];unfold Ru qO;simp only[List.append_assoc]
 have mo:=acp B;have d9:=acp ak;have xR:=acp P;have dI:=acp hC;have iT:=acp hH;have Iz:=acp hB;have aJ:r3.length=4+rest.length:=by rw[P,List.length_append,aC]
 obtain⟨E,hE⟩:∃E,E=11+x.body.length:=⟨_,rfl⟩;have X:=acp av;have aD:=acp O;have pU:=acp U;have fK:=acp y;have cB:E<=n:=by omega
 have jl:E<=c:=by omega
 have e0:(0:Int)<=(E:Int):=by omega
 have ZT:=acp (show H.length=E by omega);have uU:=acp (show((vG x).length:Int)=(E:Int)+4 by omega);have iN:decide ((0:Int)<(n:Int))=true:=aak (by omega);have iE:(0:Int)<(n:Int):=by omega
 have iO:=acp aJ;have dM:acr (wrap64 ((n:Int)-(r3.length:Int))=(E:Int)):=acp (by unfold wrap64;omega);have iD:acr (wrap64 ((E:Int)+4)=(E:Int)+4):=acp (by unfold wrap64;omega);clear aJ hr hK bS Ny bn q0 y O U B ak P hC hH hB fT hE av dn gL;rcases bT with rfl|rfl
 all_goals
  go_enter Tryz.func206,Tryz.ntmps206;go_wp2_with fail;rw[<-fK.o];refine HN.o.mono ?_;rintro e w2 ⟨xr,rfl,hx,aL,Z⟩;have V:=acp ((Z.block w.heap.size (by omega)).trans pU.o);have aN:=acp (X.o.below Z acs);have SX:=acp (JB aL x.kind Wd.o hk.1 (by omega));clear aL Z HN q1;go_wp2_with fail;refine SX.o.mono ?_;rintro e w3 ⟨rfl,JE,dV⟩;have gM:=acp JE;have xI:=acp (tN JE x.seq mo.o hq.1 (by omega));clear JE dV SX;go_wp2_with fail;refine xI.o.mono ?_;rintro e w4 ⟨rfl,Dm,dK⟩;have Gx:=acp (z_ Dm d9.o (by omega));have bf:=acp Dm;clear Dm dK xI gM;go_wp2_with fail;refine Gx.o.mono ?_;rintro e m ⟨a5,J,rfl,dN,BI,Vz,ig⟩;have oD:=acp Vz;have Io:=acp BI;have A:acr (xr<w4.heap.size):=bf.o.at_.lt;clear Vz ig Gx BI bf;go_wp2_with fail;have yL:=acp (oD.o.grow (wall m (.cells #[.int .i64 x.kind,.int .u64 x.seq,.slice a5 x.body.length J] 71)));obtain⟨w6,Kw⟩:∃w6,w6=m.alloc (.cells #[.int .i64 x.kind,.int .u64 x.seq,.slice a5 x.body.length J] 71):=⟨_,rfl⟩;have aB:w6.heap[m.heap.size]? =some (.cells (vw x a5 J) 71 (0,0)):=by rw[Kw];exact(MapKept.heap_alloc m _).1
  have ZM:m.heap.size<w6.heap.size:=(qW.1 aB).1;rw[<-Kw]at yL⊢;have Bq:=acp Kw;have aH:=acp aB;have Mv:=acp (Io.o.below (show Below m.heap.size m w6 by rw[Kw];exact wall m _) acs);have bq:acr (xr<m.heap.size):=oD.o.at_.lt;have iM:acr (N.heap.size<=m.heap.size):=oD.o.below.size;clear Kw aB oD Io;refine(rn_left yL.o).mono ?_;rintro e _ ⟨rfl,rfl⟩;go_wp2_with fail;rw[dM.o];have Ns:acr (Dy 155 #[ptr xr,.int .i64 4] w6 (wo N w6 xr C rest)):=acp (wu yL.o 4 xR.o aC.symm (by omega));refine Ns.o.mono ?_;rintro e D ⟨a7,c7,rfl,Lr,rT,Q0,M⟩;have uW:=acp rT;have Z4:acr (D.heap[m.heap.size]? =some (.cells (vw x a5 J) 71 (0,0))):=acp ((M.block _ ZM (by have:=bq.o;omega)).trans aH.o);have Mw:acr (ah (λ b=>w4.heap.size<=b/\b<m.heap.size) D a5 x.body.length (x.body.map bv)):=Mv.o.kept M.size λ b hb F=>M.block b F λ(e:b=xr)=>by have:=A.o;omega
  have nE:acr (Below w.heap.size w D):=aD.o.trans (Q0.below.mono aD.o.size);have Yg:acr (D.heap[w.heap.size]? =some (.cells #[.int .i64 0,.int .u64 0,.slice none 0 0] 71 (0,0))):=(Q0.below.block w.heap.size (by omega)).trans pU.o;have Q:acr (ah S D (some ⟨b0,z,none⟩) E (H.map bv)):=by
   have G:=(X.o.below Q0.below acs).take E;rw[aa3 cB]at G;have e9:((vG x++rest).map bv).take E=H.map bv:=by
    rw[Iz.o,List.append_assoc,aas,abr (by rw[List.length_map];exact ZT.o)]
   rwa [e9]at G
  have gy:acr (m.heap.size<D.heap.size/\w.heap.size<=w4.heap.size):=⟨(qW.1 Z4.o).1,by have:=A.o;omega⟩;clear rT Q0 M Ns yL aH Mv X V aN pU aD;go_wp2_with fail;have W:∀w':World,Below D.heap.size D w'->(convert 30 9 (.slice a7 4 c7)).run Tryz.prog w'= .ok (.string (strOf C)) w':=λ w' hb=>by
   have G:=gQ (c:=c7) (uW.o.below hb acs)
   rwa [aC]at G
  refine su ((λ w'=>Below D.heap.size D w')) ?_ λ u=> ?_
  ·exact acu.drew
  refine aM 0 u ?_;refine aM 1 u ?_;refine aM 2 u ?_;refine aM 3 u ?_;refine aM 4 u ?_;clear W;have zF:=acp (II (some ⟨b0,z,none⟩) E c H D.drew (Q.o.below u acs) (by omega));refine lJ 5 λ K hK=> ?_;go_simp;refine zF.o.mono ?_;rintro e I ⟨a8,n8,c8,rfl,jc,qQ,jw⟩;have Gd:=acp qQ;have bD:=acp jw;have R:=acp (u.trans (jw.mono u.size));clear qQ jw zF;go_wp2_with fail;refine kV hK (R.o) λ u=> ?_;clear hK K;refine oz (S':=λ w'=>Below I.heap.size I w') (λ w' h=>R.o.trans (h.mono R.o.size)) _ _ _ _ ?_;clear u;have u:Below I.heap.size I I:=Below.refl _ _;have W:∀w':World,Below I.heap.size I w'->(convert 30 9 (.slice a8 n8 c8)).run Tryz.prog w'= .ok (.string (strOf C)) w':=λ w' hb=>by
   rw[dI.o];exact gQ (c:=c8) (Gd.o.below hb acs)
  refine aM 6 u ?_;refine aM 7 u ?_;refine aM 8 u ?_;clear W u;refine rH ?_;have Z5:acr (I.heap[m.heap.size]? =some (.cells (vw x a5 J) 71 (0,0))):=(R.o.block _ gy.o.1).trans Z4.o;have Yh:acr (I.heap[w.heap.size]? =some (.cells #[.int .i64 0,.int .u64 0,.slice none 0 0] 71 (0,0))):=(R.o.block _ (qW.1 Yg.o).1).trans Yg.o;have Rw:=acp (Mw.o.below R.o acs);have qY:=acp (nE.o.trans (R.o.mono nE.o.size));clear Z4 Yg Mw nE uW Gd Q R bD;obtain⟨c0,c1,c2⟩:=wQ Z5.o;go_wp2_with fail;refine(pE.o a5 J I).mono ?_;rintro e w9 ⟨rfl,dG⟩;have CP:acr (w9.heap[m.heap.size]? =some (.cells (vw x a5 J) 71 (0,0))):=(dG.block _ (qW.1 Z5.o).1).trans Z5.o;have Rx:acr (w9.heap[w.heap.size]? =some (.cells #[.int .i64 0,.int .u64 0,.slice none 0 0] 71 (0,0))):=(dG.block _ (qW.1 Yh.o).1).trans Yh.o;have Y:=acp (Rw.o.below dG acs);have pK:=acp (qY.o.trans (dG.mono qY.o.size));clear dG Z5 Yh Rw qY c0 c1 c2;obtain⟨c0,c1,c2⟩:=wQ CP.o;go_wp2_with (refine aj (by rfl) 71 _ _ (by rfl) w.heap.size (vw x a5 J) (by rfl) (by rfl) _ Rx.o Ye rfl (rcC_one _ _ _) ?_;intro wA aF;have aA:=acp aF;clear aF c0 c1 c2);refine ret_rec rfl rfl rfl rfl rfl aA.o.1 rfl ?_;have hk:=aA.o.2.1;have h4:=A.o;refine⟨a5,J,by rw[uU.o];rfl,dN,?_,aA.o.below pK.o acs⟩;have h5:=(qW.1 CP.o).1;have hz:=hk.size;exact(Y.o.kept hk.size λ b hb F=>hk.block b F λ(e:b=w.heap.size)=>by omega).mono λ b hb=>⟨by omega,by omega⟩
def Uv(Q:Nat->Prop)(w:World)(vs:List Value)(x:RecM):Prop:=∃a c,vs=[.int .i64 x.kind,.int .u64 x.seq,.slice a x.body.length c]/\x.body.length<=c/\ah Q w a x.body.length (x.body.map bv)
def iU(Q:Nat->Prop)(w:World):List Value->List RecM->Prop
 |vs,[]=>vs=[]
 |vs,x::r=>∃u m,vs=u++m/\Uv Q w u x/\iU Q w m r
theorem Uv.imp{Q m:Nat->Prop}{w w':World}(f:∀a n (l:I8),ah Q w a n (l.map bv)->ah m w' a n (l.map bv)){vs:List Value}{x:RecM}(h:Uv Q w vs x):Uv m w' vs x:=by
 obtain⟨a,c,z,u,y⟩:=h;exact⟨a,c,z,u,f _ _ _ y⟩
theorem iU.imp{Q m:Nat->Prop}{w w':World}(f:∀a n (l:I8),ah Q w a n (l.map bv)->ah m w' a n (l.map bv)):∀{vs:List Value} {l:List RecM},iU Q w vs l->iU m w' vs l
 |_,[],h=>h
 |_,x::r,⟨A,y,B,u,z⟩=>⟨A,y,B,u.imp f,iU.imp f z⟩
theorem iU.below{Q:Nat->Prop}{w w':World}{vs:List Value}{l:List RecM}(h:iU Q w vs l)(u:Below w.heap.size w w'):iU Q w' vs l:=h.imp λ _ _ _ m=>m.below u acs
theorem iU.low{Q:Nat->Prop}{w:World}{vs:List Value}{l:List RecM}(h:iU Q w vs l):iU (λ b=>b<w.heap.size) w vs l:=h.imp λ _ _ _ m=>fB m
theorem Uv.len{Q:Nat->Prop}{w:World}{vs:List Value}{x:RecM}(h:Uv Q w vs x):vs.length=3:=by
 obtain⟨a,c,m,_⟩:=h;rw[m];rfl
theorem iU.len{Q:Nat->Prop}{w:World}:∀{vs:List Value} {l:List RecM},iU Q w vs l->vs.length=l.length*3
 |_,[],h=>by have m:_=[]:=h;rw[m];rfl
 |_,x::r,⟨A,z,m,u,y⟩=>by
  rw[m,List.length_append,u.len,y.len,List.length_cons];omega
theorem iU.append{Q:Nat->Prop}{w:World}:∀{vs y:List Value} {l m:List RecM},iU Q w vs l->iU Q w y m->iU Q w (vs++y) (l++m)
 |_,_,[],_,h,k=>by have u:_=[]:=h;rw[u];exact k
 |_,_,x::r,_,⟨C,A,u,z,B⟩,k=>⟨C,A++_,by rw[u,List.append_assoc],z,B.append k⟩
theorem iU.one{Q:Nat->Prop}{w:World}:∀{vs:List Value} {l:List RecM},iU Q w vs l->∀u∈vs,u.oneCell'=true
 |_,[],h=>by have y:_=[]:=h;rw[y];intro u m;cases m
 |_,x::r,⟨C,B,y,⟨a,c,z,_⟩,A⟩=>by
  rw[y,z];intro u m;rcases aaA.1 m with m|m
  ·simp only[List.mem_cons,aaX,abM]at m;rcases m with rfl|rfl|rfl<;>rfl
  ·exact A.one u m
theorem iU.at_{Q:Nat->Prop}{w:World}:∀{vs:List Value} {l:List RecM} {k:Nat} {x:RecM},iU Q w vs l->l[k]? =some x->∃a c,vs[k*3]? =some (.int .i64 x.kind)/\vs[k*3+1]? =some (.int .u64 x.seq)/\vs[k*3+2]? =some (.slice a x.body.length c)/\x.body.length<=c/\ah Q w a x.body.length (x.body.map bv)
 |_,[],k,x,_,m=>by simp at m
 |_,y::r,0,x,⟨H,G,A,z,E⟩,m=>by
  have B:y=x:=aat m;subst B;obtain⟨a,c,C,D,u⟩:=z;subst C A;exact⟨a,c,rfl,rfl,rfl,D,u⟩
 |_,y::r,k+1,x,⟨H,G,A,z,E⟩,m=>by
  obtain⟨a,c,C,D,u,F⟩:=iU.at_ E (k:=k) (x:=x) (by simpa using m);have I:=z.len;subst A;refine⟨a,c,?_,?_,?_,F⟩
  ·rw[aax (by omega),<-C];congr 1;omega
  ·rw[aax (by omega),<-D];congr 1;omega
  ·rw[aax (by omega),<-u];congr 1;omega
structure qC(Q:Nat->Prop)(w:World)(a:Mx)(n:Nat)(l:List RecM):Prop where
 at_:∃vals,ah Q w a (n*3) vals/\iU Q w vals l
theorem qC.len{Q:Nat->Prop}{w:World}{a:Mx}{n:Nat}{l:List RecM}(h:qC Q w a n l):l.length=n:=by
 obtain⟨m,y,u⟩:=h.at_;have A:=u.len;have z:=y.length;omega
theorem qC.below{Q:Nat->Prop}{w w':World}{a:Mx}{n:Nat}{l:List RecM}(h:qC Q w a n l)(u:Below w.heap.size w w'):qC Q w' a n l:=by
 obtain⟨m,z,y⟩:=h.at_;exact⟨m,z.below u acs,y.below u⟩
theorem qC.low{Q:Nat->Prop}{w:World}{a:Mx}{n:Nat}{l:List RecM}(h:qC Q w a n l):qC (λ b=>b<w.heap.size) w a n l:=by
 obtain⟨m,y,u⟩:=h.at_;exact⟨m,fB y,u.low⟩
theorem qC.cells{Q:Nat->Prop}{w:World}{a:Mx}{n:Nat}{l:List RecM}(h:qC Q w a n l){k:Nat}{x:RecM}(F:l[k]? =some x):∃g m C D,a=some ⟨g,m,none⟩/\g<w.heap.size/\x.body.length<=D/\ah Q w C x.body.length (x.body.map bv)/\∀u,Below w.heap.size w u->u.cell? ⟨g,m+k*3,none⟩=some (.int .i64 x.kind)/\u.cell? ⟨g,m+k*3+1,none⟩=some (.int .u64 x.seq)/\u.cell? ⟨g,m+k*3+2,none⟩=some (.slice C x.body.length D):=by
 have M:=(aaj.1 F).1;have O:=h.len;obtain⟨G,J,I⟩:=h.at_;obtain⟨C,D,H,K,N,A,B⟩:=I.at_ F;obtain⟨g,m,rfl,-,z,y⟩:=J.at_ (by omega);refine⟨g,m,C,D,rfl,z,A,B,λ u E=>⟨?_,?_,?_⟩⟩
 ·exact(E.cell (p:=⟨g,m+k*3,none⟩) z).trans ((y (k*3) (by omega)).trans H)
 ·exact(E.cell (p:=⟨g,m+k*3+1,none⟩) z).trans ((y (k*3+1) (by omega)).trans K)
 ·exact(E.cell (p:=⟨g,m+k*3+2,none⟩) z).trans ((y (k*3+2) (by omega)).trans N)
def aU(n:Nat):Array Value:= #[.int .i64 (n:Int),.int .i64 ((n:Int)/4),.int .i64 (((n:Int)-1-2*((n:Int)/4))/8)]
theorem BS:(Tryz.prog.info? 58).map (·.size)=some 3:=by kernel_rfl
theorem Uw(n:Nat):(aU n).all (·.oneCell')=true:=by simp[aU,Value.oneCell']
theorem Yi{y:Func}{A u:Nat}{Q:Ending->World->Prop}{a:Act}{w:World}{b:Nat}{m:Array Value}{z:Value}(G:y.results= #[.cell A 58,.tmp u])(D:a.tmps.getD A undef= .pointer (some ⟨b,0,none⟩))(B:a.tmps.getD u undef=z)(C:a.defers=[])(E:w.heap[b]? =some (.cells m 58 (0,0)))(H:m.size=3)(F:Q (.returned (.tuple #[.agg m,z])) w):
  bodyPost Tryz.prog y Q .ret a w:=by
 subst B;exact aav (v:= .tuple #[.agg m,a.tmps.getD u undef]) (jX G D (aaS w b 58 58 _ (0,0) _ E Tryz.underlying58 rfl (by rw[H];exact BS))) C F
theorem xL(n:Nat)(u:64<=n)(B:n<=4096)(w:World):Dy 33 #[.int .i64 (n:Int)] w λ e w'=>e= .returned (.tuple #[.agg (aU n),.int .i64 0])/\Below w.heap.size w w':=by
 have y:decide ((n:Int)<64)=false:=aad (by omega);have z:decide ((4096:Int)<(n:Int))=false:=aad (by omega);have m:¬n<64:=by omega
 have A:¬4096<n:=by omega
 go_enter Tryz.func33,Tryz.ntmps33;go_wp2_with fail;exact Yi rfl rfl rfl rfl (MapKept.heap_alloc w _).1 rfl ⟨rfl,wall w _⟩
theorem dL{w:World}{n b:Nat}(h:w.heap[b]? =some (.cells (aU n) 58 (0,0))):w.cell? ⟨b,0,none⟩=some (.int .i64 (n:Int))/\w.cell? ⟨b,1,none⟩=some (.int .i64 ((n:Int)/4))/\w.cell? ⟨b,2,none⟩=some (.int .i64 (((n:Int)-1-2*((n:Int)/4))/8)):=by
 refine⟨?_,?_,?_⟩<;>simp[World.cell?,h,aU]
theorem jO(n:Nat)(M:64<=n)(K:n<=4096)(w:World):Dy 161 #[.agg (aU n)] w λ e w'=>e= .returned (.bool true)/\Below w.heap.size w w':=by
 have G:=acp (λ w'=>xL n M K w');obtain⟨z,m⟩:∃z,z=w.alloc (.cells (aU n) 58):=⟨_,rfl⟩;have D:acr (Below w.heap.size w z):=by rw[m];exact wall w _
 have y:z.heap[w.heap.size]? =some (.cells (aU n) 58 (0,0)):=by rw[m];exact(MapKept.heap_alloc w _).1
 have N:=acp y;have A:=acp m;have C:=(qW.1 y).1;unfold aU at G A⊢;clear m y;go_enter Tryz.func161,Tryz.ntmps161;go_wp2_with fail;rw[<-A.o];refine(G.o z).mono ?_;rintro e E ⟨rfl,u⟩;have B:=acp (D.o.trans (u.mono D.o.size));have F:w.heap.size<E.heap.size:=Pd C u.size;obtain⟨I,J,H⟩:=dL (((wall E (.cells (aU n) 58)).block _ F).trans ((u.block _ C).trans N.o));unfold aU at I J H;clear u;go_wp2_with fail;go_ret;exact⟨rfl,B.o.trans ((wall E _).mono B.o.size)⟩
theorem PX(n:Nat)(I:64<=n)(H:n<=4096)(i:Int)(U:0<=i)(F:i<((n:Int)-1-2*((n:Int)/4))/8)(w:World):Dy 151 #[.agg (aU n),.int .i64 i] w λ e w'=>e= .returned (.tuple #[.int .i64 (1+2*((n:Int)/4)+i*8),.int .i64 0])/\Below w.heap.size w w':=by
 have E:=acp (λ w'=>jO n I H w');obtain⟨z,m⟩:∃z,z=w.alloc (.cells (aU n) 58):=⟨_,rfl⟩;have A:acr (Below w.heap.size w z):=by rw[m];exact wall w _
 have u:z.heap[w.heap.size]? =some (.cells (aU n) 58 (0,0)):=by rw[m];exact(MapKept.heap_alloc w _).1
 have K:=acp u;have B:=acp m;have C:=(qW.1 u).1;unfold aU at E B⊢;clear m u;have P:decide (i<0)=false:=aad (by omega);have Q:decide (((n:Int)-1-2*((n:Int)/4))/8<=i)=false:=aad (by omega);have N:(n:Int)/4<=1024/\0<=(n:Int)/4:=by omega
 have G:i<=512:=by omega
 obtain⟨q,J⟩:∃q,q=(n:Int)/4:=⟨_,rfl⟩;go_enter Tryz.func151,Tryz.ntmps151;go_wp2_with fail;rw[<-B.o];refine(E.o z).mono ?_;rintro e M ⟨rfl,y⟩;have D:=acp (A.o.trans (y.mono A.o.size));obtain⟨R,S,O⟩:=dL ((y.block _ C).trans K.o);clear y;go_wp2_with fail
 go_ret2
 exact⟨rfl,D.o⟩
theorem uw(n:Nat)(H:64<=n)(G:n<=4096)(k:Int)(F:k=0\/k=1)(w:World):Dy 94 #[.agg (aU n),.int .i64 k] w λ e w'=>e= .returned (.tuple #[.int .i64 (1+k*((n:Int)/4)),.int .i64 0])/\Below w.heap.size w w':=by
 have E:=acp (λ w'=>jO n H G w');obtain⟨z,m⟩:∃z,z=w.alloc (.cells (aU n) 58):=⟨_,rfl⟩;have B:acr (Below w.heap.size w z):=by rw[m];exact wall w _
 have u:z.heap[w.heap.size]? =some (.cells (aU n) 58 (0,0)):=by rw[m];exact(MapKept.heap_alloc w _).1
 have I:=acp u;have A:=acp m;have C:=(qW.1 u).1;unfold aU at E A⊢;clear m u;have K:(n:Int)/4<=1024/\0<=(n:Int)/4:=by omega
 rcases F with rfl|rfl
 all_goals
  go_enter Tryz.func94,Tryz.ntmps94;go_wp2_with fail;rw[<-A.o];refine(E.o z).mono ?_;rintro e J ⟨rfl,y⟩;have D:=acp (B.o.trans (y.mono B.o.size));obtain⟨N,O,M⟩:=dL ((y.block _ C).trans I.o);clear y;go_wp2_with fail
  go_ret2
  refine⟨?_,D.o⟩
  first
  |rfl
  |(rw[Int.zero_mul,Int.add_zero];rfl)
  |(rw[Int.one_mul];rfl)
def uy(n:Nat):Nat->Nat->Nat
 |0,k=>k
 |f+1,k=>if k+k<n then uy n f (k+k)else k
def CY(n:Nat):Nat:=uy n n 1
theorem IJ(n:Nat):∀(f k:Nat),1<=k->k<n->1<=uy n f k/\uy n f k<n
 |0,k,h,u=>⟨h,u⟩
 |f+1,k,h,u=>by
  unfold uy;by_cases m:k+k<n
  ·rw[if_pos m];exact IJ n f (k+k) (by omega) m
  ·rw[if_neg m];exact⟨h,u⟩
theorem Yj{n:Nat}(h:2<=n):1<=CY n/\CY n<n:=IJ n n 1 acs (by omega)
theorem PY{n f k:Nat}(h:¬k+k<n):uy n f k=k:=by cases f<;>simp[uy,h]
theorem Ux(n:Nat)(J:n<=1000000)(w:World):Dy 203 #[.int .i64 (n:Int)] w λ e w'=>e= .returned (.int .i64 (CY n:Int))/\w=w':=by
 obtain⟨P,z⟩:∃P,P=CY n:=⟨_,rfl⟩;rw[<-z];have G:=acp z;clear z;go_enter Tryz.func203,Tryz.ntmps203;go_wp2_with fail
 go_loopw [3] (λ v wr=>∃k f:Nat,v= .int .i64 (k:Int)/\1<=k/\k<=1000000/\n<=f+k/\uy n f k=CY n/\w=wr) (λ v _=>n-(intOf v).toNat)
 case atStart=>exact⟨1,n,rfl,Nat.le_refl _,by omega,by omega,rfl,rfl⟩
 case round=>
  obtain⟨k,f,rfl,E,F,A,y,rfl⟩:=hrel;have K:=acp E;have B:=acp A;have m:=acp y;by_cases u:k+k<n
  ·have D:decide ((k:Int)<(n:Int)-(k:Int))=true:=aak (by omega);have H:(k:Int)<(n:Int)-(k:Int):=by omega
   clear y A;go_wp2_with fail;go_roundw
   case rel=>
    obtain⟨g,rfl⟩:∃g,f=g+1:=⟨f-1,by have:=B.o;omega⟩;refine⟨k+k,g,by go_num,by omega,by omega,by have:=B.o;omega,?_,trivial⟩;have C:=m.o;rw[uy,if_pos u]at C;exact C
   case measure=>simp[intOf];omega
  ·have D:decide ((k:Int)<(n:Int)-(k:Int))=false:=aad (by omega);have H:¬(k:Int)<(n:Int)-(k:Int):=by omega
   have I:P=k:=by rw[G.o,<-m.o];exact PY u
   clear y A;go_wp2_with fail;go_ret;exact⟨rfl,Eq.refl _⟩
