/- package -/
import Derived.Test.YthillkfmdndedaaGreatDoorM31
set_option maxRecDepth 100000
set_option maxHeartbeats 64000000
set_option linter.all false
namespace Go.Proofs.YthillkfmdndedaaGreatDoor
open Go.ChangeShapes Go.WideShapes Go.ChangeAt Go.RowKit
def Wrote2(B x:Nat)(w:World)(h:List Int)(N:Nat)(lb:I8)(e:Ending)(w':World):Prop:=
 e= .returned (.tuple #[])/\∃v,w'.heap[x]? =some (.cells (bY (runM h (lb.length/64) lb) v N) 334 (0,0))/\w'.ownsRow B 5 1 v (lb.length%64) ((lb.drop (64*(lb.length/64))).map bv)/\Below B w w'
def WMid(S:Nat->Prop)(B x:Nat)(w:World)(h:List Int)(N:Nat)(lb:I8)(E:Value)(u:World):Prop:=
 ∃y C z m D A,E= .slice D (m:I8).length A/\m.length<=A/\m.length<=lb.length/\ah S u D m.length (m.map bv)/\u.heap[x]? =some (.cells (bY y (.slice C 0 z) N) 334 (0,0))/\y.length=8/\u.ownsRow B 5 1 (.slice C 0 z) 0 []/\Below B w u/\
  runM h (lb.length/64) lb=runM y (m.length/64) m/\lb.drop (64*(lb.length/64))=m.drop (64*(m.length/64))/\lb.length%64=m.length%64
theorem own_ne{w:World}{B x:Nat}{a:Mx}{n c:Nat}{l:List Value}{C:Array Value}(h:w.ownsRow B 5 1 (.slice a n c) n l)(y:w.heap[x]? =some (.cells C 334 (0,0))):(Value.slice a n c).ownBlock≠some x:=by
 intro m;rcases h.2 with⟨e,_⟩|⟨g,z,A,e,_,u,_⟩
 ·rw[e]at m;simp[Value.ownBlock]at m
 ·rw[e]at m;simp only[Value.ownBlock,aae]at m;subst m;rw[y]at u;have:=aaK (λ o=>match o with|some (Obj.cells _ t _)=>t|_=>0) u;simp at this
theorem Yk{w:World}{B:Nat}{e:TypeId}{a:Mx}{n c:Nat}{xs:List Value}(h:w.ownsRow B e 1 (.slice a n c) n xs):w.ownsRow B e 1 (.slice a 0 c) 0 []:=by
 rcases h.2 with⟨m,y⟩|⟨g,C,u,m,y,z,E,A,D,F⟩
 ·cases m;exact⟨rfl,.inl ⟨rfl,rfl⟩⟩
 ·cases m;exact⟨rfl,.inr ⟨g,_,u,rfl,y,z,Nat.zero_le _,A,D,by simp⟩⟩
theorem PZ{S:Nat->Prop}(B x:Nat)(h:List Int)(l F:I8)(N:Nat)(av:Mx)(cv:Nat)(a:Mx)(n c:Nat)(w:World)(V:h.length=8)(hx:w.heap[x]? =some (.cells (bY h (.slice av l.length cv) N) 334 (0,0)))(Z6:B<=x)(hv:w.ownsRow B 5 1 (.slice av l.length cv) l.length (l.map bv))(hl:l.length<64)(hr:ah S w a n (F.map bv))(z:∀b,S b->b<B)(Y:B<=w.heap.size)(hn:n<=100000000)(hN:N<=100000000)(nR:n<=c):
  Dy 209 #[ptr x,.slice a n c] w (Wrote2 B x w h (N+n) (l++F)):=by
 obtain⟨i8,hi⟩:∃i,Tryz.prog.info? 5=some i/\i.zero=some (.int .u8 0)/\i.size=1/\i.bytes=1:=aaq (by kernel_rfl);have HI:=acp hi;have oD:=(qW.1 hx).1;have lX:=own_ne hv hx;have d9:w.cell? ⟨x,73,none⟩=some (.int .i64 N):=by simp only[World.cell?,hx];exact st_n V _ _
 have bD:w.frozen? ⟨x,73,none⟩=false:=by simp[World.frozen?,hx]
 have gM:(w.setCell ⟨x,73,none⟩ (.int .i64 ((N:Int)+n))).heap[x]? =some (.cells (bY h (.slice av l.length cv) ((N:Int)+n)) 334 (0,0)):=by
  rw[aG hx,LJ V]
 have Xl:(w.setCell ⟨x,73,none⟩ (.int .i64 ((N:Int)+n))).cell? ⟨x,72,none⟩=some (.slice av l.length cv):=by simp only[World.cell?,gM];exact tX V _ _
 have ig:Keeps (λ b=>b=x) w (w.setCell ⟨x,73,none⟩ (.int .i64 ((N:Int)+n))):=Keeps.jy w ⟨x,73,none⟩ _;have bS:acr (ah S (w.setCell ⟨x,73,none⟩ (.int .i64 ((N:Int)+n))) a n (F.map bv)):=hr.move (by rw[size_set];exact Nat.le_refl _) λ b A u=>⟨A,aI _ _ _ _ (by have:=z b A;show b≠x;omega)⟩;have aB:acr ((w.setCell ⟨x,73,none⟩ (.int .i64 ((N:Int)+n))).ownsRow B 5 1 (.slice av l.length cv) l.length (l.map bv)):=bK hv λ b A u=>aI _ _ _ _ λ(e:b=x)=>lX (e▸A);have qP:=acp gM;have iD:=acp (ig.bS Y λ y hy (e:y=x)=>by omega);have HS:=acp z;have l7:F.length=n:=by simpa using hr.length
 have uU:=acp l7;have H8:=acp V;have e0:(N:Int)+n<=200000000:=by omega
 have e1:0<=(N:Int)+n:=by omega
 clear hi hx gM hr z ig l7 V hv lX;obtain⟨M,iM⟩:∃M:Nat,M=N+n:=⟨_,rfl⟩;have Uq:acr (((M:Nat):Int)=(N:Int)+n):=acp (by omega);rw[<-iM];obtain⟨lb,C⟩:∃lb,lb=l++F:=⟨_,rfl⟩;rw[<-C];have aC:=acp C;have o9:lb.length<=200000000:=by rw[C,List.length_append,uU.o];omega
 clear iM C;go_enter Tryz.func209,Tryz.ntmps209;go_upto_if 19 with(fail);have mR:(w.setCell ⟨x,73,none⟩ (.int .i64 ((N:Int)+n))).heap.size=w.heap.size:=size_set _ _ _;generalize w.setCell ⟨x,73,none⟩ (.int .i64 ((N:Int)+n))=w1 at*;have kg:=acp mR;have jv:=Uq.o;rw[<-jv]at qP;clear mR jv
 go_cut [1]from 4 to 67 (λ v wx=>WMid S B x w h M lb v wx)
 case first=>
  by_cases gL:l.length=0
  ·obtain rfl:l=[]:=aac gL;clear Xl d9 bD;go_wp2_with fail
   go_meet
   have C:lb=F:=by rw[aC.o];rfl
   subst C;exact⟨h,av,cv,lb,a,c,by rw[uU.o],by rw[uU.o];exact nR,Nat.le_refl _,by rw[uU.o];exact bS.o,qP.o,H8.o,aB.o,iD.o,rfl,rfl,rfl⟩
  ·obtain⟨r,hr⟩:∃r,r=l.length:=⟨_,rfl⟩;rw[<-hr]at aB qP Xl hl gL⊢;have HR:=acp hr;have d0:decide (0<r)=true:=aak (by omega);have d1:decide ((0:Int)<(r:Int))=true:=aak (by omega);have r0:0<r:=by omega
   clear hr gL;obtain⟨k,hk⟩:∃k:Nat,(k:Int)=min (n:Int) (64-(r:Int)):=⟨min n (64-r),by omega⟩;have HK:=acp hk;have i0:(0:Int)<=(k:Int):=by omega
   have i1:(k:Int)<=(n:Int):=by omega
   have i2:(n:Int)<=(c:Int):=by omega
   have i3:(k:Int)<=(c:Int):=by omega
   have GD:r+k<=64:=by omega
   clear hk;go_upto_region 3 with(fail);rw[<-HK.o];have dM:w1.frozen? ⟨x,72,none⟩=false:=by simp[World.frozen?,qP.o]
   have aA:B<=w1.heap.size:=by rw[kg.o];exact Y
   have jo:x<w1.heap.size:=by rw[kg.o];exact oD
   have om:=acp (own_ne aB.o qP.o);have Gi:acr (w1.drew.ownsRow B 5 1 (.slice av r cv) r (l.map bv)):=bK aB.o λ b A u=>rfl;have pE:acr (ah S w1.drew a k ((F.take k).map bv)):=by
    have G:=(bS.o.take k).below acu.drew acs
    rwa [aa3 (by omega),<-aaJ]at G
   refine vJ 11 ((λ w'=>w'.cell? ⟨x,72,none⟩=some (.slice av r cv)/\w'.frozen? ⟨x,72,none⟩=false)) ?_ λ z=> ?_
   ·exact⟨Xl,dM⟩
   refine aO 0 z ?_;refine aO 1 z ?_;refine aO 2 z ?_;refine aO 3 z ?_;refine aO 4 z ?_;refine aO 5 z ?_;refine aO 6 z ?_;refine aO 7 z ?_;refine cu 8 λ K hK=> ?_;refine dZ (by rfl) (.tmp 33) (.tmp 36) 30 (by rfl) B 5 i8 _ 1 1 Tryz.underlying30 HI.o.1 HI.o.2.1 HI.o.2.2.1 HI.o.2.2.2 rfl (by omega) _ r (l.map bv) (by rfl) Gi.o a k c ((F.take k).map bv) (by rfl) (ES pE.o) (jA _) (by unfold maxLen;omega) (by omega) aA ?_;intro D c9 E sF Gh JH;have Bw:E.heap[x]? =w1.heap[x]? :=Gh.block x jo om.o.symm;have CP:=acp Bw;have ZR:=acp sF;have J:=acp Gh;have q9:E.cell? ⟨x,72,none⟩=some (.slice av r cv):=(World.cell?_of_block (w:=w1) (w':=E) (a:=⟨x,72,none⟩) Bw).trans Xl;have f9:E.frozen? ⟨x,72,none⟩=false:=(by simp[World.frozen?,Bw,qP.o]);clear sF Gh JH Bw;refine b_ hK (⟨q9,f9⟩) λ z=> ?_;clear hK K;refine aO 9 z ?_;refine aO 10 z ?_;refine cu 11 λ K hK=> ?_;go_simp;refine o_ hK ?_;clear z hK K;have S9:(E.setCell ⟨x,72,none⟩ (.slice D (r+k) c9)).heap[x]? =some (.cells (bY h (.slice D (r+k) c9) M) 334 (0,0)):=by
    rw[aG (CP.o.trans qP.o),Ag H8.o]
   have aN:(E.setCell ⟨x,72,none⟩ (.slice D (r+k) c9)).ownsRow B 5 1 (.slice D (r+k) c9) (r+k) ((l++F.take k).map bv):=by
    rw[aas];exact bK ZR.o λ b A u=>aI _ _ _ _ λ(e:b=x)=>own_ne ZR.o (CP.o.trans qP.o) (e▸A)
   have SY:Below B w (E.setCell ⟨x,72,none⟩ (.slice D (r+k) c9)):=by
    have h1:Below B w1 E:=acu.drew.trans ((Keeps.grown J.o).bS aA λ y hy hk=>by have:=aZ Gi.o y hk;omega);exact(iD.o.trans h1).trans ((Keeps.jy E ⟨x,72,none⟩ _).bS (Nat.le_trans aA h1.size) λ y hy (e:y=x)=>by omega)
   have bf:ah S (E.setCell ⟨x,72,none⟩ (.slice D (r+k) c9)) a n (F.map bv):=by
    refine(bS.o.kept (w':=E) J.o.size λ b A u=>J.o.block b u λ e=> ?_).kept (by rw[size_set];exact Nat.le_refl _) λ b A u=>aI _ _ _ _ ?_
    ·have:=aZ Gi.o b e.symm;have:=HS.o b A;omega
    ·have:=HS.o b A;show b≠x;omega
   generalize (E.setCell ⟨x,72,none⟩ (.slice D (r+k) c9))=AO at*;have Uy:=acp S9;have Uz:=acp aN;have Xb:=acp SY;have aF:=acp bf;have dV:AO.cell? ⟨x,72,none⟩=some (.slice D (r+k) c9):=by simp only[World.cell?,S9];exact tX H8.o _ _
   clear S9 aN SY bf q9 f9 Xl dM d9 bD ZR J CP pE Gi;by_cases hA:r+n<64
   ·obtain rfl:k=n:=by have:=HK.o;omega
    have d2:decide (((r+k:Nat):Int)<64)=true:=aak (by omega);have d3:decide ((r:Int)+(k:Int)<64)=true:=aak (by omega);have d4:r+k<64:=hA;have dN:lb.length/64=0/\lb.length%64=r+k/\l++F.take k=lb:=by
     have G:lb.length=r+k:=by rw[aC.o,List.length_append,<-HR.o,uU.o]
     exact⟨by omega,by omega,by rw[aC.o,List.take_of_length_le (by rw[uU.o];exact Nat.le_refl _)]⟩
    have Kr:=acp dN;clear dN;go_wp2_with fail
    all_goals
     go_end0
     obtain⟨l1,l2,l3⟩:=Kr.o;refine⟨rfl,.slice D (r+k) c9,?_,?_,Xb.o⟩
     ·rw[l1];exact Uy.o
     ·rw[l2,l1];have G:=Uz.o;rw[l3]at G;exact G
   ·have JG:r+k=64:=by have:=HK.o;omega
    rw[JG]at Uy Uz dV⊢;have dI:x<AO.heap.size:=(qW.1 Uy.o).1;have X:AO.drew.heap[x]? =some (.cells (h.map gU++(kM.map gU++[Value.slice D 64 c9,Value.int .i64 M])).toArray 334 (0,0)):=by
     have G:=Uy.o;unfold bY at G;exact G
    have R:∀i,i<64->AO.drew.cell? ⟨x,8+i,none⟩=some (gU (kM.getD i 0)):=λ i hi=>by
     have G:=st_k H8.o (.slice D 64 c9) M i hi;show AO.cell? ⟨x,8+i,none⟩=_;simp only[World.cell?,Uy.o];exact G
    obtain⟨d,hd⟩:∃d,d=l++F.take k:=⟨_,rfl⟩;rw[<-hd]at Uz;have HD:=acp hd;have mU:d.length=64:=by rw[hd,List.length_append,<-HR.o,List.length_take,uU.o];omega
    have aH:=(ah.mU Uz.o).2;have Dj:64<=c9:=by
     obtain⟨a1,c1,e1,e2⟩:=bg Uz.o;cases e1;exact e2
    have HT:=acp (Af x x 8 334 h (kM.map gU++[Value.slice D 64 c9,Value.int .i64 M]) D 64 c9 d AO.drew H8.o X R dI (aH.below acu.drew acs) acs Dj);have Ou:=acp mU;have o8:=acp JG;clear X R hd mU aH JG;go_upto_region 6 with(fail);obtain⟨ak,fK⟩:∃ak,ak=(if c=k then a else Option.map (λ x=>x.add k) a):=⟨_,rfl⟩;rw[<-fK];have OU:acr (ah S AO ak (n-k) ((F.drop k).map bv)):=by
     show ah S AO ak (n-k) ((F.drop k).map bv);by_cases nP:n<=k
     ·exact ah.zero _ _ _ (by omega) (by rw[aay (by rw[uU.o];exact nP)];rfl)
     ·have G:=aF.o;obtain⟨b,oC,rfl,-,-,-⟩:=G.at_ (by omega);rw[fK,if_neg (by omega),aaU,aao,add_plain];exact G.drop k
    have nA:acr (n-k<=c-k):=acp (by omega);clear fK aF;refine vJ 10 ((λ w'=>w'.cell? ⟨x,72,none⟩=some (.slice D 64 c9))) ?_ λ z=> ?_
    ·exact dV
    refine aO 0 z ?_;refine aO 1 z ?_;refine aO 2 z ?_;refine aO 3 z ?_;refine aO 4 z ?_;refine aO 5 z ?_;refine aO 6 z ?_;refine aO 7 z ?_;refine aO 8 z ?_;refine aO 9 z ?_;refine cu 10 λ K hK=> ?_;go_simp;refine HT.o.mono ?_;rintro e I ⟨rfl,bn,aJ⟩;have Z:acr (I.heap[x]? =some (.cells (bY (kK h d) (.slice D 64 c9) M) 334 (0,0))):=bn;have mY:=acp aJ;clear bn aJ dV;go_wp2_with fail;refine o_ hK ?_;clear z hK K;have dn:(kK h d).length=8:=qy h d H8.o;have pF:I.cell? ⟨x,72,none⟩=some (.slice D 64 c9):=by simp only[World.cell?,Z.o];exact tX dn _ _
    have f11:I.frozen? ⟨x,72,none⟩=false:=by simp[World.frozen?,Z.o]
    have lN:=acp dn;clear dn;go_wp2_with fail
    go_meet
    have C:lb=d++F.drop k:=by rw[aC.o,HD.o,List.append_assoc,aaT]
    have dN:lb.length=64+(F.drop k).length:=by rw[C,List.length_append,Ou.o]
    have lI:∀b,S b->b≠x:=λ b A=>by have:=HS.o b A;omega
    have O:=mY.o;refine⟨kK h d,D,c9,F.drop k,ak,c-k,by rw[List.length_drop,uU.o],by rw[List.length_drop,uU.o];exact nA.o,by omega,?_,?_,lN.o,?_,?_,?_,?_,by omega⟩
    ·rw[List.length_drop,uU.o];exact(OU.o.kept (w':=I) O.size λ b A u=>O.block b u (lI b A)).kept (by rw[size_set];exact Nat.le_refl _) λ b A u=>aI _ _ _ _ (lI b A)
    ·rw[aG Z.o,Ag lN.o]
    ·have ho:=Uz.o;have jw:=own_ne ho Uy.o;have lC:I.ownsRow B 5 1 (.slice D 64 c9) 64 (d.map bv):=bK ho λ b A u=>O.block b u λ(e:b=x)=>jw (e▸A);exact Yk (bK lC λ b A u=>aI _ _ _ _ λ(e:b=x)=>jw (e▸A))
    ·have jc:B<=AO.heap.size:=Nat.le_trans Y Xb.o.size;have h1:Below B AO I:=acu.drew.trans (O.bS jc λ y hy (e:y=x)=>by omega);exact(Xb.o.trans h1).trans ((Keeps.jy I ⟨x,72,none⟩ _).bS (Nat.le_trans jc h1.size) λ y hy (e:y=x)=>by omega)
    ·rw[show lb.length/64=(F.drop k).length/64+1 by omega,runM,C,abr Ou.o,abe Ou.o]
    ·rw[show 64*(lb.length/64)=64+64*((F.drop k).length/64)by omega,<-aaV,C,abe Ou.o]
 case rest=>
  obtain⟨hq,aw,cw,P,aq,cq,rfl,oP,oU,cB,dG,l6,bT,iT,aD,W,aL⟩:=hcut;have jG:=acp aD;have fT:=acp W;have l9:=acp aL;have nJ:=acp bT;obtain⟨Q,gy⟩:∃Q,Q=P.length:=⟨_,rfl⟩;rw[<-gy]at cB oP oU⊢;have dK:=acp gy;have wR:=acp iT;have ni:=acp dG;have nG:=acp cB;have mo:=acp l6;have pK:Q<=200000000:=by omega
  have U:=own_ne bT dG;have mQ:=acp U;clear aD W aL bT gy iT dG cB l6 U Xl d9 bD;have kW:∀b,S b->b≠x:=λ b A=>by have:=HS.o b A;omega
  have oF:=acp kW;clear kW;go_wp2_with fail
  go_loopw [1] (λ v wx=>∃(k:Nat) (a':Mx) (c':Nat),v= .slice a' (Q-64*k) c'/\64*k<=Q/\Q-64*k<=c'/\ah S wx a' (Q-64*k) ((P.drop (64*k)).map bv)/\wx.heap[x]? =some (.cells (bY (runM hq k P) (.slice aw 0 cw) M) 334 (0,0))/\Keeps (λ b=>b=x) wc wx) (λ v _=>match v with| .slice _ m _=>m|_=>0)
  case atStart=>exact⟨0,aq,cq,rfl,by omega,by omega,nG.o,ni.o,Keeps.refl _ _⟩
  case round=>
   obtain⟨k,a',c',rfl,hk,nC,GD,H,LK⟩:=hrel;have V:(runM hq k P).length=8:=kL k _ _ mo.o;obtain⟨m,hm⟩:∃m,m=Q-64*k:=⟨_,rfl⟩;rw[<-hm]at GD nC⊢;have Xm:x<wr.heap.size:=(qW.1 H).1;have zN:=acp H;have kN:=acp LK;have OU:=acp GD;have HM:=acp hm;have jy:=acp hk;have pU:m<=Q:=by omega
   by_cases oW:64<=m
   ·have hd:decide ((64:Int)<=(m:Int))=true:=by simp;omega
    have X:wr.drew.heap[x]? =some (.cells ((runM hq k P).map gU++(kM.map gU++[Value.slice aw 0 cw,Value.int .i64 M])).toArray 334 (0,0)):=by
     have G:=H;unfold bY at G;exact G
    have R:∀i,i<64->wr.drew.cell? ⟨x,8+i,none⟩=some (gU (kM.getD i 0)):=λ i hi=>by
     have G:=st_k V (.slice aw 0 cw) M i hi;show wr.cell? ⟨x,8+i,none⟩=_;simp only[World.cell?,H];exact G
    have LM:ah S wr.drew a' 64 (((P.drop (64*k)).take 64).map bv):=by
     have:=(GD.take 64).below acu.drew acs
     rwa [aa3 oW,<-aaJ]at this
    have HT:=acp (Af x x 8 334 (runM hq k P) (kM.map gU++[Value.slice aw 0 cw,Value.int .i64 M]) a' 64 c' ((P.drop (64*k)).take 64) wr.drew V X R Xm LM acs (by omega));have g1:(64:Int)<=(c':Int):=by omega
    have g2:(64:Int)<=(m:Int):=by omega
    have g3:(m:Int)<=(c':Int):=by omega
    clear H LK GD hm X R LM V;go_wp2_with fail;refine vJ 8 ((λ _=>True)) ?_ λ z=> ?_
    ·trivial
    refine aO 0 z ?_;refine aO 1 z ?_;refine aO 2 z ?_;refine aO 3 z ?_;refine aO 4 z ?_;refine aO 5 z ?_;refine aO 6 z ?_;refine aO 7 z ?_;refine cu 8 λ K hK=> ?_;go_simp;refine HT.o.mono ?_;rintro e w2 ⟨rfl,l8,jl⟩;have Tx:=acp l8;have Di:=acp jl;clear l8 jl;go_wp2_with fail;refine o_ hK ?_;clear z hK K;go_wp2_with fail;go_roundw
    case rel=>
     have e1:Q-64*(k+1)=m-64:=by have:=HM.o;omega
     have nQ:Keeps (λ b=>b=x) wc w2:=(kN.o.trans (show Keeps (λ b=>b=x) wr wr.drew from⟨rfl,rfl,rfl,Nat.le_refl _,λ _ _ _=>rfl⟩) λ x _ hx=>hx).trans Di.o λ x _ hx=>hx;have oO:ah S w2 a' m ((P.drop (64*k)).map bv):=OU.o.move Di.o.size λ b A u=>⟨A,Di.o.block b u (oF.o b A)⟩;have e2:(P.drop (64*(k+1))).map bv=((P.drop (64*k)).map bv).drop 64:=by
      rw[<-aaU,aaV];congr 2
     refine⟨k+1,_,c'-64,by rw[e1],by have:=HM.o;omega,by rw[e1];omega,?_,?_,nQ⟩
     ·rw[e1,e2];obtain⟨b,oC,rfl,-,-,-⟩:=OU.o.at_ (by omega);by_cases hc:c'=64
      ·rw[if_pos hc];refine ah.zero _ _ _ (by omega) (aay ?_);rw[List.length_map,List.length_drop,<-dK.o];have:=HM.o;omega
      ·rw[if_neg hc];exact oO.drop 64
     ·rw[xG];exact Tx.o
    case measure=>show m-64<m;omega
   ·have hd:decide ((64:Int)<=(m:Int))=false:=by simp;omega
    have iO:Q/64=k:=by have:=HM.o;have:=jy.o;omega
    have Tz:Q%64=m:=by have:=HM.o;have:=jy.o;omega
    have Xl:wr.cell? ⟨x,72,none⟩=some (.slice aw 0 cw):=by simp only[World.cell?,H];exact tX V _ _
    have dM:wr.frozen? ⟨x,72,none⟩=false:=by simp[World.frozen?,H]
    have jL:=acp iO;have ko:=acp Tz;have u:B<=wr.heap.size:=Nat.le_trans Y (Nat.le_trans wR.o.size LK.size);have jm:0+m<=maxLen:=by unfold maxLen;omega
    have iE:(0+m)*1<=140737488355328:=by omega
    have nE:=acp jm;have O6:=acp iE;have mq:acr (wr.ownsRow B 5 1 (.slice aw 0 cw) 0 []):=bK nJ.o λ b A u=>LK.block b u λ(e:b=x)=>mQ.o (e▸A);clear jm iE;clear H LK GD hm iO Tz V;go_wp2_with (at_builtin;refine jM rfl _ _ 30 rfl B 5 i8 _ 1 1 Tryz.underlying30 HI.o.1 HI.o.2.1 HI.o.2.2.1 HI.o.2.2.2 rfl (by omega) (.slice aw 0 cw) 0 [] rfl mq.o a' m c' ((P.drop (64*k)).map bv) rfl (ES OU.o) (jA _) nE.o O6.o u ?_;intro D c9 E sF Gh JH;rw[Nat.zero_add,List.nil_append]at sF;have Bw:E.heap[x]? =wr.heap[x]? :=Gh.block x Xm mQ.o.symm;have ZR:=acp sF;have CP:=acp Bw;have q9:E.cell? ⟨x,72,none⟩=some (.slice aw 0 cw):=(World.cell?_of_block (w:=wr) (w':=E) (a:=⟨x,72,none⟩) Bw).trans Xl;have f9:E.frozen? ⟨x,72,none⟩=false:=(by simp[World.frozen?,Bw,zN.o]);have J:=acp Gh;clear sF Bw Gh JH;rw[Nat.zero_add])
    go_end0
    have l5:E.heap[x]? =some (.cells (bY (runM hq k P) (.slice aw 0 cw) M) 334 (0,0)):=CP.o.trans zN.o;have iN:=own_ne ZR.o l5;refine⟨rfl,.slice D m c9,?_,?_,?_⟩
    ·rw[aG l5,jG.o,<-dK.o,jL.o];rw[Ag (kL k _ _ mo.o)]
    ·rw[l9.o,fT.o,<-dK.o,ko.o,jL.o];exact bK ZR.o λ b A u=>aI _ _ _ _ λ(e:b=x)=>iN (e▸A)
    ·have o7:Below B w wr:=wR.o.trans (kN.o.bS (Nat.le_trans Y wR.o.size) λ y hy (e:y=x)=>by omega);have nS:Below B wr E:=(Keeps.grown J.o).bS u λ y hy hk=>by have:=aZ mq.o y hk;omega
     exact(o7.trans nS).trans ((Keeps.jy E ⟨x,72,none⟩ _).bS (Nat.le_trans u J.o.size) λ y hy (e:y=x)=>by omega)
theorem Fh:∀(q:Nat) (h:List Int) (F t:I8) (r:Nat),F.length=64*q->runM h (q+r) (F++t)=runM (runM h q F) r t
 |0,h,F,t,r,m=>by
  obtain rfl:F=[]:=aac (by omega);rw[Nat.zero_add];rfl
 |q+1,h,F,t,r,m=>by
  rw[show q+1+r=q+r+1 by omega,runM,runM,abl (by omega),abN (by omega)];exact Fh q _ (F.drop 64) t r (by rw[List.length_drop];omega)
theorem Yl(h:List Int)(Q m l:I8)(E:l=Q.drop (64*(Q.length/64))):runM (runM h (Q.length/64) Q) ((l++m).length/64) (l++m)=runM h ((Q++m).length/64) (Q++m)/\(l++m).drop (64*((l++m).length/64))=(Q++m).drop (64*((Q++m).length/64))/\(l++m).length%64=(Q++m).length%64:=by
 obtain⟨q,A⟩:∃q,q=Q.length/64:=⟨_,rfl⟩;obtain⟨F,B⟩:∃F,F=Q.take (64*q):=⟨_,rfl⟩;have z:Q=F++l:=by rw[B,E,<-A,aaT]
 have u:F.length=64*q:=by rw[B,List.length_take];omega
 have C:(Q++m).length=64*q+(l++m).length:=by rw[z,List.append_assoc,List.length_append,u]
 have y:(Q++m).length/64=q+(l++m).length/64:=by omega
 have D:runM h q Q=runM h q F:=by
  have:=Fh q h F l 0 u;rw[<-z,Nat.add_zero]at this;exact this
 refine⟨?_,?_,by omega⟩
 ·rw[y,<-A,D,z,List.append_assoc,Fh q h F (l++m) _ u]
 ·rw[y,Nat.mul_add,<-aaV,z,List.append_assoc,abe u]
abbrev vH:=Option Addr×Nat×Nat×List UInt8
def nT(L:List vH):List UInt8:=L.flatMap (·.2.2.2)
theorem UA{L:List vH}{i:Nat}{p:vH}(h:L[i]? =some p):nT (L.take (i+1))=nT (L.take i)++p.2.2.2:=by
 rw[abu,h];simp[nT]
theorem Ym(L:List vH)(h:∀p∈L,p.2.2.2.length<=10000000):(nT L).length<=10000000*L.length:=by
 induction L with
 |nil=>simp[nT]
 |cons p t ih=>
  have z:=ih λ q m=>h q (abv _ m);have y:=h p (List.mem_cons_self ..);have u:nT (p::t)=p.2.2.2++nT t:=by simp[nT]
  rw[u,List.length_append,List.length_cons];omega
theorem Yn{S:Nat->Prop}(nb:Nat)(L:List vH)(m:Nat)(hm:m=L.length)(w:World)(hc:∀i p,L[i]? =some p->w.cell? ⟨nb,i,none⟩=some (.slice p.1 p.2.1 p.2.2.1))(aH:nb<w.heap.size)(G:∀p∈L,ah S w p.1 p.2.1 (p.2.2.2.map bv)/\p.2.1<=10000000/\p.2.1<=p.2.2.1)(hL:m<=3):
  Dy 164 #[.slice (some ⟨nb,0,none⟩) m m] w (gH w (jh (nT L))):=by
 have HR:acr (∀p∈L,ah (λ b=>b<w.heap.size) w p.1 p.2.1 (p.2.2.2.map bv)/\p.2.1<=10000000/\p.2.1<=p.2.2.1/\p.2.2.2.length=p.2.1):=acp λ p A=>⟨(G p A).1.move acs λ b z aJ=>⟨aJ,rfl⟩,(G p A).2.1,(G p A).2.2,by simpa using(G p A).1.length⟩;have aD:acr (∀i,(nT (L.take i)).length<=30000000):=acp λ i=>by
  have X:=Ym (L.take i) λ p A=>by have h9:=HR.o p (aaN A);omega
  have h2:(L.take i).length<=3:=by rw[List.length_take];omega
  omega
 have HC:=acp hc;have HM:=acp hm;clear G hc hm;go_enter Tryz.func164,Tryz.ntmps164;go_wp2_with fail;refine(ER _).mono ?_;rintro e w1 ⟨x,rfl,Z,C,O⟩;have HX:=acp C;have aN:=acp O;clear C O;go_wp2_with fail
 go_loopw [5,9] (λ _ iv wx=>∃(i:Nat) (K:Mx) (M:Nat),iv= .int .i64 (i:Int)/\i<=m/\wx.heap[x]? =some (.cells (bY (runM Gg ((nT (L.take i)).length/64) (nT (L.take i))) (.slice K ((nT (L.take i)).length%64) M) (nT (L.take i)).length) 334 (0,0))/\wx.ownsRow w.heap.size 5 1 (.slice K ((nT (L.take i)).length%64) M) ((nT (L.take i)).length%64) (((nT (L.take i)).drop (64*((nT (L.take i)).length/64))).map bv)/\Below w.heap.size w wx) (λ _ iv _=>m-(intOf iv).toNat)
 case atStart=>
  have e0:nT (L.take 0)=[]:=by simp[nT]
  refine⟨0,none,0,rfl,Nat.zero_le _,?_⟩;rw[e0];exact⟨HX.o,⟨rfl,.inl ⟨rfl,rfl⟩⟩,aN.o⟩
 case round=>
  obtain⟨i,K,M,rfl,bf,C,F,z⟩:=hrel;obtain⟨Q,R⟩:∃Q,Q=nT (L.take i):=⟨_,rfl⟩;rw[<-R]at C F;have bn:Q.length<=30000000:=by rw[R];exact aD.o i
  have HQ:=acp R;clear R;by_cases H:i<m
  ·obtain⟨p,A⟩:∃p,L[i]? =some p:=⟨_,List.getElem?_eq_getElem (by have:=HM.o;omega)⟩;obtain⟨a,n,c,W⟩:=p;obtain⟨X,h2,h3,Y⟩:=HR.o _ (aaD A);dsimp only at X h2 h3 Y;have aF:=(z.cell (p:=⟨nb,i,none⟩) aH).trans (HC.o i _ A);dsimp only at aF;obtain⟨l,U⟩:∃l,l=Q.drop (64*(Q.length/64)):=⟨_,rfl⟩;have D:l.length=Q.length%64:=by rw[U,List.length_drop];omega
   rw[<-U,<-D]at F;rw[<-D]at C;have P:=acp (PZ w.heap.size x _ l W Q.length K M a n c wr (kL _ _ _ rfl) C Z F (by omega) (X.below z acs) (λ b z=>z) z.size (by omega) (by omega) h3);have Fj:=acp (Yl Gg Q W l U);have HP:=acp (UA A);have V:=acp z;have HN:=acp Y;have Gw:=acp H;have d0:decide ((i:Int)<(m:Int))=true:=aak (by omega);have i0:(0:Int)<=(i:Int):=by omega
   have i1:(i:Int)<(m:Int):=by omega
   clear C F z U D A Y X;go_wp2_with fail;refine P.o.mono ?_;rintro e w2 ⟨rfl,v,y,u,B⟩;have Tx:=acp y;have Gi:=acp u;have E:=acp B;clear y u B P;go_wp2_with fail;go_roundw
   case rel=>
    obtain⟨r1,r2,r3⟩:=Fj.o;have u:=Gi.o;have y:=Tx.o;rw[r1]at y;rw[r2,r3]at u;obtain⟨aB,aA,rfl,-⟩:=bg u;have J:nT (L.take (i+1))=Q++W:=by rw[HP.o,HQ.o]
    refine⟨i+1,aB,aA,by go_num,Gw.o,?_,?_,V.o.trans E.o⟩
    ·rw[J];rw[show(Q++W).length=Q.length+n by rw[List.length_append,HN.o]]at y⊢;exact y
    ·rw[J];exact u
   case measure=>have:=Gw.o;simp[intOf];omega
  ·have N:Q=nT L:=by rw[HQ.o,List.take_of_length_le (by have:=HM.o;omega)]
   have HS:=acp (LU x (runM Gg (Q.length/64) Q) (.slice K (Q.length%64) M) Q.length (Q.length%64) (Q.drop (64*(Q.length/64))) wr (kL _ _ _ rfl) C (Ah F (Nat.zero_le _)) (Nat.mod_lt _ (by omega)) (by omega));have V:=acp z;have ak:=acp N;have d0:decide ((i:Int)<(m:Int))=false:=aad (by omega);have d1:decide (i<m)=false:=aad H;clear C F z N;go_wp2_with fail;refine HS.o.mono ?_;rintro e w2 ⟨a2,n2,c2,rfl,aC,I,B⟩;have aL:=acp I;have E:=acp B;clear I B;go_wp2_with fail;go_ret;have hs:=V.o.size;refine⟨a2,n2,c2,rfl,aC,?_,V.o.trans (E.o.mono hs)⟩;have h9:=aL.o.mono (S':=λ b=>w.heap.size<=b/\b<w2.heap.size) λ b z=>⟨by omega,z.2⟩;rw[<-ak.o];unfold jh;rw[Nat.mul_comm (Q.length/64) 64];exact h9
theorem Fp(w:World)(y:UInt8):ah (λ b=>b=w.heap.size) (w.alloc (.cells #[.int .u8 (y.toNat:Int)] 5)) (some ⟨w.heap.size,0,none⟩) 1 ([y].map bv):=jr (w:=w) ([y].map bv) 5 (show 1<=maxLen by decide)
theorem Yo{S:Nat->Prop}(a:Mx)(n c:Nat)(B:I8)(w:World)(N:ah S w a n (B.map bv))(W:n<=10000000)(I:n<=c):
  Dy 202 #[.slice a n c] w (gH w (jh ([0]++B))):=by
 have y:=wall w (.cells #[.int .u8 0] 5);have u:=wall (w.alloc (.cells #[.int .u8 0] 5)) (.cells #[.slice (some ⟨w.heap.size,0,none⟩) 1 1,.slice a n c] 30);have E:(w.alloc (.cells #[.int .u8 0] 5)).heap.size=w.heap.size+1:=by simp
 have A:=(MapKept.heap_alloc (w.alloc (.cells #[.int .u8 0] 5)) (.cells #[.slice (some ⟨w.heap.size,0,none⟩) 1 1,.slice a n c] 30)).1;rw[E]at A;obtain⟨F,z⟩:∃F,F=(w.alloc (.cells #[.int .u8 0] 5)).alloc (.cells #[.slice (some ⟨w.heap.size,0,none⟩) 1 1,.slice a n c] 30):=⟨_,rfl⟩;rw[<-z]at A u;have H:=y.trans (u.mono y.size);have M:=acp (Yn (S:=λ b=>b<F.heap.size) (w.heap.size+1) [(some ⟨w.heap.size,0,none⟩,1,1,[0]),(a,n,c,B)] 2 rfl F (λ i p m=>by
  match i,m with
  |0,m=>cases m;simp[World.cell?,A]
  |1,m=>cases m;simp[World.cell?,A]
  |i+2,m=>simp at m) (qW.1 A).1 (λ p m=>by
  rcases List.mem_cons.1 m with rfl|m
  ·exact⟨fB ((Fp w 0).below u acs),show 1<=10000000 by omega,Nat.le_refl _⟩
  ·obtain rfl:=List.mem_singleton.1 m;exact⟨fB (N.below H acs),W,I⟩) (by omega))
 have e:nT [(some ⟨w.heap.size,0,none⟩,1,1,[0]),(a,n,c,B)]=[0]++B:=by simp[nT]
 rw[e]at M;have K:=acp z;have O:=acp H;clear N A y u H z e E;go_enter Tryz.func202,Tryz.ntmps202;go_wp2_with fail;rw[<-K.o];refine M.o.mono ?_;rintro e X ⟨a3,V,P,rfl,U,D,C⟩;have J:=acp D;have G:=acp C;clear D C;go_wp2_with fail;go_ret;have Q:=O.o.size;exact⟨a3,V,P,rfl,U,J.o.mono λ b R=>⟨by omega,R.2⟩,O.o.trans (G.o.mono Q)⟩
theorem Yp{S S':Nat->Prop}(a b:Mx)(n c y c':Nat)(D u:I8)(w:World)(U:ah S w a n (D.map bv))(F:ah S' w b y (u.map bv))(hn:n<=10000000)(N:n<=c)(P:y<=10000000)(H:y<=c'):
  Dy 204 #[.slice a n c,.slice b y c'] w (gH w (jh ([1]++(D++u)))):=by
 have B:=wall w (.cells #[.int .u8 1] 5);have z:=wall (w.alloc (.cells #[.int .u8 1] 5)) (.cells #[.slice (some ⟨w.heap.size,0,none⟩) 1 1,.slice a n c,.slice b y c'] 30);have I:(w.alloc (.cells #[.int .u8 1] 5)).heap.size=w.heap.size+1:=by simp
 have A:=(MapKept.heap_alloc (w.alloc (.cells #[.int .u8 1] 5)) (.cells #[.slice (some ⟨w.heap.size,0,none⟩) 1 1,.slice a n c,.slice b y c'] 30)).1;rw[I]at A;obtain⟨K,C⟩:∃K,K=(w.alloc (.cells #[.int .u8 1] 5)).alloc (.cells #[.slice (some ⟨w.heap.size,0,none⟩) 1 1,.slice a n c,.slice b y c'] 30):=⟨_,rfl⟩;rw[<-C]at A z;have J:=B.trans (z.mono B.size);have R:=acp (Yn (S:=λ b=>b<K.heap.size) (w.heap.size+1) [(some ⟨w.heap.size,0,none⟩,1,1,[1]),(a,n,c,D),(b,y,c',u)] 3 rfl K (λ i p m=>by
  match i,m with
  |0,m=>cases m;simp[World.cell?,A]
  |1,m=>cases m;simp[World.cell?,A]
  |2,m=>cases m;simp[World.cell?,A]
  |i+3,m=>simp at m) (qW.1 A).1 (λ p m=>by
  rcases List.mem_cons.1 m with rfl|m
  ·exact⟨fB ((Fp w 1).below z acs),show 1<=10000000 by omega,Nat.le_refl _⟩
  ·rcases List.mem_cons.1 m with rfl|m
   ·exact⟨fB (U.below J acs),hn,N⟩
   ·obtain rfl:=List.mem_singleton.1 m;exact⟨fB (F.below J acs),P,H⟩) (by omega))
 have e:nT [(some ⟨w.heap.size,0,none⟩,1,1,[1]),(a,n,c,D),(b,y,c',u)]=[1]++(D++u):=by simp[nT]
 rw[e]at R;have Q:=acp C;have V:=acp J;clear U F A B z J C e I;go_enter Tryz.func204,Tryz.ntmps204;go_wp2_with fail;rw[<-Q.o];refine R.o.mono ?_;rintro e w3 ⟨a3,n3,W,rfl,Z,G,E⟩;have O:=acp G;have M:=acp E;clear G E;go_wp2_with fail;go_ret;have X:=V.o.size;exact⟨a3,n3,W,rfl,Z,O.o.mono λ b Y=>⟨by omega,Y.2⟩,V.o.trans (M.o.mono X)⟩
def oI:Nat->List (I8)->List UInt8
 |0,_=>[]
 |f+1,L=>if L.length=0 then jh []else if L.length=1 then jh ([0]++L.getD 0 [])else jh ([1]++(oI f (L.take (CY L.length))++oI f (L.drop (CY L.length))))
theorem BU:∀(f:Nat) (L:List (I8)),L.length<f->(oI f L).length=32
 |0,L,h=>by omega
 |f+1,L,h=>by
  unfold oI;by_cases m:L.length=0
  ·rw[if_pos m];exact eu _
  ·rw[if_neg m];by_cases u:L.length=1
   ·rw[if_pos u];exact eu _
   ·rw[if_neg u];exact eu _
structure Ao(S:Nat->Prop)(w:World)(a:Mx)(n:Nat)(L:List vH):Prop where
 row:ah S w a n (L.map λ p=> .slice p.1 p.2.1 p.2.2.1)
 each:∀p∈L,ah S w p.1 p.2.1 (p.2.2.2.map bv)/\p.2.1<=10000000/\p.2.1<=p.2.2.1
theorem Ao.below{S:Nat->Prop}{B:Nat}{w w':World}{a:Mx}{n:Nat}{L:List vH}(h:Ao S w a n L)(u:Below B w w')(m:w.heap.size<=B):Ao S w' a n L:=
 ⟨h.row.below u m,λ p y=>⟨(h.each p y).1.below u m,(h.each p y).2⟩⟩
theorem Ao.take{S:Nat->Prop}{w:World}{a:Mx}{n:Nat}{L:List vH}(h:Ao S w a n L)(k:Nat)(m:k<=n):Ao S w a k (L.take k):=by
 refine⟨?_,λ p u=>h.each p (aaN u)⟩;have y:=h.row.take k
 rwa [aa3 m,<-aaJ]at y
theorem Ao.drop{S:Nat->Prop}{w:World}{b m:Nat}{n:Nat}{L:List vH}(h:Ao S w (some ⟨b,m,none⟩) n L)(k:Nat):Ao S w (some ⟨b,m+k,none⟩) (n-k) (L.drop k):=by
 refine⟨?_,λ p u=>h.each p (abx u)⟩;have y:=h.row.drop k
 rwa [<-aaU]at y
def ji(L:List vH):List (I8):=L.map (·.2.2.2)
theorem Ap{S:Nat->Prop}:∀(f:Nat) (L:List vH) (n:Nat) (a:Mx) (c:Nat) (w:World),Ao S w a n L->n<f->n<=c->n<=1000000->
  Dy 149 #[.slice a n c] w (gH w (oI f (ji L)))
 |0,L,n,a,c,w,_,h,_,_=>by omega
 |f+1,L,n,a,c,w,h,hf,hc,hn=>by
  have M:L.length=n:=by simpa using h.row.length
  have y:(ji L).length=n:=by unfold ji;rw[List.length_map,M]
  have HH:=acp h;by_cases h0:n=0
  ·subst h0;have HS:=acp (xH (S:=λ _=>True) none 0 0 [] w (ah.zero _ _ _ rfl rfl) (by omega) (by omega));have e:oI (f+1) (ji L)=jh []:=by rw[oI,if_pos y]
   rw[e];clear h M y e HH;go_enter Tryz.func149,Tryz.ntmps149;go_wp2_with fail;refine HS.o.mono ?_;rintro e w3 ⟨a3,Y,Q,rfl,W,z,u⟩;go_wp2_with fail;go_ret;exact⟨a3,Y,Q,rfl,W,z,u⟩
  ·by_cases h1:n=1
   ·subst h1;obtain⟨p,rfl⟩:∃p,L=[p]:=List.length_eq_one_iff.1 M;obtain⟨pa,pn,pc,pb⟩:=p;obtain⟨g1,g2,g3⟩:=h.each _ (List.mem_singleton.2 rfl);dsimp only at g1 g2 g3;have HS:=acp (Yo pa pn pc pb w g1 g2 g3);have e:oI (f+1) (ji [(pa,pn,pc,pb)])=jh ([0]++pb):=by rw[oI,if_neg (by simp[ji]),if_pos y];rfl
    rw[e];obtain⟨b,B,rfl,-,aH,P⟩:=h.row.at_ (by omega);have X:=P 0 (by omega);have ak:w.cell? ⟨b,B,none⟩=some (.slice pa pn pc):=X;have i1:(0:Int)<1:=by omega
    clear h M y e HH P X g1;go_enter Tryz.func149,Tryz.ntmps149;go_wp2_with fail;refine HS.o.mono ?_;rintro e w3 ⟨a3,Y,Q,rfl,W,z,u⟩;go_wp2_with fail;go_ret;exact⟨a3,Y,Q,rfl,W,z,u⟩
   ·obtain⟨k,hk⟩:∃k,k=CY n:=⟨_,rfl⟩;have av:=Yj (n:=n) (by omega);rw[<-hk]at av;have UC:=acp (Ux n hn w);rw[<-hk]at UC;have e:oI (f+1) (ji L)=jh ([1]++(oI f (ji (L.take k))++oI f (ji (L.drop k)))):=by
     rw[oI,if_neg (by omega),if_neg (by omega),y,<-hk];unfold ji;rw[aaJ,aaU]
    rw[e];obtain⟨A,hA⟩:∃A,A=oI f (ji (L.take k)):=⟨_,rfl⟩;obtain⟨D,Z⟩:∃D,D=oI f (ji (L.drop k)):=⟨_,rfl⟩;have N:A.length=32:=by rw[hA];exact BU f _ (by unfold ji;rw[List.length_map,List.length_take];omega)
    have O:D.length=32:=by rw[Z];exact BU f _ (by unfold ji;rw[List.length_map,List.length_drop];omega)
    obtain⟨b,B,rfl,-,aH,-⟩:=h.row.at_ (by omega);have aA:acr (∀w',Below w.heap.size w w'->Dy 149 #[.slice (some ⟨b,B,none⟩) k c] w' (gH w' A)):=acp λ w' R=>by
     rw[hA];exact Ap f (L.take k) k _ c w' ((h.take k (by omega)).below R acs) (by omega) (by omega) (by omega)
    have aJ:acr (∀w',Below w.heap.size w w'->Dy 149 #[.slice (some ⟨b,B+k,none⟩) (n-k) (c-k)] w' (gH w' D)):=acp λ w' R=>by
     rw[Z];exact Ap f (L.drop k) (n-k) _ (c-k) w' ((h.drop k).below R acs) (by omega) (by omega) (by omega)
    rw[<-hA,<-Z];have i0:(0:Int)<=(k:Int):=by omega
    have i1:(k:Int)<=(n:Int):=by omega
    have i2:(n:Int)<=(c:Int):=by omega
    have i3:(k:Int)<=(c:Int):=by omega
    have i4:¬c=k:=by omega
    have aC:=acp N;have Ou:=acp O;clear h M y e HH hk hA Z N O;go_enter Tryz.func149,Tryz.ntmps149;go_wp2_with fail;refine UC.o.mono ?_;rintro e _ ⟨rfl,rfl⟩;go_wp2_with fail;refine su ((λ w'=>Below w.heap.size w w')) ?_ λ m=> ?_
    ·exact acu.drew
    refine aM 0 m ?_;refine aM 1 m ?_;refine aM 2 m ?_;refine aM 4 m ?_;refine aM 5 m ?_;refine aM 6 m ?_;refine lJ 3 λ K F=> ?_;go_simp;refine(aA.o _ m).mono ?_;rintro e w1 ⟨a1,n1,c1,rfl,aF,I,U⟩;obtain rfl:n1=32:=by have:=I.length;rw[List.length_map,aC.o]at this;exact this.symm
    have E:=acp (m.trans (U.mono m.size));have V:=acp (fB I);clear I U;go_wp2_with fail;refine kV F (E.o) λ m=> ?_;clear F K;refine lJ 7 λ K F=> ?_;go_simp;refine(aJ.o _ E.o).mono ?_;rintro e w2 ⟨a2,n2,c2,rfl,aB,H,G⟩;obtain rfl:n2=32:=by have:=H.length;rw[List.length_map,Ou.o]at this;exact this.symm
    have C:=acp (E.o.trans (G.mono E.o.size));have HP:=acp (Yp a1 a2 32 c1 32 c2 A D w2 (V.o.below G acs) H (by omega) aF (by omega) aB);clear H G;go_wp2_with fail;refine kV F (C.o) λ m=> ?_;clear F K;refine lJ 8 λ K F=> ?_;go_simp;refine HP.o.mono ?_;rintro e w3 ⟨a3,Y,Q,rfl,W,z,u⟩;have aD:=acp z;have J:=acp (C.o.trans (u.mono C.o.size));have aL:=C.o.size;clear z u;go_wp2_with fail;refine kV F (J.o) λ m=> ?_;clear F K;refine aM 9 m ?_;refine rH ?_;clear m;go_wp2_with fail;go_ret;exact⟨a3,Y,Q,rfl,W,aD.o.mono λ b R=>⟨by omega,R.2⟩,J.o⟩
def BX:Nat->List RecM->Nat
 |_,[]=>0
 |left,x::r=>if (vG x).length<=left then BX (left-(vG x).length) r+1 else 0
def iC(l:List RecM):Nat:=(l.map λ x=>(vG x).length).sum
theorem Aq:∀(left:Nat) (l:List RecM),iC l<=left->BX left l=l.length
 |_,[],_=>rfl
 |left,x::r,h=>by
  have m:(vG x).length+iC r<=left:=by simpa[iC]using h
  unfold BX;rw[if_pos (by omega),Aq _ r (by omega),List.length_cons]
theorem MB{α:Type}{l:List α}{k:Nat}{x:α}(h:l[k]? =some x):l.drop k=x::l.drop (k+1):=by
 obtain⟨m,e⟩:=aaj.1 h;rw[abg m,e]
theorem Fq{Q:Nat->Prop}(l:List RecM)(K:∀x∈l,wP x)(a:Mx)(n c:Nat)(w:World)(h:qC Q w a n l)(hn:n<=1000):
  Dy 80 #[.slice a n c] w λ e w'=>e= .returned (.int .i64 (BX 942 l:Int))/\Below w.heap.size w w':=by
 have HH:=acp h;have h_:=acp K;have hl:=h.len;obtain⟨N,hN⟩:∃N,N=BX 942 l:=⟨_,rfl⟩;rw[<-hN];have HN:=acp hN;have HL:=acp hl;clear h K hN hl;go_enter Tryz.func80,Tryz.ntmps80;go_wp2
 go_loopw [3,8] (λ lv iv wr=>∃k left:Nat,k<=n/\left<=942/\iv= .int .i64 k/\lv= .int .i64 left/\N=k+BX left (l.drop k)/\Below w.heap.size w wr) (λ _ iv _=>n-(intOf iv).toNat)
 case atStart=>exact⟨0,942,by omega,by omega,rfl,rfl,by rw[HN.o];simp,Below.refl _ _⟩
 case round=>
  obtain⟨k,left,hk,aF,rfl,rfl,m,O⟩:=hrel;have HB:=acp O;by_cases aA:k<n
  ·obtain⟨x,Y⟩:∃x,l[k]? =some x:=⟨l[k]'(by rw[HL.o];exact aA),List.getElem?_eq_getElem _⟩;obtain⟨g,aC,U,X,rfl,aD,S,M,y⟩:=HH.o.cells Y;obtain⟨d0,d1,d2⟩:=y wr O;have J:=h_.o x (aaD Y);rw[MB Y]at m;have pE:=acp (λ w'=>kQ x J U X w');have C:=acp (λ w'=>PU x J U X w');obtain⟨L,hL⟩:∃L,L=(vG x).length:=⟨_,rfl⟩;rw[<-hL]at C;unfold BX at m;rw[<-hL]at m;unfold vw at pE C;have i0:(0:Int)<=(k:Int):=by omega
   have i1:(k:Int)<(n:Int):=by omega
   have hd:decide ((k:Int)<(n:Int))=true:=by simpa using i1
   clear Y y M S O J hL;have HF:=acp m;clear m;go_wp2_with fail;obtain⟨H,D⟩:∃H,H=wr.alloc (.cells #[.int .i64 x.kind,.int .u64 x.seq,.slice U x.body.length X] 71):=⟨_,rfl⟩;have P:Below wr.heap.size wr H:=by rw[D];exact wall wr _
   have I:H.heap[wr.heap.size]? =some (.cells (vw x U X) 71 (0,0)):=by rw[D];exact(MapKept.heap_alloc wr _).1
   rw[<-D];have aB:=(qW.1 I).1;have HX:=acp (λ u (O:Below H.heap.size H u)=>wQ ((O.block wr.heap.size aB).trans I));have G:=acp (HB.o.trans (P.mono HB.o.size));clear D I P;refine(pE.o H).mono ?_;rintro e w2 ⟨rfl,E⟩;obtain⟨V,W,Z⟩:=HX.o w2 E;have F:=acp E;by_cases B:L<=left
   ·have dl:decide ((left:Int)<(L:Int))=false:=aad (by omega);have ew:IntKind.i64.wrap ((left:Int)-(L:Int))=((left-L:Nat):Int):=by rw[aaf _ (by omega)];omega
    have EW:=acp ew;clear E ew;go_wp2_with fail;refine(C.o w2).mono ?_;rintro e w3 ⟨rfl,A⟩;have z:=acp (F.o.trans (A.mono F.o.size));clear V W Z A;obtain⟨V,W,Z⟩:=HX.o w3 z.o;go_wp2_with fail;refine(C.o w3).mono ?_;rintro e w4 ⟨rfl,R⟩;have dI:=acp (z.o.trans (R.mono z.o.size));clear R V W Z;have ew:=EW.o;go_wp2_with fail;go_roundw
    case rel=>
     have m:=HF.o;rw[if_pos B]at m;exact⟨k+1,left-L,by omega,by omega,by go_num,rfl,by omega,G.o.trans (dI.o.mono G.o.size)⟩
    case measure=>simp[intOf];omega
   ·have dl:decide ((left:Int)<(L:Int))=true:=aak (by omega);clear E;go_wp2_with fail;refine(C.o w2).mono ?_;rintro e w3 ⟨rfl,A⟩;have z:=acp (F.o.trans (A.mono F.o.size));clear V W Z A;go_wp2_with fail;go_ret;have m:=HF.o;rw[if_neg B]at m;exact⟨by rw[m];rfl,G.o.trans (z.o.mono G.o.size)⟩
  ·have hd:decide ((k:Int)<(n:Int))=false:=by simp;omega
   have av:k=n:=by omega
   have ak:BX left (l.drop k)=0:=by rw[aay (by rw[HL.o];omega)];rfl
   go_wp2_with fail;go_ret;exact⟨by rw[m,ak,av];rfl,HB.o⟩
theorem Tryz.infoRow:(Tryz.prog.info? 30).map (λ i=>(i.zero,i.size,i.bytes))=some (some (.slice none 0 0),1,24):=by kernel_rfl
structure nU(B:Nat)(w:World)(v:Value)(L:List vH):Prop where
 own:w.ownsRow B 30 1 v L.length (L.map λ p=> .slice p.1 p.2.1 p.2.2.1)
 each:∀p∈L,ah (λ b=>B<=b/\b<w.heap.size/\v.ownBlock≠some b) w p.1 p.2.1 (p.2.2.2.map bv)/\p.2.1<=10000000/\p.2.1<=p.2.2.1
theorem nU.nil(B:Nat)(w:World):nU B w (.slice none 0 0) []:=⟨⟨rfl,.inl ⟨rfl,rfl⟩⟩,λ p m=>by cases m⟩
theorem nU.below{B:Nat}{w w':World}{v:Value}{L:List vH}(h:nU B w v L)(m:Below w.heap.size w w'):nU B w' v L:=
 ⟨f_ h.own m,λ p u=>⟨((h.each p u).1.below m acs).mono λ b y=>⟨y.1,by have:=m.size;omega,y.2.2⟩,(h.each p u).2⟩⟩
theorem nU.add{B:Nat}{w y:World}{v:Value}{L:List vH}{o:Obj}{A':Mx}{c':Nat}(h:nU B w v L)(p:vH)(I:ah (λ b=>B<=b/\b<w.heap.size/\v.ownBlock≠some b) w p.1 p.2.1 (p.2.2.2.map bv))(K:p.2.1<=10000000)(J:p.2.1<=p.2.2.1)
  (u:y.ownsRow B 30 1 (.slice A' (L.length+1) c') (L.length+1) (L.map (λ p=> .slice p.1 p.2.1 p.2.2.1)++[.slice p.1 p.2.1 p.2.2.1]))(F:(w.alloc o).grownBy y v.ownBlock)(z:(Value.slice A' (L.length+1) c').ownBlock=v.ownBlock\/(Value.slice A' (L.length+1) c').ownBlock=some (w.alloc o).heap.size):nU B y (.slice A' (L.length+1) c') (L++[p]):=by
 have H:(w.alloc o).heap.size=w.heap.size+1:=Pe _ _;have M:=F.size;have A:∀{a:Mx} {n:Nat} {vs:List Value},ah (λ b=>B<=b/\b<w.heap.size/\v.ownBlock≠some b) w a n vs->ah (λ b=>B<=b/\b<y.heap.size/\(Value.slice A' (L.length+1) c').ownBlock≠some b) y a n vs:=λ G=>G.move (by omega) λ b C D=>⟨⟨C.1,by omega,λ e=>by
  rcases z with E|E
  ·rw[E]at e;exact C.2.2 e
  ·rw[E]at e;have:=aat e;omega⟩,(F.block b (by omega) λ e=>C.2.2 e.symm).trans (Below.heap_alloc w o b D)⟩
 refine⟨by simpa using u,λ q m=> ?_⟩;rcases aaA.1 m with m|m
 ·exact⟨A (h.each q m).1,(h.each q m).2⟩
 ·rw[List.mem_singleton]at m;subst m;exact⟨A I,K,J⟩
theorem nU.at_{B n c:Nat}{w:World}{a:Mx}{L:List vH}(h:nU B w (.slice a n c) L):n=L.length/\n<=c/\Ao (λ b=>B<=b/\b<w.heap.size) w a n L:=by
 obtain⟨A,y⟩:=ah.mU h.own;obtain⟨C,c',e,z⟩:=bg h.own;cases e;exact⟨rfl,z,y,λ p m=>⟨(h.each p m).1.mono λ b u=>⟨u.1,u.2.1⟩,(h.each p m).2⟩⟩
def LvRet(w:World)(m:List (I8))(e:Ending)(w':World):Prop:=
 ∃a n c L,e= .returned (.slice a n c)/\n<=c/\n=m.length/\Ao (λ b=>w.heap.size<=b/\b<w'.heap.size) w' a n L/\ji L=m/\Below w.heap.size w w'
theorem Fu{Q:Nat->Prop}(l:List RecM)(ak:∀x∈l,wP x)(a:Mx)(n c:Nat)(w:World)(h:qC Q w a n l)(hn:n<=1000):
  Dy 148 #[.slice a n c] w (LvRet w (l.map vG)):=by
 have HH:=acp h;have h_:=acp ak;have hl:=h.len;have HL:=acp hl;obtain⟨i0,hi,aH,bn,bf⟩:=aaq Tryz.infoRow;clear h ak hl;go_enter Tryz.func148,Tryz.ntmps148;go_wp2
 go_loopw [3,10] (λ v iv wr=>∃(k:Nat) (L:List vH),k<=n/\iv= .int .i64 k/\L.length=k/\nU w.heap.size wr v L/\ji L=(l.take k).map vG/\Below w.heap.size w wr) (λ _ iv _=>n-(intOf iv).toNat)
 case atStart=>exact⟨0,[],by omega,rfl,rfl,nU.nil _ _,rfl,Below.refl _ _⟩
 case round=>
  obtain⟨k,L,hk,rfl,E,F,R,U⟩:=hrel;have HB:=acp U;have z:=acp F;have aA:=acp R;obtain⟨av,cv,rfl,aD⟩:=bg F.own;rw[E]at z aD⊢;have oP:=acp E;by_cases aF:k<n
  ·obtain⟨x,hx⟩:∃x,l[k]? =some x:=⟨l[k]'(by rw[HL.o];exact aF),List.getElem?_eq_getElem _⟩;obtain⟨g,bT,ha,hc,rfl,cB,aB,G,u⟩:=HH.o.cells hx;obtain⟨d0,d1,d2⟩:=u wr U;have P:=h_.o x (aaD hx);have HX:=acp hx;have dG:(0:Int)<=(k:Int):=by omega
   have i1:(k:Int)<(n:Int):=by omega
   have hd:decide ((k:Int)<(n:Int))=true:=by simpa using i1
   have dV:=acp G;clear hx u G F R E;go_wp2_with fail;obtain⟨M,C⟩:∃M,M=wr.alloc (.cells #[.int .i64 x.kind,.int .u64 x.seq,.slice ha x.body.length hc] 71):=⟨_,rfl⟩;have O:Below wr.heap.size wr M:=by rw[C];exact wall wr _
   rw[<-C];have W:=acp O;have I:=acp (HB.o.trans (O.mono HB.o.size));have HE:acr (Dy 201 #[.agg #[.int .i64 x.kind,.int .u64 x.seq,.slice ha x.body.length hc]] M (PW M (vG x))):=acp (Ut x P ha hc M (dV.o.below I.o acs) aB);have bD:=P.body;have bq:M.heap.size=wr.heap.size+1:=by rw[C];simp
   clear C O U P d0 d1 d2;refine HE.o.mono ?_;rintro e w2 ⟨a2,S,c2,rfl,aJ,K,D⟩;have N:S=15+x.body.length:=by have:=K.length;rw[List.length_map,og]at this;omega
   have H:=acp (z.o.below (W.o.trans (D.mono W.o.size)));have aL:=acp K;have aN:=acp (I.o.trans (D.mono I.o.size));have dn:=D.size;have bS:=HB.o.size;have NH:=acp N;have V:acr ((w2.alloc (.cells #[.slice a2 S c2] 30)).ownsRow w.heap.size 30 1 (.slice av k cv) k (L.map λ p=> .slice p.1 p.2.1 p.2.2.1)):=by
    have h9:=H.o.own;rw[oP.o]at h9;exact f_ h9 (wall _ _)
   clear K D N;go_wp2_with (at_builtin;refine bU rfl _ _ 232 rfl w.heap.size 30 i0 (.slice none 0 0) 24 Tryz.underlying232 hi aH bn bf rfl (.slice av k cv) k _ rfl V.o (some ⟨w2.heap.size,0,none⟩) 1 1 [.slice a2 S c2] rfl (wY _ _) (by simp[Value.oneCell']) (by unfold maxLen;omega) (by omega) (by simp;omega) ?_;intro A1 k1 w3 m Z _ X;have LV:=acp m;have Y:=acp Z;have SH:=acp X;clear m Z X);go_roundw
   case rel=>
    have A:=oP.o;have m:=LV.o;have X:=SH.o;have N:=NH.o;have Bw:=HX.o;obtain⟨aC,ek⟩:=aaj.1 Bw;have hp:ah (λ b=>w.heap.size<=b/\b<w2.heap.size/\(Value.slice av k cv).ownBlock≠some b) w2 a2 S ((vG x).map bv):=aL.o.mono λ b U=>⟨by omega,U.2,λ e=>by have:=iK z.o.own b e;omega⟩;rw[<-A]at m X hp;have h9:=nU.add (A':=A1) (c':=k1) (by have J:=H.o;rw[<-A]at J;exact J) (a2,S,c2,vG x) hp (by dsimp only;omega) aJ m (by have J:=Y.o;rw[<-A]at J;exact J) X;rw[A]at h9;refine⟨k+1,L++[(a2,S,c2,vG x)],by omega,by go_num,by rw[List.length_append,A];rfl,h9,?_,?_⟩
    ·unfold ji;rw[aas,show List.map (·.2.2.2) L=ji L from rfl,aA.o,aai aC,ek,aas];rfl
    ·have J:=Y.o;exact(aN.o.trans ((wall w2 _).mono (by omega))).trans ((Keeps.grown J).bS (B:=w.heap.size) (by rw[Pe];omega) λ y hy e=>by
      have h7:=aZ z.o.own y e;omega)
   case measure=>simp[intOf];omega
  ·have hd:decide ((k:Int)<(n:Int))=false:=by simp;omega
   obtain rfl:k=n:=by omega
   clear F R E U;go_wp2_with fail;go_ret;obtain⟨-,h2,h3⟩:=z.o.at_;refine⟨av,k,cv,L,rfl,h2,by rw[List.length_map,HL.o],h3,?_,HB.o⟩;rw[aA.o,List.take_of_length_le (by rw[HL.o];exact Nat.le_refl _)]
