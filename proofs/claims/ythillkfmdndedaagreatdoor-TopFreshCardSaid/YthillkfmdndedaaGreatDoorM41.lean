/- package -/
import Derived.Test.YthillkfmdndedaaGreatDoorM40
set_option maxRecDepth 100000
set_option maxHeartbeats 64000000
set_option linter.all false
namespace Go.Proofs.YthillkfmdndedaaGreatDoor
open Go.ChangeShapes Go.WideShapes Go.ChangeAt Go.RowKit
def bR(n k:Nat):Nat:=1+k*(n/4)
theorem J6{n:Nat}{x:uD}(h:Ch n x)(y:64<=n)(m:(x.state.length:Int)<=eT n):(AX n x).length=n/4*128:=by
 have u:eT n=((n/4*128:Nat):Int)-94:=by unfold eT;omega
 rw[u]at m;simp[AX,D5 h,ay,eu,u];omega
section
variable{W w:World}{o:Mark}{i n d:Nat}
theorem I5{S S':Nat->Prop}{b:I8}{cl:Prop}{c:Int}(hD:dw o i w d n b cl c)(hM:Marks W o w)(hi:i≠0)(hc:c<=10000000000)(x:uD)(h:Ch n x)(m:(x.state.length:Int)<=eT n)(J:Mx)(z:Nat)(sa:Mx)(sn sc:Nat)(hh:ah S w J 32 (x.head.map bv))(hs:ah S' w sa sn (x.state.map bv))(aD:sn<=sc):
  Dy 35 #[ptr d,.agg (aU n),.agg (mg x J z sa sn sc)] w (lZ o i w d n (splice b (bR n (x.gen%2).toNat*128) (AX n x)) False (c+((n/4:Nat):Int)) (.int .i64 0)):=by
 have F:=hD.len;have g1:=h.gen;obtain⟨A,E⟩:∃A,A=(w.alloc (.cells (aU n) 58)).alloc (.cells (mg x J z sa sn sc) 86):=⟨_,rfl⟩;obtain⟨R,C,Y⟩:=jQ _ _ _ _ E;have K:A.heap[w.heap.size+1]? =some (.cells (mg x J z sa sn sc) 86 (0,0)):=by
  have Q:=(MapKept.heap_alloc (w.alloc (.cells (aU n) 58)) (.cells (mg x J z sa sn sc) 86)).1;rw[Pe]at Q;rw[E];exact Q
 have HP:=acp (λ(u:World) (hb:Below A.heap.size A u)=>dL (n:=n) ((hb.block w.heap.size (by omega)).trans Y));have HK:=acp (λ(u:World) (hb:Below A.heap.size A u)=>gY ((hb.block (w.heap.size+1) (by omega)).trans K));have Z:=acp (YO n F.2.1 F.2.2 x h m J z sa sn sc A (hh.below C acs) (hs.below C acs) aD);obtain⟨k,hk⟩:∃k,k=(x.gen%2).toNat:=⟨_,rfl⟩;have N:k=0\/k=1:=by omega
 have ek:x.gen%2=(k:Int):=by omega
 have UC:acr (∀u,Dy 94 #[.agg (aU n),.int .i64 (k:Int)] u λ e u'=>e= .returned (.tuple #[.int .i64 ((bR n k:Nat):Int),.int .i64 0])/\Below u.heap.size u u'):=acp λ u=>by
  have Q:=uw n F.2.1 F.2.2 k (by omega) u
  rwa [show 1+(k:Int)*((n:Int)/4)=((bR n k:Nat):Int)by unfold bR;rcases N with rfl|rfl<;>omega]at Q
 obtain⟨first,D⟩:∃first,first=bR n k:=⟨_,rfl⟩
 have M:first+n/4<=n:=by rw[D];unfold bR;rcases N with rfl|rfl<;>omega
 have X:=J6 h F.2.1 m;rw[<-hk,<-D];rw[<-D]at UC;have aJ:IntKind.i64.wrap (k:Int)=(k:Int):=by rw[aaf _ (by omega)]
 have HD:=acp hD;have HM:=acp hM;have I:=acp E;have U:=acp C;have aL:=acp R;have HL:=acp F;unfold aU at Z UC I⊢;unfold mg at Z I⊢;clear hD hM h hh hs E C Y K R hk D F m;go_enter Tryz.func35,Tryz.ntmps35;obtain⟨p0,p1,p2⟩:=HP.o A acu;obtain⟨m0,m1,m2,m3,m4⟩:=HK.o A acu;go_wp2_with fail;rw[<-I.o];refine Z.o.mono ?_;rintro e w3 ⟨a3,n3,c3,rfl,ak,G,O⟩;obtain rfl:n3=n/4*128:=by have:=G.length;rw[List.length_map,X]at this;exact this.symm
 have aA:=acp G;have B:=acp O;clear G O Z p0 p1 p2 m0 m1 m2 m3 m4;obtain⟨p0,p1,p2⟩:=HP.o w3 B.o;obtain⟨m0,m1,m2,m3,m4⟩:=HK.o w3 B.o;go_wp2_with fail;refine(UC.o w3).mono ?_;rintro e w4 ⟨rfl,H⟩;have aH:=B.o.size;have aC:=U.o.size;have dI:=acp ((U.o.trans (B.o.mono aC)).trans (H.mono (by omega)));have av:acr (ah (λ y=>o y≠i) w4 a3 (n/4*128) ((AX n x).map bv)):=acp ((aA.o.below H acs).mono λ y hy e=>by
  have Q:=(HM.o.new y (by rw[e];exact hi)).2;have h8:A.heap.size<=y:=hy.1;omega)
 have aB:=acp (FE (HD.o.grow dI.o) (HM.o.grow dI.o) hi (by omega) first (n/4) (by have:=HL.o;omega) M a3 c3 (AX n x) X av.o ak);clear H p0 p1 p2 m0 m1 m2 m3 m4;go_wp2_with fail;refine aB.o.mono ?_;rintro e w5 ⟨rfl,o5,V,P⟩;have gL:=acp (Step.behind HM.o dI.o V);have aF:=acp P;clear V P;go_wp2_with fail;go_ret;exact⟨rfl,o5,gL.o,aF.o⟩
end
theorem J7{B:Func}{C u A:Nat}{Q:Ending->World->Prop}{a:Act}{w:World}{b:Nat}{m:Array Value}{y z:Value}(J:B.results= #[.cell C 86,.tmp u,.tmp A])(F:a.tmps.getD C undef= .pointer (some ⟨b,0,none⟩))(I:a.tmps.getD u undef=y)(D:a.tmps.getD A undef=z)(E:a.defers=[])(G:w.heap[b]? =some (.cells m 86 (0,0)))(K:m.size=5)(H:Q (.returned (.tuple #[.agg m,y,z])) w):
  bodyPost Tryz.prog B Q .ret a w:=by
 subst I D;exact aav (v:= .tuple #[.agg m,a.tmps.getD u undef,a.tmps.getD A undef]) (oh J F (aaS w b 86 86 _ (0,0) _ G Tryz.underlying86 rfl (by rw[K];exact zo))) E H
structure UR(n:Nat)(c:Int)(x:uD)(M:dQ):Prop where
 mark:Ch n x
 state:x.state=fU M
 room:(x.state.length:Int)<=eT n
 load:Loads c M
abbrev Six(j:Nat):Nat->Prop:=λ m=>j<=m/\m<=j+5
def PtRet(W:World)(o:Mark)(j:Nat)(w:World)(c:Int)(x:uD)(M:dQ)(e:Ending)(w':World):Prop:=
 ∃u y sa sc q m,e= .returned (.tuple #[.agg (mg x u y sa x.state.length sc),ptr q,.bool true])/\Step o (Six j) w m w'/\vo W m j w' q c (gJ M)/\ah (Free m w') w' u 32 (x.head.map bv)
section
variable{W w:World}{o:Mark}{i j n d:Nat}
theorem FP{b:I8}{cl:Prop}{cw c:Int}(hD:dw o i w d n b cl cw)(hM:Marks W o w)(hj:0<j)(k:Nat)(Q:k=0\/k=1)(x:uD)(M:dQ)(hP:UR n c x M)(hb:secs b (bR n k) (n/4)=AX n x):
  Dy 173 #[ptr d,.agg (aU n),.int .i64 (k:Int)] w (PtRet W o j w c x M):=by
 have hl:=hD.len;have aN:bR n k+n/4<=n:=by unfold bR;rcases Q with rfl|rfl<;>omega
 have UC:acr (∀u,Dy 94 #[.agg (aU n),.int .i64 (k:Int)] u λ e u'=>e= .returned (.tuple #[.int .i64 ((bR n k:Nat):Int),.int .i64 0])/\Below u.heap.size u u'):=acp λ u=>by
  have E:=uw n hl.2.1 hl.2.2 k (by omega) u
  rwa [show 1+(k:Int)*((n:Int)/4)=((bR n k:Nat):Int)by unfold bR;rcases Q with rfl|rfl<;>omega]at E
 obtain⟨first,aL⟩:∃first,first=bR n k:=⟨_,rfl⟩
 rw[<-aL]at aN UC hb;have GK:=acp (λ(j:Nat) (hj:j<n) (u:World) (hb:Below w.heap.size w u)=>J3 (hD.grow hb) j hj);obtain⟨B,U⟩:∃B,B=(w.alloc (.cells (aU n) 58)).alloc (.cells #[.int .u64 0,.int .u64 0,.int .i64 0,.slice none 0 0,.slice none 0 0] 86):=⟨_,rfl⟩;obtain⟨gL,bD,bT⟩:=jQ _ _ _ _ U;have H:B.heap[w.heap.size+1]? =some (.cells #[.int .u64 0,.int .u64 0,.int .i64 0,.slice none 0 0,.slice none 0 0] 86 (0,0)):=by
  have E:=(MapKept.heap_alloc (w.alloc (.cells (aU n) 58)) (.cells #[.int .u64 0,.int .u64 0,.int .i64 0,.slice none 0 0,.slice none 0 0] 86)).1;rw[Pe]at E;rw[U];exact E
 obtain⟨m,hm⟩:∃m,m=n/4:=⟨_,rfl⟩;have X:((n:Int)/4)=(m:Int):=by omega
 have V:=acp (λ(u:World) (hb:Below B.heap.size B u)=>dL (n:=n) ((hb.block w.heap.size (by omega)).trans bT));rw[X]at V;have YR:=acp (λ(a:Mx) (N c:Nat) (hN:N=m*128) (u:World) (S:Nat->Prop) (hr:ah S u a N ((AX n x).map bv)) (hc:N<=c)=>YQ n hl.2.1 hl.2.2 x hP.mark hP.room a N c (by omega) u hr hc);have HL:=acp hl.1;have wR:=acp hb;have HD:=acp hD;have HM:=acp hM;have WT:=acp hP;have pU:=acp H;have aC:=acp U;have bS:=acp bD;have kg:=acp X;have DR:=acp hm;have kW:=hl.2.2;have jw:m<=1024:=by omega
 obtain⟨i0,iE,dV,iN,gy⟩:=aaq Tryz.vL;unfold aU at UC YR aC⊢;rw[X]at UC YR aC⊢;rw[<-hm]at aN;have GX:w.heap.size+1<B.heap.size:=by omega
 obtain⟨p0,p1,p2⟩:=V.o B acu;clear hD hM hP hb U bD bT H gL Q aL hl hm X;go_enter Tryz.func173,Tryz.ntmps173;go_wp2_with fail;rw[<-aC.o];refine(UC.o B).mono ?_;rintro e w3 ⟨rfl,A⟩;have bq:=acp A;clear A p0 p1 p2;obtain⟨p0,p1,p2⟩:=V.o w3 bq.o;go_wp2_with fail
 go_loopw [11,26] (λ v iv wr=>∃j:Nat,j<=m/\iv= .int .i64 j/\wr.ownsRow B.heap.size 5 1 v (j*128) ((secs b first j).map bv)/\Below B.heap.size B wr) (λ _ iv _=>m-(intOf iv).toNat)
 case atStart=>exact⟨0,by omega,rfl,⟨by simp[secs],.inl ⟨rfl,rfl⟩⟩,bq.o⟩
 case round=>
  obtain⟨O,ko,rfl,G,F⟩:=hrel;have HB:=acp F;have HO:=acp G;obtain⟨av,cv,rfl,dI⟩:=bg G;have jL:=F.size;clear G p0 p1 p2;by_cases aJ:O<m
  ·have hd:decide ((O:Int)<(m:Int))=true:=aak (by omega);have dM:decide (O<m)=true:=aak aJ;obtain⟨z,hz⟩:∃z,z=first+O:=⟨_,rfl⟩
   have e1:IntKind.i64.wrap ((first:Int)+(O:Int))=(z:Int):=by rw[aaf _ (by omega)];omega
   have HC:=acp (GK.o z (by omega) _ (bS.o.trans (F.mono (by omega))));have jm:(rowsOf b z).length=128:=kR HL.o (by omega);have iM:=acp hz;clear F hz;go_wp2_with fail;refine HC.o.mono ?_;rintro e w5 ⟨a3,c3,rfl,jc,dn,A⟩;have iD:=acp dn;have LV:=acp (f_ HO.o A);have dK:=acp (HB.o.trans (A.mono HB.o.size));have jy:=A.size;clear dn A HC;go_wp2_with (at_builtin;refine bU (by rfl) _ _ 30 (by rfl) B.heap.size 5 i0 (.int .u8 0) 1 Tryz.underlying30 iE dV iN gy rfl _ _ _ (by rfl) LV.o a3 128 c3 ((rowsOf b z).map bv) (by rfl) iD.o (jA _) (by unfold maxLen;omega) (by omega) (by omega) ?_;intro A' c' w4 kN cB _ _;have Xw:=acp kN;have Z0:=acp cB;clear kN cB);go_roundw
   case rel=>
    refine⟨O+1,by omega,by go_num,?_,dK.o.trans ((Keeps.grown Z0.o).bS dK.o.size λ y hy e=>by have:=aZ LV.o y e;omega)⟩;rw[IZ,<-iM.o,aas,show(O+1)*128=O*128+128 by omega];exact Xw.o
   case measure=>simp[intOf];omega
  ·have hd:decide ((O:Int)<(m:Int))=false:=aad (by omega);have dM:decide (O<m)=false:=aad aJ;obtain rfl:m=O:=by omega
   obtain⟨q0,q1,q2⟩:=V.o _ F;have ni:acr (Dy 221 #[.agg #[.int .i64 (n:Int),.int .i64 (m:Int),.int .i64 (((n:Int)-1-2*(m:Int))/8)],.slice av (m*128) cv] _ (MkRet _ x)):=acp (YR.o av (m*128) cv rfl _ _ (by have E:=(ah.mU HO.o).2;rw[DR.o]at E⊢;rw[wR.o]at E;exact E) dI);clear F;go_wp2_with fail;refine ni.o.mono ?_;rintro e w6 ⟨ha,hc,sa,sc,rfl,bn,jl,aF,jv,Y⟩;obtain⟨K,P⟩:∃K,K=w6.alloc (.cells (mg x ha hc sa x.state.length sc) 86):=⟨_,rfl⟩;have jG:Below w6.heap.size w6 K:=by rw[P];exact wall w6 _
   have R:K.heap[w6.heap.size]? =some (.cells (mg x ha hc sa x.state.length sc) 86 (0,0)):=by rw[P];exact(MapKept.heap_alloc w6 _).1
   have gM:w6.heap.size<K.heap.size:=(qW.1 R).1;have C:Below B.heap.size B K:=HB.o.trans ((Y.trans (jG.mono Y.size)).mono HB.o.size);have I:Below w.heap.size w K:=bS.o.trans (C.mono (by omega));obtain⟨o2,ak,aA,H⟩:=cK HM.o (j+5) (λ y=>y=w.heap.size+1) (w':=K) (λ y hy=>by subst hy;have:=C.size;omega) I;have Nr:=acp ak;have EK:=acp (HM.o.step (λ e=>by omega) ak);have aD:∀y,w.heap.size<=y->y≠w.heap.size+1->o2 y=0:=λ y hy fT=>by
    rw[H y fT];exact Wy λ E=>by have:=(HM.o.new y E).2;omega
   clear ak H;have jo:=Y.size;have uW:acr (ah (λ y=>B.heap.size<=y/\y<K.heap.size) K ha 32 (x.head.map bv)):=acp ((bn.below jG acs).mono λ y hy=>⟨by omega,by omega⟩);have dN:=acp (WT.o.load _ _ _ _ EK.o j hj sa x.state.length sc (by have E:=aF.below jG acs;rw[WT.o.state]at E⊢;exact E));obtain⟨c0,c1,c2,c3,c4⟩:=gY R;have Z4:=acp R;have iO:=acp I;have D:=acp C;unfold mg at P⊢;clear bn aF Y jG R C I ni q0 q1 q2;go_wp2_with fail;rw[<-P];clear P;refine dN.o.mono ?_;rintro e w8 ⟨q,o8,rfl,vV,bf⟩;have aH:¬Five j 0:=λ e=>by have:=e.1;omega
   have iT:=vV.keep.size;have dG:=(vV.block gM (by rw[aD _ (by omega) (by omega)];exact aH)).trans Z4.o;have J:w8.heap[w.heap.size+1]? =some (.cells #[.int .u64 0,.int .u64 0,.int .i64 0,.slice none 0 0,.slice none 0 0] 86 (0,0)):=(vV.block (by have:=D.o.size;omega) (by rw[aA _ rfl];exact λ e=>by have:=e.2;omega)).trans ((D.o.block _ (by omega)).trans pU.o);obtain⟨c0,c1,c2,c3,c4⟩:=gY dG;have Gd:acr (ah (Free o8 w8) w8 ha 32 (x.head.map bv)):=acp (ah.free (o:=o2) (w:=K) (uW.o.mono λ y hy=>⟨aD y (by omega) (by omega),hy.2⟩) aH vV);have fK:o8 (w.heap.size+1)=j+5:=(vV.old _ (by have:=D.o.size;omega)).trans (aA _ rfl);have ZP:=acp vV;have Z:=acp bf;have ig:=acp J;clear vV bf dG J aD aA;go_wp2_with (refine aj (by rfl) 86 _ _ (by rfl) (w.heap.size+1) (mg x ha hc sa x.state.length sc) (by rfl) (by rfl) _ ig.o zo rfl (by simp[mg,Value.oneCell']) ?_;intro wG zG;have mR:=acp zG;clear zG c0 c1 c2 c3 c4);refine J7 rfl rfl rfl rfl rfl mR.o.1 rfl ?_;have d9:w.heap.size+1<w8.heap.size:=by have:=D.o.size;omega
   have sK:Step o8 (λ k=>k=j+5) w8 o8 wG:=⟨λ _ _=>rfl,λ b hb hn=>by have:=(Z.o.marks.new b hn).2;omega,mR.o.2.1.mono λ b _ (e:b=_)=>by rw[e];exact fK⟩;have aB:¬(0=j+5):=by omega
   refine⟨ha,hc,sa,sc,q,o8,rfl,((Nr.o.mono λ k Q=> ?_).trans (ZP.o.mono λ k Q=> ?_)).trans (sK.mono λ k Q=> ?_),⟨Z.o.st.step aB (by omega) (by omega) (by omega) sK,Z.o.marks.step aB sK,Z.o.ok⟩,Gd.o.free aB sK⟩
   ·subst Q;exact⟨by omega,by omega⟩
   ·exact⟨Q.1,by have:=Q.2;omega⟩
   ·subst Q;exact⟨by omega,by omega⟩
end
def SEqIs(w:World)(r:Bool)(e:Ending)(w':World):Prop:=e= .returned (.bool r)/\∃q,w'=w.drewN q
theorem YS{xs m:I8}{k:Nat}(y:k<xs.length)(u:k<m.length)(h:xs.take k=m.take k)(z:xs[k]=m[k]):xs.take (k+1)=m.take (k+1):=by
 rw[aai y,aai u,h,z]
theorem Qi{S S':Nat->Prop}(a b:Mx)(Z cb:Nat)(xs u:I8)(w:World)(E:ah S w a xs.length (xs.map bv))(I:ah S' w b u.length (u.map bv)):
  Dy 220 #[.slice a xs.length Z,.slice b u.length cb] w (SEqIs w (decide (xs=u))):=by
 have G:=E.small;have D:=I.small;unfold maxLen at G D;by_cases C:xs.length=u.length
 ·have K:((xs.length:Int) !=(u.length:Int))=false:=by simp[C]
  obtain⟨n,O⟩:∃n,n=xs.length:=⟨_,rfl⟩;rw[<-O]at C E G K⊢;rw[<-C]at I D K⊢;have HA:=acp E;have HB:=acp I;have R:=acp C;have P:=acp O;have e2:((n:Int) !=(n:Int))=false:=by simp
  clear E I C O K D;go_enter Tryz.func220,Tryz.ntmps220;go_wp2
  go_loopw [13] (λ i wr=>∃k q:Nat,k<=n/\i= .int .i64 k/\wr=w.drewN q/\acr (xs.take k=u.take k)) (λ i _=>n-(intOf i).toNat)
  case atStart=>exact⟨0,0,by omega,rfl,rfl,show _=_ by simp⟩
  case round=>
   obtain⟨k,q,hk,rfl,rfl,X⟩:=hrel;by_cases A:k<n
   ·obtain⟨b1,o1,rfl,_,_,J⟩:=HA.o.at_ (by omega);obtain⟨b2,o2,rfl,_,_,H⟩:=HB.o.at_ (by omega);have U:k<xs.length:=by rw[<-P.o];exact A
    have W:k<u.length:=by rw[<-R.o];exact A
    have g1:w.cell? ⟨b1,o1+k,none⟩=some (bv xs[k]):=by rw[J k A,List.getElem?_map,List.getElem?_eq_getElem U];rfl
    have Q:w.cell? ⟨b2,o2+k,none⟩=some (bv u[k]):=by rw[H k A,List.getElem?_map,List.getElem?_eq_getElem W];rfl
    have i0:(0:Int)<=(k:Int):=by omega
    have i1:(k:Int)<(n:Int):=by omega
    clear J H;have N:=λ h=>YS U W X.o h;by_cases m:xs[k]=u[k]
    ·have Y:=acp (N m);have F:((xs[k].toNat:Int) !=(u[k].toNat:Int))=false:=by simp[m]
     clear N;generalize xs[k]=x at g1 F m;generalize u[k]=y at Q F m;have M:=acp m;clear m;go_wp2
     go_quiet (fail)
     go_wp2;go_roundw
     case rel=>exact⟨k+1,_,by omega,by go_num,rfl,Y⟩
     case measure=>simp[intOf];omega
    ·have z:xs≠u:=λ h=>m (by subst h;rfl);have F:((xs[k].toNat:Int) !=(u[k].toNat:Int))=true:=by simp;intro h;exact m (abI.1 (by omega))
     have B:=acp z;clear N z;generalize xs[k]=x at g1 F m;generalize u[k]=y at Q F m;have M:=acp m;clear m;go_wp2
     go_quiet (fail)
     go_wp2;go_ret;exact⟨iW (by simp[B.o]),_,World.drewN_drewN _ _ _⟩
   ·obtain rfl:k=n:=by omega
    have V:xs=u:=by
     have:=X.o;rw[List.take_of_length_le (by rw[<-P.o];omega),List.take_of_length_le (by rw[<-R.o];omega)]at this;exact this
    have HE:=acp V;clear V;go_wp2;go_ret;exact⟨iW (by simp[HE.o]),_,rfl⟩
 ·have K:((xs.length:Int) !=(u.length:Int))=true:=by simp;omega
  have z:xs≠u:=λ h=>C (by rw[h]);have B:=acp z;clear z C E I;go_enter Tryz.func220,Tryz.ntmps220;go_wp2;go_ret;exact⟨iW (by simp[B.o]),0,rfl⟩
theorem Qj{S S':Nat->Prop}(a b:Mx)(n u y:Nat)(xs:I8)(w:World)(m:ah S w a n (xs.map bv))(z:ah S' w b n (xs.map bv)):
  Dy 220 #[.slice a n u,.slice b n y] w (SEqIs w true):=by
 have A:xs.length=n:=by have:=m.length;simpa using this
 subst A;have:=Qi a b u y xs xs w m z
 rwa [show decide (xs=xs)=true by simp]at this
def RetNE(w:World)(n:Int)(m:I8)(e:Ending)(w':World):Prop:=
 ∃a c,e= .returned (.tuple #[.int .i64 n,.slice a m.length c,.int .i64 0])/\qj m.length c/\ah (λ b=>w.heap.size<=b/\b<w'.heap.size) w' a m.length (m.map bv)/\Below w.heap.size w w'
theorem MR{S:Nat->Prop}(n:Nat)(h0:64<=n)(h1:n<=4096)(id:I8)(m:id.length=16)(a:Mx)(c:Nat)(w:World)(D:ah S w a 128 ((iP n id).map bv)):Dy 172 #[.slice a 128 c] w (RetNE w n id):=by
 have Qk:=acp (λ(S:Nat->Prop) (a:Mx) (cp:Nat) (w:World) (D:ah S w a 16 (id.map bv))=>IQ n h0 h1 id m a cp w D);have U:=qD n m;obtain⟨I,F⟩:∃I,I=bF (nk (lK n id)/65536) 2++bF (nk (lK n id)) 2++List.replicate 100 0:=⟨_,rfl⟩;obtain⟨V,A⟩:∃V,V=id++I:=⟨_,rfl⟩;obtain⟨r2,u⟩:∃r2,r2=bF (n:Int) 2++V:=⟨_,rfl⟩;obtain⟨r1,z⟩:∃r1,r1=bF 1 2++r2:=⟨_,rfl⟩;have Wd:acr (iP n id=uQ++r1):=by
  show iP n id=_;rw[z,u,A,F];unfold iP lK;simp only[List.append_assoc]
 have mo:=acp z;have av:=acp u;have xR:=acp A;have N:=acp (yI w w acu a 128 c (iP n id) (by omega) D);have dV:=acp D;have aH:uQ.length=4:=rfl;obtain⟨B,hB⟩:∃B,B=iP n id:=⟨_,rfl⟩;rw[<-hB]at Qk N dV U Wd;have EM:=acp m;clear D z u A F hB;go_enter Tryz.func172,Tryz.ntmps172;go_wp2_with fail;refine N.o.mono ?_;rintro e w1 ⟨H,rfl,hx,lN,ak⟩;have HC:acr (Dy 155 #[ptr H,.int .i64 4] w1 (wo w w1 H uQ r1)):=wu lN 4 Wd.o rfl (by omega);clear N lN ak;go_wp2_with fail;refine HC.o.mono ?_;rintro e w2 ⟨a2,c2,rfl,Y,u,E,O⟩;have xI:=acp (jC E 1 mo.o (by omega) (by omega));clear HC E O u Y;go_wp2_with fail;refine xI.o.mono ?_;rintro e w3 ⟨rfl,JE,Z⟩;have Gx:=acp (jC JE (n:Int) av.o (by omega) (by omega));clear xI JE Z;go_wp2_with fail;refine Gx.o.mono ?_;rintro e w4 ⟨rfl,M,R⟩;have Ns:acr (Dy 155 #[ptr H,.int .i64 16] w4 (wo w w4 H id I)):=wu M 16 xR.o m.symm (by omega);have aA:=M.below.size;clear Gx M R;go_wp2_with fail;refine Ns.o.mono ?_;rintro e w5 ⟨a5,c5,rfl,G,K,Vz,W⟩;have oD:=acp K;have P:=acp Vz.below;rw[m]at K;have Vu:=acp (Qk.o _ a5 c5 w5 K);have C:=G;rw[m]at C;clear Ns Vz W K Qk;go_wp2_with fail;refine Vu.o.mono ?_;rintro e X ⟨a6,n6,c6,rfl,aB,B_,y⟩;obtain rfl:n6=128:=by have:=B_.length;rw[List.length_map]at this;omega
 have Q:=acp (P.o.trans (y.mono P.o.size));have yL:=acp (oD.o.below y acs);have HE:=acp (Qj a6 a 128 c6 c B X B_ (dV.o.below Q.o acs));have aC:=P.o.size;have aD:=y.size;clear B_ y Vu;go_wp2_with fail;refine HE.o.mono ?_;rintro e w7 ⟨rfl,q,hq⟩;have J:Below X.heap.size X w7:=by rw[hq];exact⟨rfl,rfl,rfl,Nat.le_refl _,λ _ _=>rfl⟩
 have nE:=acp (Q.o.trans (J.mono Q.o.size));have uW:=acp (yL.o.below J acs);have aF:=J.size;clear hq J HE yL oD;go_wp2_with fail
 go_ret3
 refine⟨a5,c5,by rw[m];rfl,G,uW.o.mono λ b hb=>⟨by omega,by omega⟩,nE.o⟩
theorem UU{B:Func}{C u A:Nat}{Q:Ending->World->Prop}{a:Act}{w:World}{b:Nat}{m:Array Value}{y z:Value}(J:B.results= #[.cell C 58,.tmp u,.tmp A])(F:a.tmps.getD C undef= .pointer (some ⟨b,0,none⟩))(I:a.tmps.getD u undef=y)(D:a.tmps.getD A undef=z)(E:a.defers=[])(G:w.heap[b]? =some (.cells m 58 (0,0)))(K:m.size=3)(H:Q (.returned (.tuple #[.agg m,y,z])) w):
  bodyPost Tryz.prog B Q .ret a w:=by
 subst I D;exact aav (v:= .tuple #[.agg m,a.tmps.getD u undef,a.tmps.getD A undef]) (oh J F (aaS w b 58 58 _ (0,0) _ G Tryz.underlying58 rfl (by rw[K];exact BS))) E H
section
variable{W w:World}{o:Mark}{i j n d:Nat}
theorem Ql{b:I8}{cl:Prop}{cw:Int}(hD:dw o i w d n b cl cw)(id:I8)(V:id.length=16)(hb:rowsOf b 0=iP n id):
  Dy 103 #[ptr d] w λ e w'=>∃a c,e= .returned (.tuple #[.agg (aU n),.slice a 16 c,.int .i64 0])/\16<=c/\ah (λ y=>w.heap.size<=y/\y<w'.heap.size) w' a 16 (id.map bv)/\Below w.heap.size w w':=by
 have N:=hD.len;obtain⟨D,B⟩:∃D,D=w.alloc (.cells #[.int .i64 0,.int .i64 0,.int .i64 0] 58):=⟨_,rfl⟩;have m:Below w.heap.size w D:=by rw[B];exact wall w _
 have G:D.heap[w.heap.size]? =some (.cells #[.int .i64 0,.int .i64 0,.int .i64 0] 58 (0,0)):=by rw[B];exact(MapKept.heap_alloc w _).1
 have aN:w.heap.size<D.heap.size:=(qW.1 G).1;have GK:=acp (J3 (hD.grow m) 0 (by omega));rw[hb,show((0:Nat):Int)=0 from rfl]at GK;have P:=acp (λ(u:World) (hb:Below D.heap.size D u)=>qF (hD.grow (m.trans (hb.mono m.size))));have Qk:=acp (λ(a:Mx) (c:Nat) (u:World) (S:Nat->Prop) (hr:ah S u a 128 ((iP n id).map bv)) (hc:128<=c)=>MR n N.2.1 N.2.2 id V a c u hr);have Ry:=acp (λ u=>xL n N.2.1 N.2.2 u);have Y:=acp m;have qP:=acp G;have ak:=acp B;have EM:=acp V;unfold aU at Ry;clear hD m G B N hb;go_enter Tryz.func103,Tryz.ntmps103;go_wp2_with fail;rw[<-ak.o];refine GK.o.mono ?_;rintro e w2 ⟨a2,c2,rfl,aD,R,M⟩;have X:=acp (Qk.o a2 c2 w2 _ R aD);have U:=acp M;clear R M;go_wp2_with fail;refine X.o.mono ?_;rintro e w3 ⟨a3,c3,rfl,K,H,O⟩;rw[EM.o]at H K⊢;have aA:=U.o.size;have E:=acp (U.o.trans (O.mono aA));have aB:=acp (H.mono λ y hy=>(⟨by omega,hy.2⟩:D.heap.size<=y/\y<w3.heap.size));clear H O X;go_wp2_with fail;refine(P.o w3 E.o).mono ?_;rintro e _ ⟨rfl,rfl⟩;go_wp2_with fail;refine(Ry.o w3).mono ?_;rintro e J ⟨rfl,C⟩;have aF:=E.o.size;have dI:=acp (E.o.trans (C.mono aF));have av:=acp (aB.o.below C acs);have aJ:=C.size;clear C;obtain⟨Z,I⟩:∃Z,Z=J.alloc (.cells (aU n) 58):=⟨_,rfl⟩;have A:Below J.heap.size J Z:=by rw[I];exact wall J _
 have Q:Z.heap[J.heap.size]? =some (.cells (aU n) 58 (0,0)):=by rw[I];exact(MapKept.heap_alloc J _).1
 have dK:=acp (dI.o.trans (A.mono (by omega)));have oD:=acp (av.o.below A (by omega));have z:Z.heap[w.heap.size]? =some (.cells #[.int .i64 0,.int .i64 0,.int .i64 0] 58 (0,0)):=(dK.o.block _ (by omega)).trans qP.o;have F:=acp z;obtain⟨c0,c1,W⟩:=dL Q;have aH:=A.size;unfold aU at I;clear A z Q;have xS:=acp I;rw[I]at c0 c1 W;clear I;go_wp2_with (rw[<-xS.o];refine aj (by rfl) 58 _ _ (by rfl) w.heap.size (aU n) (by rfl) (by rfl) _ F.o BS rfl (Uw n) ?_;intro wG zG;have mR:=acp zG;clear zG c0 c1 W);refine UU rfl rfl rfl rfl rfl mR.o.1 rfl ?_;have hk:=mR.o.2.1;have hz:=hk.size;have aL:=dK.o.size;exact⟨a3,c3,rfl,K.1,(oD.o.kept hk.size λ y hy aC=>hk.block y aC λ(e:y=_)=>by omega).mono λ y hy=>⟨by omega,by omega⟩,mR.o.below (Y.o.trans (dK.o.mono Y.o.size)) acs⟩
end
theorem Qm(x y:uD)(H:Mx)(J:Nat)(sa:Mx)(sn sc:Nat)(C:Mx)(A:Nat)(B:Mx)(E D:Nat)(w:World):Dy 174 #[.agg (mg x H J sa sn sc),.agg (mg y C A B E D),.bool true,.bool true] w λ e w'=>e= .returned (.tuple #[.int .i64 (if y.gen<=x.gen then 0 else 1),.bool true])/\Below w.heap.size w w':=by
 obtain⟨I,m⟩:∃I,I=(w.alloc (.cells (mg x H J sa sn sc) 86)).alloc (.cells (mg y C A B E D) 86):=⟨_,rfl⟩;obtain⟨F,u,z⟩:=jQ _ _ _ _ m;have G:=acp u;unfold mg at m⊢;by_cases h:y.gen<=x.gen
 ·have K:decide (y.gen<=x.gen)=true:=aak h;rw[if_pos h];clear F u z;go_enter Tryz.func174,Tryz.ntmps174;go_wp2_with fail;rw[<-m]
  go_ret2
  exact⟨rfl,G.o⟩
 ·have K:decide (y.gen<=x.gen)=false:=aad h;rw[if_neg h];clear F u z;go_enter Tryz.func174,Tryz.ntmps174;go_wp2_with fail;rw[<-m]
  go_ret2
  exact⟨rfl,G.o⟩
theorem ah.grow'{W w w':World}{o:Mark}{a:Mx}{m:Nat}{vs:List Value}(h:ah (Free o w) w a m vs)(y:Below w.heap.size w w')(z:Marks W o w):ah (Free o w') w' a m vs:=
 (h.below y acs).mono λ _ u=>⟨u.1,Pd u.2 y.size⟩
abbrev Nw(j:Nat):Nat->Prop:=λ m=>j<=m/\m<=j+12
def FQ(W:World)(o:Mark)(z j:Nat)(w:World)(c:Int)(x:uD)(M:dQ)(e:Ending)(w':World):Prop:=
 ∃u y sa sc q m,e= .returned (.tuple #[.agg (mg x u y sa x.state.length sc),ptr q,.bool true])/\Step o (Nw z) w m w'/\vo W m j w' q c (gJ M)/\ah (Free m w') w' u 32 (x.head.map bv)
section
variable{W w:World}{o:Mark}{i j n d:Nat}
theorem Qn{b:I8}{cl:Prop}{cw c:Int}(hD:dw o i w d n b cl cw)(hM:Marks W o w)(hj:0<j)(iO:i<j)(x y:uD)(M N:dQ)(hP:UR n c x M)(hQ:UR n c y N)(dG:secs b (bR n 0) (n/4)=AX n x)(fK:secs b (bR n 1) (n/4)=AX n y):
  Dy 104 #[ptr d,.agg (aU n)] w λ e w'=>(y.gen<=x.gen/\FQ W o j j w c x M e w')\/(¬y.gen<=x.gen/\FQ W o j (j+6) w c y N e w'):=by
 obtain⟨w2,av⟩:∃w2,w2=(w.alloc (.cells (aU n) 58)).alloc (.cells #[.int .u64 0,.int .u64 0,.int .i64 0,.slice none 0 0,.slice none 0 0] 86):=⟨_,rfl⟩;obtain⟨jc,dK,bn⟩:=jQ _ _ _ _ av;have bD:w2.heap[w.heap.size+1]? =some (.cells #[.int .u64 0,.int .u64 0,.int .i64 0,.slice none 0 0,.slice none 0 0] 86 (0,0)):=by
  have h9:=(MapKept.heap_alloc (w.alloc (.cells (aU n) 58)) (.cells #[.int .u64 0,.int .u64 0,.int .i64 0,.slice none 0 0,.slice none 0 0] 86)).1;rw[Pe]at h9;rw[av];exact h9
 obtain⟨o2,Y,bT,dM⟩:=cK hM (j+12) (λ y=>y=w.heap.size+1) (w':=w2) (λ y hy=>by subst hy;omega) dK;have aN:=hM.step (λ e=>by omega) Y;have aJ:=hD.step (λ e=>by omega) Y;have dI:¬Six j 0:=λ e=>by have:=e.1;omega
 have aB:¬Six (j+6) 0:=λ e=>by have:=e.1;omega
 have YT:o2 w.heap.size=0:=by
  rw[dM _ (by omega)];exact Wy λ h9=>by have:=(hM.new _ h9).2;omega
 have aH:acr (Dy 173 #[ptr d,.agg (aU n),.int .i64 0] w2 (PtRet W o2 j w2 c x M)):=acp (FP aJ aN hj 0 (.inl rfl) x M hP dG);have bq:=acp (λ(X:Mark) (C:World) (Er:Marks W X C) (ig:dw X i C d n b cl cw)=>FP ig Er (by omega:0<j+6) 1 (.inr rfl) y N hQ fK);have HP:=acp (λ(X:Mark) (C:World) (I:Nat->Prop) (h0:¬I 0) (hs:Step o2 I w2 X C)=>dL (n:=n) ((hs.block (by omega) (by rw[YT];exact h0)).trans bn));have HM:=acp hM;have tF:=acp aN;have iM:=acp aJ;have Nr:=acp Y;have gL:=acp av;have pU:=acp bD;have yH:=acp (bT _ rfl);obtain⟨p0,p1,p2⟩:=dL (n:=n) bn;unfold aU at aH bq gL⊢;clear hD hM hP hQ dG fK av dK bn bD Y aN aJ bT dM YT;go_enter Tryz.func104,Tryz.ntmps104;go_wp2_with fail;rw[<-gL.o];refine aH.o.mono ?_;rintro e C ⟨ha,hc,sa,sc,q,X,rfl,aA,Gf,gy⟩;have iT:=aA.keep.size;have Er:=Gf.marks;obtain⟨w4,D⟩:∃w4,w4=C.alloc (.cells (mg x ha hc sa x.state.length sc) 86):=⟨_,rfl⟩;have E:Below C.heap.size C w4:=by rw[D];exact wall C _
 have aL:w4.heap[C.heap.size]? =some (.cells (mg x ha hc sa x.state.length sc) 86 (0,0)):=by rw[D];exact(MapKept.heap_alloc C _).1
 have iD:C.heap.size<w4.heap.size:=(qW.1 aL).1;have sQ:=Er.grow E;have pF:=Gf.grow E;have DL:X C.heap.size=0:=Wy λ h9=>by have:=(Er.new _ h9).2;omega
 have aF:Step o2 (Six j) w2 X w4:=aA.then_ tF.o dI E;have fT:=acp (bq.o X w4 sQ ((iM.o.step (λ e=>by have:=e.1;omega) aA).grow E));obtain⟨p0,p1,p2⟩:=HP.o X w4 _ dI aF;have Vt:=acp aL;have jl:=acp aF;have rM:=acp pF;have iE:=acp (gy.grow' E Er);have Uq:=acp DL;unfold mg at D⊢;rw[D]at p0 p1 p2;rw[show((1:Nat):Int)=1 from rfl]at fT;clear aA Gf gy Er E aL sQ pF DL aF aH bq;go_wp2_with fail;rw[<-D];clear D;refine fT.o.mono ?_;rintro e w5 ⟨Q,H,U,J,q',V,rfl,ak,bf,BI⟩;have jm:=ak.keep.size;have Kn:=bf.marks;obtain⟨z,Kw⟩:∃z,z=w5.alloc (.cells (mg y Q H U y.state.length J) 86):=⟨_,rfl⟩;have B:Below w5.heap.size w5 z:=by rw[Kw];exact wall w5 _
 have aC:z.heap[w5.heap.size]? =some (.cells (mg y Q H U y.state.length J) 86 (0,0)):=by rw[Kw];exact(MapKept.heap_alloc w5 _).1
 have ZM:w5.heap.size<z.heap.size:=(qW.1 aC).1;have G:z.heap[C.heap.size]? =some (.cells (mg x ha hc sa x.state.length sc) 86 (0,0)):=(B.block _ (by omega)).trans ((ak.block iD (by rw[Uq.o];exact aB)).trans Vt.o);have K:Step X (Six (j+6)) w4 V z:=ak.then_ rM.o.marks aB B;have BD:=acp (Kn.grow B);have Ci:=acp (bf.grow B);have yL:=acp (BI.grow' B Kn);have cB:acr (vo W V j z q c (gJ M)):=acp ⟨rM.o.st.step aB (λ e=>by have:=e.1;omega) (λ e=>by have:=e.1;omega) (λ e=>by have:=e.1;omega) K,Kn.grow B,rM.o.ok⟩;have d9:=acp (iE.o.free aB K);have O:Step o2 (Nw j) w2 V z:=(jl.o.mono λ k hk=>⟨hk.1,by have:=hk.2;omega⟩).trans (K.mono λ k hk=>⟨by have:=hk.1;omega,by have:=hk.2;omega⟩);have aD:=acp ((Nr.o.mono λ k hk=>(⟨by omega,by omega⟩:Nw j k)).trans O);have dn:V (w.heap.size+1)=j+12:=(O.old _ (by omega)).trans yH.o;have P:z.heap[w.heap.size+1]? =some (.cells #[.int .u64 0,.int .u64 0,.int .i64 0,.slice none 0 0,.slice none 0 0] 86 (0,0)):=(K.block (by omega) (by rw[jl.o.old _ (by omega),yH.o];exact λ e=>by have:=e.2;omega)).trans ((jl.o.block (by omega) (by rw[yH.o];exact λ e=>by have:=e.2;omega)).trans pU.o);have UW:=acp (λ u=>Qm x y ha hc sa x.state.length sc Q H U y.state.length J u);have gM:=acp (λ(u:World) (hb:Below z.heap.size z u)=>(hb.block _ (by omega)).trans G);have iN:=acp (λ(u:World) (hb:Below z.heap.size z u)=>(hb.block _ (by omega)).trans aC);have dV:=acp (λ(u:World) (hb:Below z.heap.size z u)=>(hb.block _ (by omega)).trans P);obtain⟨c0,c1,c2,c3,c4⟩:=gY aC;obtain⟨e0,e1,e2,e3,e4⟩:=gY G;have dN:=Kw;unfold mg at Kw UW⊢;have Bq:=acp Kw;rw[Kw]at c0 c1 c2 c3 c4 e0 e1 e2 e3 e4;clear ak bf BI Kn B aC G K O P Kw dN p0 p1 p2;go_wp2_with fail;rw[<-Bq.o]at c0 c1 c2 c3 c4 e0 e1 e2 e3 e4⊢;refine(UW.o z).mono ?_;rintro e w7 ⟨rfl,F⟩;clear c0 c1 c2 c3 c4 e0 e1 e2 e3 e4 UW;by_cases h:y.gen<=x.gen
 ·have HH:=acp h;rw[if_pos h];obtain⟨c0,c1,c2,c3,c4⟩:=gY (gM.o w7 F);have FT:=dV.o w7 F;have uW:=acp (d9.o.grow' F BD.o);have Z:=acp (cB.o.grow F);have bS:w.heap.size+1<w7.heap.size:=(qW.1 FT).1;have S:=acp (aD.o.then_ HM.o (λ e=>by have:=e.1;omega) F);have R:=acp FT;clear FT F;go_wp2_with (refine aj (by rfl) 86 _ _ (by rfl) (w.heap.size+1) (mg x ha hc sa x.state.length sc) (by rfl) (by rfl) _ R.o zo rfl (by simp[mg,Value.oneCell']) ?_;intro wG zG;have mR:=acp zG;clear zG c0 c1 c2 c3 c4);refine J7 rfl rfl rfl rfl rfl mR.o.1 rfl ?_;have sK:Step V (λ k=>k=j+12) w7 V wG:=⟨λ _ _=>rfl,λ b hb hn=>by have:=(Z.o.marks.new b hn).2;omega,mR.o.2.1.mono λ b _ (e:b=_)=>by rw[e];exact dn⟩;have A:¬(0=j+12):=by omega
  have m:FQ W o j j w c x M (.returned (.tuple #[.agg (mg x ha hc sa x.state.length sc),ptr q,.bool true])) wG:=⟨_,_,_,_,_,V,rfl,S.o.trans (sK.mono λ k hk=>⟨by omega,by omega⟩),⟨Z.o.st.step A (by omega) (by omega) (by omega) sK,Z.o.marks.step A sK,Z.o.ok⟩,uW.o.free A sK⟩
  first|exact m|exact .inl m|exact .inr m|exact .inl ⟨HH.o,m⟩|exact .inr ⟨HH.o,m⟩
 ·have HH:=acp h;rw[if_neg h];obtain⟨c0,c1,c2,c3,c4⟩:=gY (iN.o w7 F);have FT:=dV.o w7 F;have uW:=acp (yL.o.grow' F BD.o);have Z:=acp (Ci.o.grow F);have bS:w.heap.size+1<w7.heap.size:=(qW.1 FT).1;have S:=acp (aD.o.then_ HM.o (λ e=>by have:=e.1;omega) F);have R:=acp FT;clear FT F;go_wp2_with (refine aj (by rfl) 86 _ _ (by rfl) (w.heap.size+1) (mg y Q H U y.state.length J) (by rfl) (by rfl) _ R.o zo rfl (by simp[mg,Value.oneCell']) ?_;intro wG zG;have mR:=acp zG;clear zG c0 c1 c2 c3 c4);refine J7 rfl rfl rfl rfl rfl mR.o.1 rfl ?_;have sK:Step V (λ k=>k=j+12) w7 V wG:=⟨λ _ _=>rfl,λ b hb hn=>by have:=(Z.o.marks.new b hn).2;omega,mR.o.2.1.mono λ b _ (e:b=_)=>by rw[e];exact dn⟩;have A:¬(0=j+12):=by omega
  have m:FQ W o j (j+6) w c y N (.returned (.tuple #[.agg (mg y Q H U y.state.length J),ptr q',.bool true])) wG:=⟨_,_,_,_,_,V,rfl,S.o.trans (sK.mono λ k hk=>⟨by omega,by omega⟩),⟨Z.o.st.step A (by omega) (by omega) (by omega) sK,Z.o.marks.step A sK,Z.o.ok⟩,uW.o.free A sK⟩
  first|exact m|exact .inl m|exact .inr m|exact .inl ⟨HH.o,m⟩|exact .inr ⟨HH.o,m⟩
end
section
variable{W w:World}{o:Mark}{i j n d:Nat}
theorem J8{b:I8}{cl:Prop}{cw:Int}(S:dw o i w d n b cl cw)(m:Nat)(hf:m<=1000)(Y:∀k,m<=k->k<fM n->secs b (nu n k) 8=List.replicate 1024 0):
  Dy 106 #[ptr d,.agg (aU n),.int .i64 (m:Int)] w λ e w'=>e= .returned (.bool false)/\Below w.heap.size w w':=by
 have hl:=S.len;obtain⟨z,A⟩:∃z,z=w.alloc (.cells (aU n) 58):=⟨_,rfl⟩;have C:Below w.heap.size w z:=by rw[A];exact wall w _
 have F:z.heap[w.heap.size]? =some (.cells (aU n) 58 (0,0)):=by rw[A];exact(MapKept.heap_alloc w _).1
 have W:w.heap.size<z.heap.size:=(qW.1 F).1;obtain⟨G,N⟩:∃G,G=fM n:=⟨_,rfl⟩;have D:((n:Int)-1-2*((n:Int)/4))/8=(G:Int):=by rw[N];unfold fM;omega
 have Gh:G<=512:=by rw[N];unfold fM;omega
 have Z:=acp (λ(u:World) (B:Below z.heap.size z u)=>dL (n:=n) ((B.block _ W).trans F));rw[D]at Z;have rW:acr (∀k,m<=k->k<G->∀u,Below z.heap.size z u->Dy 110 #[ptr d,.agg #[.int .i64 (n:Int),.int .i64 ((n:Int)/4),.int .i64 (G:Int)],.int .i64 (k:Int)] u λ e w'=>∃a c,e= .returned (.slice a 1024 c)/\1024<=c/\ah (λ x=>u.heap.size<=x/\x<w'.heap.size) w' a 1024 ((List.replicate 1024 (0:UInt8)).map bv)/\Below u.heap.size u w'):=acp λ k h0 y u B=>by
  have V:=FL (S.grow (C.trans (B.mono C.size))) k (by rw[<-N];exact y);unfold aU at V;rw[D,Y k h0 (by rw[<-N];exact y)]at V;exact V
 have P:=acp C;have E:=acp A;unfold aU at E⊢;rw[D]at E⊢;clear S C F A Y hl N D;go_enter Tryz.func106,Tryz.ntmps106;go_wp2_with fail;rw[<-E.o]
 go_loopw [7] (λ R wr=>∃k:Nat,m<=k/\k<=1000+G/\R= .int .i64 k/\Below z.heap.size z wr) (λ R _=>2000+G-(intOf R).toNat)
 case atStart=>exact⟨m,Nat.le_refl _,by omega,rfl,Below.refl _ _⟩
 case round=>
  obtain⟨k,hk,ak,rfl,B⟩:=hrel;have X:=acp B;obtain⟨p0,p1,p2⟩:=Z.o _ B;by_cases y:k<G
  ·have hd:decide ((k:Int)<(G:Int))=true:=aak (by omega);have U:decide (k<G)=true:=aak y;have I:=acp (rW.o k hk y _ B);clear B;go_wp2_with fail;refine I.o.mono ?_;rintro e w3 ⟨a3,c3,rfl,Q,K,J⟩;have O:=acp (rA a3 c3 w3 K Q);have H:=acp (X.o.trans (J.mono X.o.size));clear K J I p0 p1 p2;go_wp2_with fail;refine O.o.mono ?_;rintro e w4 ⟨rfl,M⟩;have dI:=acp (H.o.trans (M.mono H.o.size));unfold Yu;clear M O;go_wp2_with fail;go_roundw
   case rel=>exact⟨k+1,by omega,by omega,by go_num,dI.o.trans ((wall w4 _).mono dI.o.size)⟩
   case measure=>simp[intOf];omega
  ·have hd:decide ((k:Int)<(G:Int))=false:=aad (by omega);have U:decide (k<G)=false:=aad y;clear B;go_wp2_with fail;go_ret;exact⟨rfl,P.o.trans (X.o.mono P.o.size)⟩
end
theorem rgrow0(w:World):Dy 175 #[.slice none 0 0,.int .i64 0] w λ e w'=>e= .returned (.slice none 0 0)/\Below w.heap.size w w':=by
 have m:=acp (Below.refl w.heap.size w);go_enter Tryz.func175,Tryz.ntmps175;go_wp2_with fail;go_ret;exact⟨rfl,m.o⟩
theorem YU(w:World):Dy 107 #[.slice none 0 0] w λ e w'=>e= .returned (.slice none 0 0)/\Below w.heap.size w w':=by
 have z:=acp (rgrow0 w);go_enter Tryz.func107,Tryz.ntmps107;go_wp2_with fail
 go_loopw [3,11] (λ s i wr=>s= .int .i64 0/\i= .int .i64 0/\wr=w) (λ _ _ _=>0)
 case atStart=>exact⟨rfl,rfl,rfl⟩
 case round=>
  obtain⟨rfl,rfl,rfl⟩:=hrel;go_wp2_with fail;refine z.o.mono ?_;rintro e A ⟨rfl,m⟩;have u:=acp m;clear m z;go_wp2_with fail
  go_loopw [6,27] (λ v i y=>v= .slice none 0 0/\i= .int .i64 0/\y=A) (λ _ _ _=>0)
  case atStart=>exact⟨rfl,rfl,rfl⟩
  case round=>
   obtain⟨rfl,rfl,rfl⟩:=hrel;go_wp2_with fail;go_ret;exact⟨rfl,u.o⟩
