/- package -/
import Derived.Test.YthillkfmdndedaaGreatDoorM41
set_option maxRecDepth 100000
set_option maxHeartbeats 64000000
set_option linter.all false
namespace Go.Proofs.YthillkfmdndedaaGreatDoor
open Go.ChangeShapes Go.WideShapes Go.ChangeAt Go.RowKit
def sM(n:Nat)(A:Mx)(D:Nat)(y u C m:Int)(z:Mx)(B:Nat):Array Value:= #[.int .i64 (n:Int),.int .i64 ((n:Int)/4),.int .i64 (((n:Int)-1-2*((n:Int)/4))/8),.slice A 16 D,.int .u64 y,.int .u64 u,.int .i64 C,.int .i64 m,.slice z 32 B]
def rQ:Array Value:= #[.int .i64 0,.int .i64 0,.int .i64 0,.slice none 0 0,.int .u64 0,.int .u64 0,.int .i64 0,.int .i64 0,.slice none 0 0]
theorem rR:(Tryz.prog.info? 60).map (·.size)=some 9:=by kernel_rfl
theorem xO(n:Nat)(A:Mx)(D:Nat)(y u C m:Int)(z:Mx)(B:Nat):(sM n A D y u C m z B).all (·.oneCell')=true:=by simp[sM,Value.oneCell']
theorem J9{D:Func}{sa u B A:Nat}{Q:Ending->World->Prop}{a:Act}{w:World}{b:Nat}{m:Array Value}{x y z:Value}(M:D.results= #[.tmp sa,.tmp u,.cell B 60,.tmp A])(G:a.tmps.getD sa undef=x)(K:a.tmps.getD u undef=y)(H:a.tmps.getD B undef= .pointer (some ⟨b,0,none⟩))(F:a.tmps.getD A undef=z)(E:a.defers=[])(I:w.heap[b]? =some (.cells m 60 (0,0)))(O:m.size=9)(J:Q (.returned (.tuple #[x,y,.agg m,z])) w):
  bodyPost Tryz.prog D Q .ret a w:=by
 subst G K F;have N:=aaS w b 60 60 _ (0,0) _ I Tryz.underlying60 rfl (by rw[O];exact rR);have C:a.tmps[B]?.getD undef= .pointer (some ⟨b,0,none⟩):=by simpa using H
 exact aav (v:= .tuple #[a.tmps.getD sa undef,a.tmps.getD u undef,.agg m,a.tmps.getD A undef]) (by simp[results,M,asAddr,C,N]) E J
theorem lW{w:World}{n b:Nat}{A z:Mx}{D B:Nat}{y u C m:Int}(h:w.heap[b]? =some (.cells (sM n A D y u C m z B) 60 (0,0))):w.cell? ⟨b,0,none⟩=some (.int .i64 (n:Int))/\w.cell? ⟨b,1,none⟩=some (.int .i64 ((n:Int)/4))/\w.cell? ⟨b,2,none⟩=some (.int .i64 (((n:Int)-1-2*((n:Int)/4))/8))/\w.cell? ⟨b,3,none⟩=some (.slice A 16 D)/\w.cell? ⟨b,4,none⟩=some (.int .u64 y)/\w.cell? ⟨b,5,none⟩=some (.int .u64 u)/\w.cell? ⟨b,6,none⟩=some (.int .i64 C)/\w.cell? ⟨b,7,none⟩=some (.int .i64 m)/\w.cell? ⟨b,8,none⟩=some (.slice z 32 B):=by
 refine⟨?_,?_,?_,?_,?_,?_,?_,?_,?_⟩<;>simp[World.cell?,h,sM]
structure RF(n:Nat)(b:I8)(id:I8)(c:Int)(x y:uD)(M N:dQ):Prop where
 idl:id.length=16
 super:rowsOf b 0=iP n id
 p0:secs b (bR n 0) (n/4)=AX n x
 p1:secs b (bR n 1) (n/4)=AX n y
 ok0:UR n c x M
 ok1:UR n c y N
def RG(x y z:uD)(M N L:dQ):Prop:=(y.gen<=x.gen/\z=x/\L=M)\/(¬y.gen<=x.gen/\z=y/\L=N)
structure Last(n:Nat)(b:I8)(id:I8)(z:uD)(k:Nat):Prop where
 dN:z.dN=(k:Int)
 few:k<=fM n
 seq:z.seq<1099511627776
 first:k=0->z.head=Aw id/\z.seq=0
 zero:∀i,k<=i->i<fM n->secs b (nu n i) 8=List.replicate 1024 0
abbrev Mm(j:Nat):Nat->Prop:=λ m=>j<=m/\m<=j+20
def MtGive(W:World)(o:Mark)(j:Nat)(w:World)(n d:Nat)(id:I8)(c:Int)(z:uD)(k:Nat)(L:dQ)(e:Ending)(w':World):Prop:=
 ∃q p y B u A m,e= .returned (.tuple #[ptr q,ptr p,.agg (sM n y B z.gen z.seq k 0 u A),.int .i64 0])/\Step o (Mm j) w m w'/\vo W m (j+14) w' q c (gJ (gJ L))/\gK m (j+20) w' p n d ⟨k,z.head,z.seq+1,[]⟩/\ah (Free m w') w' y 16 (id.map bv)/\ah (Free m w') w' u 32 (z.head.map bv)
def MtCut(w u:World)(g:Nat)(a:Mx)(c:Nat)(head:I8)(n:Nat)(z:Mx)(A:Nat)(y m:Int)(k:Nat):Prop:=
 Below w.heap.size w u/\u.heap[g]? =some (.cells (sM n z A y m k 0 a c) 60 (0,0))/\w.heap.size<=g/\32<=c/\ah (λ b=>w.heap.size<=b/\b<u.heap.size/\b≠g) u a 32 (head.map bv)
section
variable{W w:World}{o:Mark}{i j n d:Nat}
theorem FU{b:I8}{cl:Prop}{cw c:Int}(hD:dw o i w d n b cl cw)(hM:Marks W o w)(hj:0<j)(lN:i<j)(hf:∀x,o x≠j+15)(id:I8)(x y z:uD)(M N L:dQ)(k:Nat)(hI:RF n b id c x y M N)(hN:RG x y z M N L)(hL:Last n b id z k):
  Dy 40 #[ptr d] w (MtGive W o j w n d id c z k L):=by
 have hl:=hD.len;obtain⟨w1,aF⟩:∃w1,w1=w.alloc (.cells rQ 60):=⟨_,rfl⟩;have jm:Below w.heap.size w w1:=by rw[aF];exact wall w _
 have dV:w1.heap[w.heap.size]? =some (.cells rQ 60 (0,0)):=by rw[aF];exact(MapKept.heap_alloc w _).1
 have om:w.heap.size<w1.heap.size:=(qW.1 dV).1;obtain⟨o1,ak,gy,mq⟩:=cK hM (j+13) (λ y=>y=w.heap.size) (w':=w1) (λ y E=>by subst E;omega) jm;have cB:=hM.step (λ e=>by omega) ak;have aJ:=hD.step (λ e=>by omega) ak;have Qk:=acp (Ql aJ id hI.idl hI.super);have bq:acr (∀(u:World) (D:Below w1.heap.size w1 u),Dy 104 #[ptr d,.agg (aU n)] u λ e w'=>∃jz,(jz=j\/jz=j+6)/\FQ W o1 j jz u c z L e w'):=acp λ u D=>(Qn (aJ.grow D) (cB.grow D) hj lN x y M N hI.ok0 hI.ok1 hI.p0 hI.p1).mono λ e w' h=>by
  rcases h with⟨h1,h2⟩|⟨h1,h2⟩<;>rcases hN with⟨h3,rfl,rfl⟩|⟨h3,rfl,rfl⟩
  ·exact⟨j,.inl rfl,h2⟩
  ·exact absurd h1 h3
  ·exact absurd h3 h1
  ·exact⟨j+6,.inr rfl,h2⟩
 have pE:0<=z.seq:=by
  rcases hN with⟨h3,rfl,rfl⟩|⟨h3,rfl,rfl⟩
  ·exact hI.ok0.mark.seq.1
  ·exact hI.ok1.mark.seq.1
 have HI:=acp hI;have HM:=acp hM;have jL:=acp cB;have lI:=acp aJ;have Xk:=acp ak;have iM:=acp aF;have pU:=acp dV;have yH:=acp (gy _ rfl);have HF:=acp (miss hf (by omega) (λ e=>by omega) ak);have HL:=acp hL;have Kr:=acp hl;unfold rQ at iM;unfold aU at bq;clear hD hM hI hN hL aF jm dV ak cB aJ gy mq hf hl;go_enter Tryz.func40,Tryz.ntmps40;go_wp2_with fail;rw[<-iM.o];refine Qk.o.mono ?_;unfold aU;rintro e w2 ⟨ia,ic,rfl,o7,iO,bS⟩;have l7:=bS.size;obtain⟨w3,S⟩:∃w3,w3=w2.alloc (.cells (aU n) 58):=⟨_,rfl⟩;have bn:Below w2.heap.size w2 w3:=by rw[S];exact wall w2 _
 have aD:w3.heap[w2.heap.size]? =some (.cells (aU n) 58 (0,0)):=by rw[S];exact(MapKept.heap_alloc w2 _).1
 have oW:w2.heap.size<w3.heap.size:=(qW.1 aD).1;have YV:=acp (bS.trans (bn.mono l7));have zT:=acp (jL.o.grow YV.o);have DL:o1 w2.heap.size=0:=Wy λ U=>by have:=(jL.o.new _ U).2;omega
 have Q8:=acp aD;have Uq:=acp DL;have mo:=acp ((iO.below bn acs).mono λ y E=>(⟨Wy λ U=>by have:=(jL.o.new y U).2;have:=E.1;omega,by have:=E.2;omega⟩:Free o1 w3 y));have fT:=acp (bq.o w3 YV.o);have HP:=acp (λ(o3:Mark) (u:World) (I:Nat->Prop) (h0:¬I 0) (hs:Step o1 I w3 o3 u)=>dL (n:=n) ((hs.block (by omega) (by rw[Uq.o];exact h0)).trans Q8.o));obtain⟨p0,p1,p2⟩:=dL aD;unfold aU at S;rw[S]at p0 p1 p2;clear iO bS bn aD DL Qk bq;go_wp2_with fail;rw[<-S];clear S p0 p1 p2;refine fT.o.mono ?_;rintro e w4 ⟨jz,oD,ha,hc,sa,sc,q,o4,rfl,bf,pF,ig⟩;have oU:=bf.keep.size;have sQ:=pF.marks;obtain⟨w5,oC⟩:∃w5,w5=w4.alloc (.cells (mg z ha hc sa z.state.length sc) 86):=⟨_,rfl⟩;have av:Below w4.heap.size w4 w5:=by rw[oC];exact wall w4 _
 have aH:w5.heap[w4.heap.size]? =some (.cells (mg z ha hc sa z.state.length sc) 86 (0,0)):=by rw[oC];exact(MapKept.heap_alloc w4 _).1
 have pK:w4.heap.size<w5.heap.size:=(qW.1 aH).1;have dI:¬Nw j 0:=λ e=>by have:=e.1;omega
 have Y:Step o1 (Nw j) w3 o4 w5:=bf.then_ zT.o dI av;have iT:o4 w4.heap.size=0:=Wy λ U=>by have:=(sQ.new _ U).2;omega
 have gL:=acp Y;have GQ:=acp (pF.grow av);have CQ:=acp (sQ.grow av);have l9:=acp aH;have ni:=acp iT;have YW:=acp (ig.grow' av sQ);have jo:=acp ((lI.o.grow YV.o).step (λ e=>by have:=e.1;omega) Y);have aN:=acp (mo.o.free dI Y);have bD:=acp (l_open jo.o CQ.o (by omega:j+20≠0) k HL.o.few id z.head (z.seq+1) (by have:=HL.o.seq;omega) (λ h=>⟨(HL.o.first h).1,by rw[(HL.o.first h).2];rfl⟩) (λ h=>HL.o.zero k acs h) ia ic aN.o ha hc YW.o);obtain⟨p0,p1,p2⟩:=HP.o o4 w5 _ dI Y;obtain⟨c0,c1,c2,c3,c4⟩:=gY aH;have dn:=HL.o.dN;rw[dn]at c2;have d1:decide (1099511627776<=z.seq)=false:=aad (by have:=HL.o.seq;omega);have VB:=HL.o.seq;unfold mg at oC⊢;unfold aU at bD;rw[dn]at oC⊢;have xS:=acp oC;rw[oC]at c0 c1 c2 c3 c4 p0 p1 p2;clear bf pF ig sQ av aH iT Y oC dn fT;go_wp2_with fail;rw[<-xS.o]at c0 c1 c2 c3 c4 p0 p1 p2⊢;refine bD.o.mono ?_;rintro e C ⟨p,o6,rfl,H,iD,dK⟩;have aC:¬(0=j+20):=by omega
 have ZM:=dK.size;have nP:=acp dK;have kW:=acp H;have d9:=acp iD;have BD:=acp (CQ.o.step aC H);have aA:Step o1 (λ m=>Nw j m\/m=j+20) w3 o6 C:=(gL.o.mono λ m V=> .inl V).trans (H.mono λ m V=> .inr V);have VE:¬(Nw j 0\/0=j+20):=λ e=>by rcases e with e|e<;>omega
 have O:=acp aA;have RH:∀u:World,Below C.heap.size C u->_:=λ u D=>HP.o o6 u _ VE (aA.then_ zT.o VE D);have mQ:∀u:World,Below C.heap.size C u->u.cell? ⟨w2.heap.size,0,none⟩=some (.int .i64 (n:Int)):=λ u D=>(RH u D).1;have kN:∀u:World,Below C.heap.size C u->u.cell? ⟨w2.heap.size,1,none⟩=some (.int .i64 ((n:Int)/4)):=λ u D=>(RH u D).2.1;have nG:∀u:World,Below C.heap.size C u->u.cell? ⟨w2.heap.size,2,none⟩=some (.int .i64 (((n:Int)-1-2*((n:Int)/4))/8)):=λ u D=>(RH u D).2.2;have bT:∀u:World,Below C.heap.size C u->_:=λ u D=>gY ((D.block _ (by omega)).trans ((H.block (by omega) (by rw[ni.o];exact aC)).trans l9.o));have nS:∀u:World,Below C.heap.size C u->u.cell? ⟨w4.heap.size,0,none⟩=some (.int .u64 z.gen):=λ u D=>(bT u D).1;have mU:∀u:World,Below C.heap.size C u->u.cell? ⟨w4.heap.size,1,none⟩=some (.int .u64 z.seq):=λ u D=>(bT u D).2.1;have Ez:acr (∀u:World,Below C.heap.size C u->Dy 88 #[ptr p] u λ e u'=>e= .returned (.int .i64 (k:Int))/\u=u'):=acp λ u D=>FK (d9.o.grow BD.o D);have RI:acr (∀u:World,Below C.heap.size C u->Dy 30 #[ptr p] u λ e u'=>∃a c,e= .returned (.slice a 32 c)/\32<=c/\ah (λ b=>u.heap.size<=b/\b<u'.heap.size) u' a 32 (z.head.map bv)/\Below u.heap.size u u'):=acp λ u D=>Qg (d9.o.grow BD.o D);have gM:=jo.o.step (λ e=>by omega) H;have tH:k<=600:=by have:=HL.o.few;have:=Kr.o.2.2;unfold fM at*;omega
 have dN:acr (∀u:World,Below C.heap.size C u->Dy 106 #[ptr d,.agg (aU n),.int .i64 ((k:Int)+1)] u λ e w'=>e= .returned (.bool false)/\Below u.heap.size u w'):=acp λ u D=>by
  have U:=J8 (gM.grow D) (k+1) (by omega) (λ i hi=>HL.o.zero i (by omega))
  rwa [show((k+1:Nat):Int)=(k:Int)+1 by omega]at U
 have Ci:acr (vo W o6 jz C q c (gJ L)):=acp ⟨GQ.o.st.step aC (by omega) (by omega) (by omega) H,BD.o,GQ.o.ok⟩;unfold aU at dN;have o8:IntKind.i64.wrap ((k:Int)+1)=(k:Int)+1:=by rw[aaf _ (by omega)]
 clear H iD dK aA RH bT gM bD c0 c1 c2 c3 c4 p0 p1 p2;go_wp2_with fail;refine su ((λ w'=>Below C.heap.size C w')) ?_ λ A=> ?_
 ·exact acu.drew
 refine aM 0 A ?_;refine aM 1 A ?_;refine aM 2 A ?_;refine aM 3 A ?_;refine aM 4 A ?_;refine aM 5 A ?_;refine lJ 6 λ K B=> ?_;go_simp;refine(Ez.o _ A).mono ?_;rintro e _ ⟨rfl,rfl⟩;go_wp2_with fail;refine kV B (A) λ A=> ?_;clear B K;refine aM 7 A ?_;refine lJ 8 λ K B=> ?_;go_simp;refine(dN.o _ A).mono ?_;rintro e w7 ⟨rfl,jG⟩;have nE:=acp (A.trans (jG.mono A.size));clear jG;go_wp2_with fail;refine kV B (nE.o) λ A=> ?_;clear B K;refine aM 9 A ?_;refine rH ?_;clear A;go_wp2_with fail;refine DX (P:=∀(u:World) (g:Nat) (a9:Mx) (c9:Nat),MtCut C u g a9 c9 z.head n ia ic z.gen z.seq k->(?G:World->Nat->Mx->Nat->Prop) u g a9 c9) (λ nA=> ?r1) ?r2
 case' r1=>
  refine vJ 12 ((λ w'=>Below C.heap.size C w')) ?_ λ A=> ?_
  ·exact nE.o.drew
  refine aO 0 A ?_;refine aO 1 A ?_;refine aO 2 A ?_;refine aO 3 A ?_;refine aO 4 A ?_;refine aO 5 A ?_;refine aO 6 A ?_;refine aO 8 A ?_;refine nK 7 11 (λ K B=> ?_) λ K B=> ?_
  case' refine_2=>
   go_simp;have hA:=(nE.o.alloc nE.o.size (.cells rQ 60)).drew;have Q:(w7.alloc (.cells rQ 60)).drew.heap[w7.heap.size]? =some (.cells rQ 60 (0,0)):=(MapKept.heap_alloc w7 (.cells rQ 60)).1;unfold rQ at hA Q;have Gh:=nE.o.size;refine b_ B (hA) λ A=> ?_;clear B K;obtain⟨J,F⟩:∃J,J=(w7.alloc (.cells rQ 60)).drew:=⟨_,rfl⟩;unfold rQ at F;obtain⟨g,hg⟩:∃g,g=w7.heap.size:=⟨_,rfl⟩;rw[<-F]at A Q hA⊢;rw[<-hg]at Q Gh⊢;clear F hg;refine cu 7 λ K B=> ?_;go_simp;refine(Ez.o _ A).mono ?_;rintro e _ ⟨rfl,rfl⟩;go_wp2_with fail;refine b_ B (A) λ A=> ?_;clear B K;refine cu 9 λ K B=> ?_;go_simp;refine(RI.o _ A).mono ?_;rintro e u9 ⟨a9,c9,rfl,Dj,R,dG⟩;have DZ:=A.trans (dG.mono A.size);have XC:=A.size;have NC:g<J.heap.size:=(qW.1 Q).1;have NJ:=(dG.block g NC).trans Q;have R:=R.mono (λ y E=>(⟨by have:=E.1;omega,E.2,by have:=E.1;omega⟩:C.heap.size<=y/\y<u9.heap.size/\y≠g));clear dG NC Q hA XC;go_wp2_with fail;refine b_ B (DZ) λ A=> ?_;clear B K;refine aO 10 A ?_
  case' refine_1=>
   go_simp;refine(Ez.o _ A).mono ?_;rintro e _ ⟨rfl,rfl⟩;go_wp2_with fail;refine b_ B (A) λ A=> ?_;clear B K;refine nK 9 11 (λ K B=> ?_) λ K B=> ?_
   case' refine_2=>
    go_simp;have hA:=(nE.o.alloc nE.o.size (.cells rQ 60)).drew;have Q:(w7.alloc (.cells rQ 60)).drew.heap[w7.heap.size]? =some (.cells rQ 60 (0,0)):=(MapKept.heap_alloc w7 (.cells rQ 60)).1;unfold rQ at hA Q;have Gh:=nE.o.size;refine b_ B (hA) λ A=> ?_;clear B K;obtain⟨J,F⟩:∃J,J=(w7.alloc (.cells rQ 60)).drew:=⟨_,rfl⟩;unfold rQ at F;obtain⟨g,hg⟩:∃g,g=w7.heap.size:=⟨_,rfl⟩;rw[<-F]at A Q hA⊢;rw[<-hg]at Q Gh⊢;clear F hg;refine cu 9 λ K B=> ?_;go_simp;refine(RI.o _ A).mono ?_;rintro e u9 ⟨a9,c9,rfl,Dj,R,dG⟩;have DZ:=A.trans (dG.mono A.size);have XC:=A.size;have NC:g<J.heap.size:=(qW.1 Q).1;have NJ:=(dG.block g NC).trans Q;have R:=R.mono (λ y E=>(⟨by have:=E.1;omega,E.2,by have:=E.1;omega⟩:C.heap.size<=y/\y<u9.heap.size/\y≠g));clear dG NC Q hA XC;go_wp2_with fail;refine b_ B (DZ) λ A=> ?_;clear B K;refine aO 10 A ?_
   case' refine_1=>
    go_simp;refine(RI.o _ A).mono ?_;rintro e J ⟨a9,c9,rfl,Dj,R,dG⟩;have Dp:=A.trans (dG.mono A.size);have XC:=A.size;have Gh:=Dp.size;clear dG;go_wp2_with fail;refine b_ B (Dp) λ A=> ?_;clear B K;refine aO 10 A ?_;refine cu 11 λ K B=> ?_;go_simp;have DZ:=(A.alloc A.size (.cells rQ 60));have NJ:=(MapKept.heap_alloc J (.cells rQ 60)).1;have R:=(R.below (wall J (.cells rQ 60)) acs).mono (λ y E=>(⟨by have:=E.1;omega,by have:=E.2;have U:=(wall J (.cells rQ 60)).size;omega,by have:=E.2;omega⟩:C.heap.size<=y/\y<(J.alloc (.cells rQ 60)).heap.size/\y≠J.heap.size));unfold rQ at DZ NJ R;refine b_ B (DZ) λ A=> ?_;clear B K;obtain⟨u9,dM⟩:∃u9,u9=J.alloc (.cells rQ 60):=⟨_,rfl⟩;unfold rQ at dM;obtain⟨g,hg⟩:∃g,g=J.heap.size:=⟨_,rfl⟩;rw[<-dM]at A DZ NJ R⊢;rw[<-hg]at NJ R Gh⊢;clear dM hg Dp XC
  all_goals
   refine cu 12 λ K B=> ?_;refine bL (by rfl) 60 (.tmp 14) (.tmp 81) (by rfl) g (sM n ia ic z.gen z.seq k 0 a9 c9) (by rfl) (by rfl) _ NJ rR rfl (xO _ _ _ _ _ _ _ _ _) ?_;intro u hu;have l6:=hu.below A Gh;have jl:MtCut C u g a9 c9 z.head n ia ic z.gen z.seq k:=⟨l6,hu.1,Gh,Dj,(R.kept hu.2.1.size λ b D nJ=>hu.2.1.block b nJ λ(e:b=g)=>D.2.2 e).mono λ y E=>⟨E.1,by rw[hu.2.2];exact E.2.1,E.2.2⟩⟩;clear hu R NJ;refine o_ B ?_;clear A B K;exact nA u g a9 c9 jl
 case r2=>
  intro u g a9 c9 hcut;clear mQ kN nG nS mU d1 Ez RI dN;have nQ:=acp hcut;have JK:=acp (YU u);clear hcut;go_wp2_with fail;refine JK.o.mono ?_;rintro e w8 ⟨rfl,jw⟩;have qY:=acp (nQ.o.1.trans (jw.mono nQ.o.1.size));have jy:=(jw.block g (qW.1 nQ.o.2.1).1).trans nQ.o.2.1;have Z5:=acp jy;have Gd:=acp (nQ.o.2.2.2.2.below jw acs);have nC:=acp jw.size;clear jw jy JK;go_wp2_with fail
  go_loopw [10,11,85] (λ s ok i wr=>s=ptr q/\ok= .bool true/\i= .int .i64 0/\wr=w8) (λ _ _ _ _=>0)
  case atStart=>exact⟨rfl,rfl,rfl,rfl⟩
  case round=>
   obtain⟨rfl,rfl,rfl,rfl⟩:=hrel;have oO:=qY.o.size;have jc:o6 g=0:=Wy λ U=>by have:=(BD.o.new _ U).2;have:=nQ.o.2.2.1;omega
   have fK:=(qW.1 Z5.o).1;have Nt:=acp (BD.o.grow qY.o);have aB:¬Five (j+14) 0:=λ e=>by have:=e.1;omega
   have aL:∀b,o6 b≠j+14+1:=λ b=>miss HF.o (by omega) (λ e=>by rcases e with e|e<;>omega) O.o b;have SF:=acp (PL ((Ci.o.grow qY.o).grow acu.drew) (by omega) (j+14) (by omega) aL);have TV:=acp (Nt.o.grow (Below.refl _ wr).drew);have rF:=λ(o9:Mark) (u9:World) (hs:Step o6 (Five (j+14)) wr.drew o9 u9)=>lW ((hs.block (b:=g) fK (by rw[jc];exact aB)).trans Z5.o);have V6:=acp rF;clear rF aL;go_wp2_with fail;refine su ((λ w'=>w'.cell? ⟨g,0,none⟩=some (.int .i64 (n:Int))/\w'.cell? ⟨g,1,none⟩=some (.int .i64 ((n:Int)/4))/\w'.cell? ⟨g,2,none⟩=some (.int .i64 (((n:Int)-1-2*((n:Int)/4))/8))/\w'.cell? ⟨g,3,none⟩=some (.slice ia 16 ic)/\w'.cell? ⟨g,4,none⟩=some (.int .u64 z.gen)/\w'.cell? ⟨g,5,none⟩=some (.int .u64 z.seq)/\w'.cell? ⟨g,6,none⟩=some (.int .i64 (k:Int))/\w'.cell? ⟨g,7,none⟩=some (.int .i64 0)/\w'.cell? ⟨g,8,none⟩=some (.slice a9 32 c9))) ?_ λ A=> ?_
   ·exact V6.o o6 _ (Step.grow TV.o acu)
   refine aM 0 A ?_;refine aM 2 A ?_;refine aM 3 A ?_;refine lJ 1 λ K B=> ?_;go_simp;refine SF.o.mono ?_;rintro e w9 ⟨q9,o9,rfl,yN,jv⟩;have GN:=acp yN;have GR:=acp jv;clear yN jv SF;go_wp2_with fail;refine kV B (V6.o o9 w9 GN.o) λ A=> ?_;clear B K;refine aM 4 A ?_;refine aM 5 A ?_;refine lJ 6 λ K B=> ?_;have iN:¬(Nw j (j+13)\/j+13=j+20):=λ e=>by rcases e with e|e<;>omega
   have Gu:o6 w.heap.size=j+13:=(O.o.old _ (by omega)).trans yH.o;have iE:o9 w.heap.size=j+13:=(GN.o.old _ (by have:wr.heap.size=wr.drew.heap.size:=rfl;omega)).trans Gu;have X:w9.heap[w.heap.size]? =some (.cells rQ 60 (0,0)):=(GN.o.block (by have:wr.heap.size=wr.drew.heap.size:=rfl;omega) (by rw[Gu];exact λ e=>by have:=e.1;omega)).trans (((qY.o.drew).block _ (by omega)).trans ((O.o.block (by omega) (by rw[yH.o];exact iN)).trans ((YV.o.block _ om).trans pU.o)));refine bL (by rfl) 60 (.tmp 4) (.tmp 109) (by rfl) w.heap.size (sM n ia ic z.gen z.seq k 0 a9 c9) (by rfl) (by rfl) _ X rR rfl (xO _ _ _ _ _ _ _ _ _) ?_;intro wG hG;have sK:Step o9 (λ m=>m=j+13) w9 o9 wG:=hG.step GR.o.marks iE;have Z:¬(0=j+13):=by omega
   have HG:=acp hG;have mR:=acp sK;have mY:wG.heap[g]? =some (.cells (sM n ia ic z.gen z.seq k 0 a9 c9) 60 (0,0)):=(hG.2.1.block g (by have:=GN.o.keep.size;have:wr.heap.size=wr.drew.heap.size:=rfl;omega) (λ e:g=w.heap.size=>by have:=nQ.o.2.2.1;omega)).trans ((GN.o.block (b:=g) fK (by rw[jc];exact aB)).trans Z5.o);clear hG sK X Gu iE;refine kV B (lW mY) λ A=> ?_;clear B K;refine aM 7 A ?_;refine rH ?_;go_wp2_with fail;refine J9 rfl rfl rfl rfl rfl rfl HG.o.1 rfl ?_;have oP:wr.heap.size=wr.drew.heap.size:=rfl;have oF:¬(Nw j 0\/0=j+20):=VE;have l5:Step o (Mm j) w o1 w3:=(Xk.o.mono λ m V=>⟨by omega,by omega⟩).then_ HM.o (λ e=>by have:=e.1;omega) YV.o;have l8:Step o (Mm j) w o6 wr.drew:=(l5.trans (O.o.mono λ m V=>⟨by rcases V with h|h<;>omega,by rcases V with h|h<;>omega⟩)).then_ HM.o (λ e=>by have:=e.1;omega) (qY.o.drew);have ko:Step o (Mm j) w o9 wG:=(l8.trans (GN.o.mono λ m V=>⟨by have:=V.1;omega,by have:=V.2;omega⟩)).trans (mR.o.mono λ m V=>⟨by omega,by omega⟩);have kg:=((((d9.o.grow BD.o qY.o.drew).step aB (λ e=>by have:=e.2;omega) GN.o)).step Z (by omega) mR.o);have lC:=((((aN.o.free aC kW.o).grow' qY.o.drew BD.o).free aB GN.o).free Z mR.o);have nR:=(((ah.mono (Gd.o.below (Below.refl _ wr).drew acs) λ y E=>(⟨Wy λ U=>by have:=(BD.o.new y U).2;have:=E.1;omega,by have:=E.2.1;have:=nC.o;omega⟩:Free o6 wr.drew y)).free aB GN.o).free Z mR.o);exact⟨q9,p,ia,ic,a9,c9,o9,rfl,ko,⟨GR.o.st.step Z (by omega) (by omega) (by omega) mR.o,GR.o.marks.step Z mR.o,GR.o.ok⟩,kg,lC,nR⟩
end
def NM(id:I8)(g:Nat):uD:=⟨(g:Int),0,0,Aw id,fU nH⟩
def fmtK(n:Nat)(b:I8)(id:I8):Nat->List UInt8
 |0=>b
 |k+1=>splice (fmtK n b id k) (bR n ((k+1)%2)*128) (AX n (NM id (k+1)))
def Qo(n:Nat)(b:I8)(id:I8):List UInt8:=fmtK n (splice (splice b (0*128) (iP n id)) (1*128) (List.replicate ((n-1)*128) 0)) id 2
abbrev Fm(i j:Nat):Nat->Prop:=λ m=>m=i\/(j<=m/\m<=j+4)
theorem FV(n:Nat)(u:64<=n)(id:I8)(g:Nat)(y:1<=g)(m:g<=2):Ch n (NM id g):=
 ⟨⟨by show(1:Int)<=(g:Int);omega,by show(g:Int)<=1099511627776;omega⟩,⟨Int.le_refl _,by show(0:Int)<=1099511627776;omega⟩,⟨Int.le_refl _,by show(0:Int)<=((n:Int)-1-2*((n:Int)/4))/8;omega⟩,by show(Aw id).length=32;unfold Aw;rw[eu]⟩
section
variable{W w:World}{o:Mark}{i j n d:Nat}
theorem C_{b:I8}{cl:Prop}{c:Int}(hD:dw o i w d n b cl c)(hM:Marks W o w)(S:i≠0)(hj:0<j)(jy:i<j)(hc:c<=100000)(id:I8)(cB:id.length=16)(aC:((fU nH).length:Int)<=eT n)(ia:Mx)(ic:Nat)(hr:ah (Free o w) w ia 16 (id.map bv)):
  Dy 8 #[ptr d,.slice ia 16 ic] w λ e w'=>e= .returned (.int .i64 0)/\∃Z,Step o (Fm i j) w Z w'/\dw Z i w' d n (Qo n b id) True (c+10000):=by
 have hl:=hD.len;have NA:=acp (qF hD);have Qk:=acp (IQ n hl.2.1 hl.2.2 id cB ia ic w hr);have Ry:=acp (λ u=>xL n hl.2.1 hl.2.2 u);have dN:=qD n cB;have HD:=acp hD;have HM:=acp hM;have HR:=acp hr;have HL:=acp hl;clear hD hM hr hl;go_enter Tryz.func8,Tryz.ntmps8;go_wp2_with fail;refine NA.o.mono ?_;rintro e _ ⟨rfl,rfl⟩;go_wp2_with fail;refine Qk.o.mono ?_;rintro e w1 ⟨a1,n1,c1,rfl,kN,aL,z⟩;obtain rfl:n1=128:=by have:=aL.length;rw[List.length_map,dN]at this;exact this.symm
 have jo:=z.size;have ak:=acp (qF (HD.o.grow z));have jv:=acp z;have bD:=acp aL;unfold aU at Ry;clear aL z NA Qk;go_wp2_with fail;refine ak.o.mono ?_;rintro e _ ⟨rfl,rfl⟩;go_wp2_with fail;refine(Ry.o w1).mono ?_;rintro e H ⟨rfl,aJ⟩;have fT:=aJ.size;obtain⟨V,O⟩:∃V,V=H.alloc (.cells (aU n) 58):=⟨_,rfl⟩;have bq:Below H.heap.size H V:=by rw[O];exact wall H _
 have aH:V.heap[H.heap.size]? =some (.cells (aU n) 58 (0,0)):=by rw[O];exact(MapKept.heap_alloc H _).1
 have ko:H.heap.size<V.heap.size:=(qW.1 aH).1;have Gy:=aJ.trans (bq.mono fT);have R:=acp (jv.o.trans (Gy.mono jo));have zT:=acp (HM.o.grow R.o);have DL:o H.heap.size=0:=Wy λ h9=>by have:=(HM.o.new _ h9).2;omega
 have Q8:=acp aH;have Uq:=acp DL;have HP:=acp (λ(o3:Mark) (u:World) (I:Nat->Prop) (h0:¬I 0) (hs:Step o I V o3 u)=>dL (n:=n) ((hs.block (by omega) (by rw[Uq.o];exact h0)).trans Q8.o));have A:=FE (HD.o.grow R.o) zT.o S (by omega) 0 1 (by omega) (by have:=HL.o;omega) a1 c1 (iP n id) (by rw[dN]) ((bD.o.below Gy acs).mono λ x hx e=>by have:=(HM.o.new x (by rw[e];exact S)).2;have:=hx.1;omega) (by omega);rw[show((0:Nat):Int)=0 from rfl,show 1*128=128 from rfl]at A;have J:=acp A;clear A aJ bq aH Gy DL bD Ry ak;unfold aU at O;go_wp2_with fail;rw[<-O];clear O;refine J.o.mono ?_;rintro e w4 ⟨rfl,o4,C,E⟩;have jl:=acp C;have sW:=acp (zT.o.step (λ e=>S e.symm) C);have gM:=acp E;have X:=acp (qF E);obtain⟨P,dV⟩:∃P:Nat,P=(n-1)*128:=⟨_,rfl⟩;have iO:=HL.o.2;have iN:IntKind.i64.wrap ((n:Int)-1)=(n:Int)-1:=by rw[aaf _ (by omega)]
 have iE:IntKind.i64.wrap (128*((n:Int)-1))=(P:Int):=by rw[aaf _ (by omega)];omega
 obtain⟨zc,aN⟩:∃zc,zc=((List.replicate P (0:UInt8)).map bv).toArray:=⟨_,rfl⟩;have ig:=mkZ P (P:Int) rfl (by omega) zc aN;have HZ:=acp (Ar P (by omega) zc aN);have G:=acp dV;clear C E aN dV J;go_wp2_with fail;refine X.o.mono ?_;rintro e _ ⟨rfl,rfl⟩;clear X;go_wp2_with fail;have aF:=HZ.o w4;obtain⟨w5,oC⟩:∃w5,w5=w4.alloc (.cells zc 5):=⟨_,rfl⟩;have M:Below w4.heap.size w4 w5:=by rw[oC];exact wall w4 _
 rw[<-oC]at aF⊢;clear oC ig HZ;have A:=FE (gM.o.grow M) (sW.o.grow M) S (by omega) 1 (n-1) (by omega) (by omega) (some ⟨w4.heap.size,0,none⟩) P (List.replicate P 0) (by rw[aaZ,G.o]) (by rw[<-G.o];exact aF.mono λ x hx e=>by have:=(sW.o.new x (by rw[e];exact S)).2;omega) (by rw[G.o];omega);rw[show((1:Nat):Int)=1 from rfl,<-G.o]at A;have J:=acp A;have gL:=acp (jl.o.then_ zT.o (λ e=>S e.symm) M);have CQ:=acp (sW.o.grow M);clear A M aF;refine J.o.mono ?_;rintro e w6 ⟨rfl,o6,aD,aA⟩;have dM:Step o (Fm i j) V o6 w6:=(gL.o.trans aD).mono λ m hm=> .inl hm;have jm:=acp dM;have BD:=acp (CQ.o.step (λ e=>S e.symm) aD);obtain⟨b1,z⟩:∃b1,b1=splice (splice b (0*128) (iP n id)) (1*128) (List.replicate P 0):=⟨_,rfl⟩;rw[<-z]at aA;have fK:=acp (aA.weak (c':=c+5000) (by omega));have Iz:=acp z;have F:¬Fm i j 0:=λ e=>by rcases e with e|e<;>omega
 have HQ:acr (n/4<=1024):=acp (by omega);clear aD aA dM J z iN iE;go_wp2_with fail
 go_loopw [38] (λ kv wr=>∃(k:Nat) (Z:Mark),k<=2/\kv= .int .u64 (k:Int)/\Step o (Fm i j) V Z wr/\dw Z i wr d n (fmtK n b1 id k) False (c+5000+(k:Int)*((n/4:Nat):Int))) (λ kv _=>2-(intOf kv).toNat)
 case atStart=>exact⟨0,o6,by omega,rfl,jm.o,by have h:=fK.o;simpa[fmtK]using h⟩
 case round=>
  obtain⟨k,Z,hk,rfl,hs,bn⟩:=hrel;have HS:=acp hs;have dG:=acp bn;have dK:=zT.o.step F hs;have bf:=acp dK;have av:=(HR.o.grow' R.o HM.o).free F hs;have gy:=acp av;clear hs bn dK av;by_cases kg:k<2
  ·have dl:decide ((k:Int)<2)=true:=aak (by omega);have hp:∀(o9:Mark) (u:World),Step o (Fm i j) V o9 u->_:=λ o9 u hs=>HP.o o9 u _ F hs;have WT:=acp hp;have bT:=acp (RB ia 16 ic id wr.drew (gy.o.below (Below.refl _ wr).drew acs) (by omega));clear hp;have kW:IntKind.u64.wrap ((k:Int)+1)=((k+1:Nat):Int):=by rw[IntWalk.u64_in _ (by omega)];omega
   go_wp2_with fail;refine su ((λ w'=>w'.cell? ⟨H.heap.size,0,none⟩=some (.int .i64 (n:Int))/\w'.cell? ⟨H.heap.size,1,none⟩=some (.int .i64 ((n:Int)/4))/\w'.cell? ⟨H.heap.size,2,none⟩=some (.int .i64 (((n:Int)-1-2*((n:Int)/4))/8)))) ?_ λ Q=> ?_
   ·exact WT.o Z _ (HS.o.then_ zT.o F (Below.refl _ wr).drew)
   refine aM 0 Q ?_;refine aM 1 Q ?_;refine aM 2 Q ?_;refine aM 3 Q ?_;refine aM 4 Q ?_;refine lJ 5 λ K N=> ?_;go_simp;refine bT.o.mono ?_;rintro e u1 ⟨a7,n7,c7,rfl,Lr,rT,jG⟩;obtain rfl:n7=32:=by have:=rT.length;simp[Aw,eu]at this;omega
   have B:=(Below.refl _ wr).drew.trans jG;have uW:=acp (ah.oF bf.o (rT.mono λ y hy=>(⟨hy.1,hy.2⟩:wr.heap.size<=y/\y<u1.heap.size)));have jL:=acp (bf.o.grow B);have mo:=acp (HS.o.then_ zT.o F B);have d9:=acp (dG.o.grow B);have UW:=acp (st_new jL.o hj);clear rT jG B bT;go_wp2_with fail;refine kV N (WT.o Z u1 mo.o) λ Q=> ?_;clear N K;refine lJ 6 λ K N=> ?_;go_simp;refine UW.o.mono ?_;rintro e u2 ⟨p,o2,rfl,U,D⟩;have iT:¬Five j 0:=λ e=>by have:=e.1;omega
   have dn:=acp (mo.o.trans (U.mono λ m hm=>(.inr hm:Fm i j m)));have iM:=acp (d9.o.step (λ e=>by have:=e.1;omega) U);have jc:=acp (uW.o.free iT U);have JJ:=acp (E_ D.st D.marks D.ok (D.ok.sv (by omega) qz.new));have tF:=acp D.marks;clear U D UW;go_wp2_with fail;refine kV N (WT.o o2 u2 dn.o) λ Q=> ?_;clear N K;refine lJ 7 λ K N=> ?_;go_simp;refine JJ.o.mono ?_;rintro e u3 ⟨a8,n8,c8,rfl,iD,qQ,jw⟩;have xR:=acp (dn.o.then_ zT.o F jw);have aB:=I5 (iM.o.grow jw) (tF.o.grow jw) S (by have:=HQ.o;have:(k:Int)*((n/4:Nat):Int)<=2*((n/4:Nat):Int):=Int.mul_le_mul_of_nonneg_right (by omega) (by omega);omega) (NM id (k+1)) (FV n iO.1 id (k+1) (by omega) (by omega)) aC a7 c7 a8 n8 c8 (jc.o.below jw acs) qQ iD;rw[show((NM id (k+1)).gen%2).toNat=(k+1)%2 by show(((k+1:Nat):Int)%2).toNat=_;omega]at aB;have VF:=acp aB;unfold aU mg at VF;rw[show(NM id (k+1)).gen=(k:Int)+1 by show((k+1:Nat):Int)=_;omega,show(NM id (k+1)).seq=0 from rfl,show(NM id (k+1)).dN=0 from rfl]at VF;clear qQ jw aB JJ;go_wp2_with fail;refine kV N (WT.o o2 u3 xR.o) λ Q=> ?_;clear N K;refine aM 8 Q ?_;refine lJ 9 λ K N=> ?_;go_simp;refine VF.o.mono ?_;rintro e u4 ⟨rfl,dI,C,E⟩;have Y:=acp (xR.o.trans (C.mono λ m hm=>(.inl hm:Fm i j m)));have bS:=acp E;clear C E VF;go_wp2_with fail;refine kV N (WT.o dI u4 Y.o) λ Q=> ?_;clear N K;refine rH ?_;go_wp2_with fail;go_roundw
   case rel=>exact⟨k+1,dI,by omega,by go_num,Y.o,by have h:=bS.o;rw[show c+5000+((k+1:Nat):Int)*((n/4:Nat):Int)=c+5000+(k:Int)*((n/4:Nat):Int)+((n/4:Nat):Int)by rw[Int.natCast_add,Int.add_mul];omega];exact h⟩
   case measure=>simp[intOf];omega
  ·obtain rfl:k=2:=by omega
   have uK:=acp (MK dG.o bf.o S);have dl:decide (((2:Nat):Int)<2)=false:=by decide
   go_wp2_with fail;refine uK.o.mono ?_;rintro e u1 ⟨rfl,o9,yN,Rk⟩;have GN:=acp yN;have Al:=acp Rk;clear yN Rk;go_wp2_with fail;go_ret;refine⟨rfl,o9,(Step.behind HM.o R.o (HS.o.trans (GN.o.mono λ m hm=> .inl hm))),?_⟩;have h:=Al.o;rw[Iz.o,G.o]at h;exact h.weak (by have:=HQ.o;omega)
end
theorem zq{α:Type}{L y:List α}{m:Nat}(h:m+y.length<=L.length)(i:Nat):(splice L m y)[i]? =if i<m then L[i]? else if i<m+y.length then y[i-m]? else L[i]? :=by
 unfold splice;have z:(L.take m).length=m:=by rw[List.length_take];omega
 rw[List.getElem?_append];split
 ·rename_i u;rw[z]at u;rw[if_pos u,aaB,if_pos u]
 ·rename_i u;rw[z]at u;rw[if_neg u,z,List.getElem?_append];split
  ·rename_i A;rw[if_pos (by omega)]
  ·rename_i A;rw[if_neg (by omega),abG];congr 1;omega
theorem Ay(b:I8)(f k j:Nat):(secs b f k)[j]? =if j<k*128 then b[f*128+j]? else none:=by
 unfold secs;rw[aaB];split
 ·rw[abG]
 ·rfl
theorem nW{L u:I8}{m f k:Nat}(h:m+u.length<=L.length)(y:(f+k)*128<=m\/m+u.length<=f*128):secs (splice L m u) f k=secs L f k:=by
 apply List.ext_getElem?;intro j;rw[Ay,Ay];split
 ·rw[zq h];split
  ·rfl
  ·split
   ·omega
   ·rfl
 ·rfl
theorem Cj{L m:I8}{f k:Nat}(h:f*128+m.length<=L.length)(u:m.length=k*128):secs (splice L (f*128) m) f k=m:=by
 apply List.ext_getElem?;intro j;rw[Ay];split
 ·rw[zq h,if_neg (by omega),if_pos (by omega)];congr 1;omega
 ·rw[List.getElem?_eq_none (by omega)]
theorem MS(b:I8)(i:Nat):rowsOf b i=secs b i 1:=by unfold rowsOf secs;rw[Nat.one_mul]
theorem uE{α:Type}{L u:List α}{m:Nat}(h:m+u.length<=L.length):(splice L m u).length=L.length:=by
 unfold splice;rw[List.length_append,List.length_append,List.length_take,List.length_drop];omega
theorem UY{L:I8}{u m f k:Nat}(h:u+m<=L.length)(A:u<=f*128)(z:(f+k)*128<=u+m):secs (splice L u (List.replicate m 0)) f k=List.replicate (k*128) 0:=by
 apply List.ext_getElem?;intro j;rw[Ay];split
 ·rename_i y;rw[zq (by rw[aaZ];exact h),if_neg (by omega),aaZ,if_pos (by omega),abm,abm,if_pos (by omega),if_pos y]
 ·rename_i y;rw[abm,if_neg y]
theorem I6(n k i:Nat)(m:k<2):bR n k+n/4<=nu n i:=by
 unfold bR nu;rcases (show k=0\/k=1 by omega)with rfl|rfl<;>omega
structure YX(n:Nat)(b:I8)(id:I8):Prop where
 len:b.length=n*128
 super:rowsOf b 0=iP n id
 p0:secs b (bR n 0) (n/4)=AX n (NM id 2)
 p1:secs b (bR n 1) (n/4)=AX n (NM id 1)
 zero:∀i,i<fM n->secs b (nu n i) 8=List.replicate 1024 0
theorem Ck(n:Nat)(F:64<=n)(b id:I8)(W:b.length=n*128)(H:id.length=16)(y:((fU nH).length:Int)<=eT n):YX n (Qo n b id) id:=by
 have I:=J6 (FV n F id 1 (by omega) (by omega)) F y;have J:=J6 (FV n F id 2 (by omega) (by omega)) F y;have X:(iP n id).length=128:=qD n H;obtain⟨C,A⟩:∃C,C=splice b (0*128) (iP n id):=⟨_,rfl⟩;have M:C.length=n*128:=by rw[A,uE (by omega)];exact W
 obtain⟨E,z⟩:∃E,E=splice C (1*128) (List.replicate ((n-1)*128) 0):=⟨_,rfl⟩;have k2:1*128+(List.replicate ((n-1)*128) (0:UInt8)).length<=C.length:=by rw[aaZ,M];omega
 have K:E.length=n*128:=by rw[z,uE k2];exact M
 obtain⟨D,u⟩:∃D,D=splice E (bR n 1*128) (AX n (NM id 1)):=⟨_,rfl⟩;have O:bR n 1*128+n/4*128<=n*128:=by unfold bR;omega
 have Q:bR n 0*128+n/4*128<=n*128:=by unfold bR;omega
 have S:bR n 0=1:=by unfold bR;omega
 have P:bR n 1=1+n/4:=by unfold bR;omega
 have k3:bR n 1*128+(AX n (NM id 1)).length<=E.length:=by rw[I,K];exact O
 have N:D.length=n*128:=by rw[u,uE k3];exact K
 obtain⟨G,m⟩:∃G,G=splice D (bR n 0*128) (AX n (NM id 2)):=⟨_,rfl⟩;have B:bR n 0*128+(AX n (NM id 2)).length<=D.length:=by rw[J,N];exact Q
 have V:G.length=n*128:=by rw[m,uE B];exact N
 have U:Qo n b id=G:=by rw[m,u,z,A];rfl
 rw[U];refine⟨V,?_,?_,?_,λ i R=> ?_⟩
 ·rw[MS,m,nW B (by omega),u,nW k3 (by omega),z,nW k2 (by omega),A];exact Cj (f:=0) (by omega) (by omega)
 ·rw[m];exact Cj B J
 ·rw[m,nW B (by omega),u];exact Cj k3 I
 ·have g1:=FH F R;have Z:=I6 n 0 i (by omega);have Y:=I6 n 1 i (by omega);rw[m,nW B (by omega),u,nW k3 (by omega),z];exact UY (by omega) (by omega) (by omega)
def oZ(M:dQ)(k:Nat):List Int:=((List.range k).filter λ n=>(M.fds n).isSome).map λ n:Nat=>(n:Int)
def I7(M:dQ):List Int:=oZ M 8
theorem MU{M:dQ}{k:Nat}{f:Nz}(h:M.fds k=some f):oZ M (k+1)=oZ M k++[(k:Int)]:=by
 unfold oZ;rw[ach,List.filter_append,aas,List.filter_cons_of_pos (by rw[h];rfl)];rfl
theorem MV{M:dQ}{k:Nat}(h:M.fds k=none):oZ M (k+1)=oZ M k:=by
 unfold oZ;rw[ach,List.filter_append,aas,List.filter_cons_of_neg (by rw[h];simp)];simp
theorem Qp(M:dQ)(k:Nat):(oZ M k).length<=k:=by
 unfold oZ;rw[List.length_map];have:=abq (λ n=>(M.fds n).isSome) (List.range k);rw[List.length_range]at this;exact this
section
variable{W w:World}{o:Mark}{i j k p:Nat}{M:dQ}
theorem FW(h:bP o i j k w p M):Dy 27 #[ptr p] w (zX w (I7 M)):=by
 obtain⟨ti,hi,O,W,V⟩:=aaq Rj;obtain⟨t,s,v,h1,h2,h3,Y⟩:=h.at_;obtain⟨c0,c1,c2,z,c4⟩:=gV h1;have e3:=z 0 (by omega);have e4:=z 1 (by omega);have e5:=z 2 (by omega);have e6:=z 3 (by omega);have e7:=z 4 (by omega);have e8:=z 5 (by omega);have e9:=z 6 (by omega);have ak:=z 7 (by omega);have H4:=acp Y;clear h h1 h2 h3 Y z c4;go_enter Tryz.func27,Tryz.ntmps27;go_wp2_with fail
 go_loopw [3,10] (λ u R wr=>∃n:Nat,n<=8/\R= .int .i64 n/\wr.ownsRow w.heap.size 3 1 u (oZ M n).length ((oZ M n).map (Value.int .i64))/\Below w.heap.size w wr) (λ _ R _=>8-(intOf R).toNat)
 case atStart=>exact⟨0,by omega,rfl,⟨rfl,.inl ⟨rfl,rfl⟩⟩,Below.refl _ _⟩
 case round=>
  obtain⟨n,hn,rfl,I,H⟩:=hrel;have C:=H.size;have K:=acp I;have P:=acp H;obtain⟨a5,c5,rfl,A⟩:=bg I;clear I H;by_cases Z:n<8
  ·have hd:decide ((n:Int)<8)=true:=by simp;omega
   have E:=LY v n Z wr;have G:=H4.o n Z;have i0:(0:Int)<=n:=by omega
   cases B:M.fds n with
   |none=>
    rw[B]at G;have F:v n= .pointer none:=G;rw[F]at E;have N:=acp (MV B);clear G F B;go_wp2_with fail;go_roundw
    case rel=>exact⟨n+1,by omega,by go_num,by rw[N.o];exact K.o,P.o⟩
    case measure=>simp[intOf];omega
   |some f=>
    rw[B]at G;obtain⟨q,fa,fc,F,_⟩:=G;rw[F]at E;have N:=acp (MU B);have y:Below wr.heap.size wr (wr.alloc (.cells #[.int .i64 n] 3)):=wall wr _;have U:=acp (uh K.o y);have dK:=acp y;have dV:=acp (wY (w:=wr) (.int .i64 n) 3);have S:=y.size;obtain⟨L,D⟩:∃L,L=(oZ M n).length:=⟨_,rfl⟩;have av:L<=8:=by rw[D];have:=Qp M n;omega
    rw[<-D]at U A;have Kr:=acp D;rw[<-D];clear F B y D;go_wp2_with (at_builtin;(refine bU (by rfl) _ _ 73 (by rfl) w.heap.size 3 ti (.int .i64 0) 8 Tryz.underlying73 hi O W V rfl _ _ _ (by rfl) U.o (some ⟨wr.heap.size,0,none⟩) 1 1 [.int .i64 n] (by rfl) dV.o (Mi [(n:Int)]) (by unfold maxLen;omega) (by omega) (Nat.le_trans C S) ?_);intro A' c' w6 m X _ _);have J:=acp m;have Q:=acp X;clear m X;go_roundw
    case rel=>
     refine⟨n+1,by omega,by go_num,?_,?_⟩
     ·rw[N.o,aas,List.length_append,<-Kr.o];exact J.o
     ·exact(P.o.trans (dK.o.mono C)).grown Q.o (by omega) (aZ U.o)
    case measure=>simp[intOf];omega
  ·have hd:decide ((n:Int)<8)=false:=by simp;omega
   obtain rfl:n=8:=by omega
   go_wp2_with fail;go_ret;exact⟨a5,c5,rfl,A,(ah.mU K.o).2.mono (λ b H=>⟨by omega,H.2⟩),P.o⟩
def jR(x:iI):Bool:=decide (1<=x.kind/\x.kind<=17/\x.kind≠4/\x.kind≠11/\x.kind≠12/\x.kind≠17)
end
theorem RJ{y:Func}{A u:Nat}{Q:Ending->World->Prop}{a:Act}{w:World}{b:Nat}{m:Array Value}{z:Value}(G:y.results= #[.cell A 60,.tmp u])(D:a.tmps.getD A undef= .pointer (some ⟨b,0,none⟩))(C:a.tmps.getD u undef=z)(B:a.defers=[])(E:w.heap[b]? =some (.cells m 60 (0,0)))(H:m.size=9)(F:Q (.returned (.tuple #[.agg m,z])) w):
  bodyPost Tryz.prog y Q .ret a w:=by
 subst C;exact aav (v:= .tuple #[.agg m,a.tmps.getD u undef]) (jX G D (aaS w b 60 60 _ (0,0) _ E Tryz.underlying60 rfl (by rw[H];exact rR))) B F
def SvCut(w u:World)(g:Nat)(a:Mx)(c:Nat)(sa:Mx)(sn sc:Nat)(x:uD):Prop:=
 Below w.heap.size w u/\u.heap[g]? =some (.cells (mg x a c sa sn sc) 86 (0,0))/\w.heap.size<=g/\32<=c/\sn<=sc/\ah (λ b=>w.heap.size<=b/\b≠g/\b<u.heap.size) u a 32 (x.head.map bv)/\ah (λ b=>w.heap.size<=b/\b≠g/\b<u.heap.size) u sa sn (x.state.map bv)
def RL(u:World)(b g n:Nat)(m:Mx)(y:Nat)(x:uD)(a:Mx)(c:Nat):Prop:=
 u.cell? ⟨b,0,none⟩=some (.int .i64 (n:Int))/\u.cell? ⟨b,1,none⟩=some (.int .i64 ((n:Int)/4))/\u.cell? ⟨b,2,none⟩=some (.int .i64 (((n:Int)-1-2*((n:Int)/4))/8))/\u.cell? ⟨b,3,none⟩=some (.slice m 16 y)/\u.cell? ⟨g,0,none⟩=some (.int .u64 x.gen)/\u.cell? ⟨g,1,none⟩=some (.int .u64 x.seq)/\u.cell? ⟨g,2,none⟩=some (.int .i64 x.dN)/\u.cell? ⟨g,3,none⟩=some (.slice a 32 c)
section
variable{W w:World}{o:Mark}{i j lm t n d p q:Nat}
end
def uF(p t f r u s d:Bool):Array Value:= #[.bool p,.bool t,.bool f,.bool r,.bool u,.bool s,.bool d]
theorem RN:(Tryz.prog.info? 132).map (·.size)=some 7:=by kernel_rfl
theorem YZ(p t f r u s d:Bool):(uF p t f r u s d).all (·.oneCell')=true:=by simp[uF,Value.oneCell']
theorem RO{y:Func}{A u:Nat}{Q:Ending->World->Prop}{a:Act}{w:World}{b:Nat}{m:Array Value}{z:Value}(G:y.results= #[.cell A 132,.tmp u])(D:a.tmps.getD A undef= .pointer (some ⟨b,0,none⟩))(C:a.tmps.getD u undef=z)(B:a.defers=[])(E:w.heap[b]? =some (.cells m 132 (0,0)))(H:m.size=7)(F:Q (.returned (.tuple #[.agg m,z])) w):
  bodyPost Tryz.prog y Q .ret a w:=by
 subst C;exact aav (v:= .tuple #[.agg m,a.tmps.getD u undef]) (jX G D (aaS w b 132 132 _ (0,0) _ E Tryz.underlying132 rfl (by rw[H];exact RN))) B F
theorem FX(n:Int)(m:0<=n)(u:n<=65535)(w:World):Dy 145 #[.int .i64 n] w λ e w'=>e= .returned (.bool true)/\w=w':=by
 have z:decide (0<=n)=true:=aak m;have y:decide (n<=65535)=true:=aak u;go_enter Tryz.func145,Tryz.ntmps145;go_wp2_with fail;go_ret;exact⟨rfl,rfl⟩
theorem Cm{w:World}{b:Nat}{x:iI}{m:Mx}{u:Nat}(h:w.heap[b]? =some (.cells (opC x m u) 32 (0,0))):w.cell? ⟨b,0,none⟩=some (.int .i64 x.kind)/\w.cell? ⟨b,1,none⟩=some (.string (strOf x.path))/\w.cell? ⟨b,2,none⟩=some (.string (strOf x.bT))/\w.cell? ⟨b,3,none⟩=some (.int .i64 x.fd)/\w.cell? ⟨b,4,none⟩=some (.int .i64 x.at_)/\w.cell? ⟨b,5,none⟩=some (.int .i64 x.n)/\w.cell? ⟨b,6,none⟩=some (.int .u64 x.aL)/\w.cell? ⟨b,7,none⟩=some (.int .i64 x.snap)/\w.cell? ⟨b,8,none⟩=some (.slice m x.data.length u):=by
 refine⟨?_,?_,?_,?_,?_,?_,?_,?_,?_⟩<;>simp[World.cell?,h,opC]
section
variable{W w:World}{o:Mark}{i j k p:Nat}{M:dQ}
def Qq(w:World)(p t s:Nat)(now:Int)(v0 z u v3 v4 v5 m y:Value):Prop:=
 w.cell? ⟨p,0,none⟩=some (ptr t)/\w.cell? ⟨p,1,none⟩=some (ptr s)/\w.cell? ⟨p,2,none⟩=some (.int .u64 now)/\w.cell? ⟨p,3,none⟩=some v0/\w.cell? ⟨p,4,none⟩=some z/\w.cell? ⟨p,5,none⟩=some u/\w.cell? ⟨p,6,none⟩=some v3/\w.cell? ⟨p,7,none⟩=some v4/\w.cell? ⟨p,8,none⟩=some v5/\w.cell? ⟨p,9,none⟩=some m/\w.cell? ⟨p,10,none⟩=some y
theorem st_sees{w:World}{p t s:Nat}{now:Int}{v0 z u v3 v4 v5 m y:Value}(h:w.heap[p]? =some (.cells #[ptr t,ptr s,.int .u64 now,v0,z,u,v3,v4,v5,m,y] 110 (0,0))):Qq w p t s now v0 z u v3 v4 v5 m y:=by
 refine⟨?_,?_,?_,?_,?_,?_,?_,?_,?_,?_,?_⟩<;>simp[World.cell?,h]
theorem MW{M:dQ}(u:bP o i j k w p M)(hM:Marks W o w)(hT:fA M.t)(Bv:M.s.l.length<=8)(bS:M.s.last.length<=64){J G k' l':Nat}(hk:Mk J G k' l')(bq:i≠G):
  Dy 19 #[ptr p] w λ e w'=>∃q o',e= .returned (ptr q)/\Step o (λ m=>m=J\/m=G\/m=k') w o' w'/\bP o' J G k' w' q M/\Below w.heap.size w w':=by
 obtain⟨n1,n2,n3,n4,n5,n6,n7,n8,n9,bT⟩:=hk.ne;obtain⟨t,s,v,h1,h2,h3,h4⟩:=u.at_;have aF:=u.low;obtain⟨now,Dt⟩:∃now,now=M.now:=⟨_,rfl⟩;rw[<-Dt]at h1;have B:∀n,n<8->∃x,x=v n/\yM o w x (M.fds n):=λ n hn=>⟨_,rfl,h4 n hn⟩;obtain⟨v0,e0,f0⟩:=B 0 (by omega);obtain⟨U,e1,f1⟩:=B 1 (by omega);obtain⟨R,e2,f2⟩:=B 2 (by omega);obtain⟨v3,e3,f3⟩:=B 3 (by omega);obtain⟨v4,e4,f4⟩:=B 4 (by omega);obtain⟨v5,e5,f5⟩:=B 5 (by omega);obtain⟨V,e6,f6⟩:=B 6 (by omega);obtain⟨X,e7,f7⟩:=B 7 (by omega);unfold Dq at h1;rw[<-e0,<-e1,<-e2,<-e3,<-e4,<-e5,<-e6,<-e7]at h1;have aD:=acp Dt;have HK:acr (∀w',Below w.heap.size w w'->Qq w' p t s now v0 U R v3 v4 v5 V X):=acp λ w' hb=>st_sees ((hb.block p aF).trans h1);unfold Qq at HK;have HF:=acp (And.intro f0 (And.intro f1 (And.intro f2 (And.intro f3 (And.intro f4 (And.intro f5 (And.intro f6 f7)))))));have z:Below w.heap.size w w.drew:=acu.drew;have TV:=acp (hM.grow z);have iT:=acp (h2.grow hM z);have HC:=acp (Q_ (h3.grow z) TV.o hT.w G);have mR:=acp (Step.grow (I:=λ m=>m=J\/m=G\/m=k') hM z);have xU:=acp z;have HM:=acp hM;clear u hM hT h1 h2 h3 h4 hk Dt z B e0 e1 e2 e3 e4 e5 e6 e7 f0 f1 f2 f3 f4 f5 f6 f7;go_enter Tryz.func19,Tryz.ntmps19;go_wp2_with fail;refine su ((λ w'=>w'.cell? ⟨p,0,none⟩=some (ptr t)/\w'.cell? ⟨p,1,none⟩=some (ptr s)/\w'.cell? ⟨p,2,none⟩=some (.int .u64 now)/\w'.cell? ⟨p,3,none⟩=some v0/\w'.cell? ⟨p,4,none⟩=some U/\w'.cell? ⟨p,5,none⟩=some R/\w'.cell? ⟨p,6,none⟩=some v3/\w'.cell? ⟨p,7,none⟩=some v4/\w'.cell? ⟨p,8,none⟩=some v5/\w'.cell? ⟨p,9,none⟩=some V/\w'.cell? ⟨p,10,none⟩=some X)) ?_ λ u=> ?_
 ·exact HK.o _ acu.drew
 refine aM 0 u ?_;refine aM 1 u ?_;refine aM 2 u ?_;refine aM 3 u ?_;refine aM 5 u ?_;refine aM 6 u ?_;refine aM 7 u ?_;refine aM 8 u ?_;refine aM 10 u ?_;refine aM 11 u ?_;refine aM 12 u ?_;refine aM 13 u ?_;refine aM 14 u ?_;refine aM 15 u ?_;refine aM 16 u ?_;refine aM 17 u ?_;refine lJ 4 λ K F=> ?_;go_simp;refine HC.o.mono ?_;rintro e w1 ⟨q,o1,rfl,D,aH,aJ⟩;have N:=TV.o.step (λ e=>n2 e.symm) D;have aB:=iT.o.step (λ e=>n2 e.symm) (λ e=>bq e) D;have K8:=acp (IG aB N Bv bS J n1);have jL:=acp N;have bf:=acp aH;have mo:=acp D;have Q:=acp (xU.o.trans aJ);clear N aB aH D aJ iT HC;go_wp2_with fail;refine kV F (HK.o _ Q.o) λ u=> ?_;clear F K;refine lJ 9 λ K F=> ?_;go_simp;refine K8.o.mono ?_;rintro e A ⟨s2,o2,rfl,C,aN,aA⟩;have tF:=acp (jL.o.step (λ e=>n1 e.symm) C);have bn:=acp (bf.o.step (λ e=>n1 e.symm) (λ e=>n5 e.symm) C);have bD:=acp C;have IE:=acp aN;have O:=acp (Q.o.trans (aA.mono Q.o.size));clear C aN aA K8;go_wp2_with fail;refine kV F (HK.o _ O.o) λ u=> ?_;clear F K;refine aM 18 u ?_;refine lJ 19 λ K F=> ?_;go_simp;have H:Below A.heap.size A (A.alloc (.cells #[ptr q,ptr s2,.int .u64 now,v0,U,R,v3,v4,v5,V,X] 110)):=wall A _;have Y:=acp H;have dI:=acp (O.o.trans (H.mono O.o.size));clear H;refine kV F (HK.o _ dI.o) λ u=> ?_;clear F K;refine aM 20 u ?_;refine rH ?_;go_wp2_with fail;go_ret;obtain⟨S,aL⟩:∃S,S=A.alloc (.cells #[ptr q,ptr s2,.int .u64 now,v0,U,R,v3,v4,v5,V,X] 110):=⟨_,rfl⟩;have ak:S.heap[A.heap.size]? =some (.cells #[ptr q,ptr s2,.int .u64 now,v0,U,R,v3,v4,v5,V,X] 110 (0,0)):=by rw[aL];exact(MapKept.heap_alloc A _).1
 rw[<-aL]at Y dI⊢;have av:A.heap.size<S.heap.size:=(qW.1 ak).1;obtain⟨o3,P,g1,g2⟩:=cK tF.o k' (λ b=>b=A.heap.size) (w':=S) (λ b hb=>by subst hb;exact⟨Nat.le_refl _,av⟩) Y.o;have aC:¬(λ m=>m=k') 0:=λ e=>n3 e.symm;have y:Step o (λ m=>m=J\/m=G\/m=k') w o3 S:=((mR.o.trans (mo.o.mono λ m Z=> .inr (.inl Z))).trans (bD.o.mono λ m Z=> .inl Z)).trans (P.mono λ m Z=> .inr (.inr Z));have E:¬(λ m=>m=J\/m=G\/m=k') 0:=λ e=>by rcases e with e|e|e<;>omega
 refine⟨A.heap.size,o3,rfl,y,⟨⟨q,s2,λ n=>if n=0 then v0 else if n=1 then U else if n=2 then R else if n=3 then v3 else if n=4 then v4 else if n=5 then v5 else if n=6 then V else X,?_,IE.o.step aC n6 P,bn.o.step aC n8 P,λ n hn=> ?_⟩,g1 _ rfl,av⟩,dI.o⟩
 ·rw[ak,<-aD.o];rfl
 ·obtain⟨f0,f1,f2,f3,f4,f5,f6,f7⟩:=HF.o;rcases (show n=0\/n=1\/n=2\/n=3\/n=4\/n=5\/n=6\/n=7 by omega)with rfl|rfl|rfl|rfl|rfl|rfl|rfl|rfl
  ·exact f0.step E y
  ·exact f1.step E y
  ·exact f2.step E y
  ·exact f3.step E y
  ·exact f4.step E y
  ·exact f5.step E y
  ·exact f6.step E y
  ·exact f7.step E y
theorem st_copy{c:Int}(h:vo W o i w p c M)(G:0<i)(u:Nat)(D:i+4<u\/u+4<i)(C:0<u):
  Dy 19 #[ptr p] w λ e w'=>∃q z,e= .returned (ptr q)/\Step o (Five u) w z w'/\vo W z u w' q c M:=by
 refine(MW h.st h.marks h.ok.t.1 h.ok.s.few h.ok.s.last (mk5 (i:=u) C).mm (by omega)).mono ?_;rintro e w' ⟨q,z,rfl,A,B,E⟩;have y:Step o (Five u) w z w':=A.mono λ m F=>pR (by omega);exact⟨q,z,rfl,y,⟨B,h.marks.step (λ e=>by have:=e.1;omega) y,h.ok⟩⟩
theorem MX(h:bP o i j k w p M)(n:Int):Dy 20 #[ptr p,.int .i64 n] w λ e w'=>w=w'/\e= .returned (.bool (gW M n true).isSome):=by
 have u:=acp (EU h n true);clear h;go_enter Tryz.func20,Tryz.ntmps20;go_wp2_with fail;refine u.o.mono ?_;rintro e _ ⟨rfl,h⟩;rcases h with⟨h,rfl⟩|⟨f,v,h,rfl,m⟩
 ·have H:=acp h;clear h;go_wp2_with fail;go_ret;exact⟨rfl,by rw[H.o];rfl⟩
 ·have H:=acp h;clear h m;go_wp2_with fail;go_ret;exact⟨rfl,by rw[H.o];rfl⟩
end
theorem UZ(x:iI)(H:Mx)(K:Nat)(w:World):Dy 22 #[.agg (opC x H K)] w λ e w'=>e= .returned (.bool (jR x))/\Below w.heap.size w w':=by
 obtain⟨m,G,J,R,at_,O,I,sn,M⟩:=x;unfold opC;have C:∀(m:Int),jR ⟨m,G,J,R,at_,O,I,sn,M⟩=decide (1<=m/\m<=17/\m≠4/\m≠11/\m≠12/\m≠17):=λ _=>rfl;rw[C];clear C;by_cases B:m=4
 ·subst B;go_enter ab6,abZ;go_wp2_with fail;go_ret;exact⟨rfl,wall w _⟩
 by_cases u:m=11
 ·subst u;go_enter ab6,abZ;go_wp2_with fail;go_ret;exact⟨rfl,wall w _⟩
 by_cases y:m=12
 ·subst y;go_enter ab6,abZ;go_wp2_with fail;go_ret;exact⟨rfl,wall w _⟩
 by_cases A:m=17
 ·subst A;go_enter ab6,abZ;go_wp2_with fail;go_ret;exact⟨rfl,wall w _⟩
 have S:(m==4)=false:=by simpa using B
 have P:(m==11)=false:=by simpa using u
 have Q:(m==12)=false:=by simpa using y
 have N:(m==17)=false:=by simpa using A
 by_cases D:1<=m
 ·by_cases E:m<=17
  ·have z:acr (decide (1<=m/\m<=17/\m≠4/\m≠11/\m≠12/\m≠17)=true):=acp (by simp;omega);have g1:decide (1<=m)=true:=by simpa using D
   have F:decide (m<=17)=true:=by simpa using E
   clear B u y A;rw[z.o];go_enter ab6,abZ;go_wp2_with fail;go_ret;exact⟨rfl,wall w _⟩
  ·have z:acr (decide (1<=m/\m<=17/\m≠4/\m≠11/\m≠12/\m≠17)=false):=acp (by simp;omega);have g1:decide (1<=m)=true:=by simpa using D
   have F:decide (m<=17)=false:=by simpa using E
   clear B u y A;rw[z.o];go_enter ab6,abZ;go_wp2_with fail;go_ret;exact⟨rfl,wall w _⟩
 ·have z:acr (decide (1<=m/\m<=17/\m≠4/\m≠11/\m≠12/\m≠17)=false):=acp (by simp;omega);have g1:decide (1<=m)=false:=by simpa using D
  clear B u y A;rw[z.o];go_enter ab6,abZ;go_wp2_with fail;go_ret;exact⟨rfl,wall w _⟩
