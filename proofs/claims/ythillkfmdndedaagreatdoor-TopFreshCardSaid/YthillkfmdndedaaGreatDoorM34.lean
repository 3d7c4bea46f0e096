/-  -/
import Derived.Lib.SlBytesConst
import Derived.Lib.SmallJoins
import Derived.Test.YthillkfmdndedaaGreatDoorM33
set_option maxRecDepth 100000
set_option maxHeartbeats 64000000
set_option linter.all false
namespace Go.Proofs.YthillkfmdndedaaGreatDoor
open Go.ChangeShapes Go.WideShapes Go.ChangeAt Go.RowKit
theorem IL{B x:Nat}{w:World}{v:Value}{m:I8}(h:bV B w x v m)(n:Int)(z:0<=n)(F:n<=9000000000000000000)(A:m.length<=100000000):Dy 76 #[ptr x,.int .i64 n] w (pz B w x v (m++bF n 2)):=by
 have u:acr (Dy 146 #[ptr x,.int .u64 n,.int .i64 2] w (pz B w x v (m++bF n 2))):=DI h n 2 (by omega) (by omega) (by omega) A;have E:IntKind.u64.wrap n=n:=by simp[IntKind.wrap,IntKind.bits,IntKind.signed];omega
 clear h;go_enter Tryz.func76,Tryz.ntmps76;go_wp2_with fail;refine u.o.mono ?_;rintro e D ⟨rfl,C,y⟩;go_wp2_with fail
 go_end0
 exact⟨rfl,C,y⟩
theorem mkZ(k:Nat)(m:Int)(u:m=k)(E:k<=1048576)(zc:Array Value)(C:zc=((List.replicate k (0:UInt8)).map bv).toArray)(w:World):(Instr.makeSlice 30 (.int .i64 m) (.int .i64 m)).run Tryz.prog w= .ok (.slice (some ⟨w.heap.size,0,none⟩) k k) (w.alloc (.cells zc 5)):=by
 obtain⟨B,D,y,A,z⟩:=aaq Tryz.vL;have h:=run_make (P:=Tryz.prog) w 30 5 B (.int .u8 0) Tryz.underlying30 D y .i64 .i64 m m (by omega) (by omega) (by rw[z];omega) (by omega);rw[h,A];subst C u;have e:madeCells (Value.cells (.int .u8 0)) k=((List.replicate k (0:UInt8)).map bv).toArray:=by
  apply Array.toList_inj.1;rw[show Value.cells (.int .u8 0)= #[.int .u8 0]from rfl,toList_madeCells_one];rw[List.map_replicate];rfl
 simp[e]
theorem Ar(k:Nat)(y:k<=1048576)(zc:Array Value)(m:zc=((List.replicate k (0:UInt8)).map bv).toArray)(w:World):ah (λ x=>w.heap.size<=x) (w.alloc (.cells zc 5)) (some ⟨w.heap.size,0,none⟩) k ((List.replicate k (0:UInt8)).map bv):=by
 subst m;have h:=jr (w:=w) ((List.replicate k (0:UInt8)).map bv) 5 (by simp;have:maxLen=9223372036854775807:=rfl;omega);rw[List.length_map,aaZ]at h;exact h.mono λ b u=>by rw[u];exact Nat.le_refl _
def uQ:List UInt8:=[87,79,82,77]
def lK(n:Nat)(id:I8):List UInt8:=uQ++bF 1 2++bF (n:Int) 2++id
def iP(n:Nat)(id:I8):List UInt8:=lK n id++bF (nk (lK n id)/65536) 2++bF (nk (lK n id)) 2++List.replicate 100 0
theorem Fv(n:Nat){id:I8}(h:id.length=16):(lK n id).length=24:=by simp[lK,uQ,ay,h]
theorem qD(n:Nat){id:I8}(h:id.length=16):(iP n id).length=128:=by simp[iP,Fv n h,ay]
theorem Yr(w:World):ah (λ b=>w.heap.size<=b) (w.alloc (.cells #[.int .u8 87,.int .u8 79,.int .u8 82,.int .u8 77] 5 (4,5))) (some ⟨w.heap.size,0,none⟩) 4 (uQ.map bv):=by
 refine⟨rfl,by decide,λ _=>⟨w.heap.size,0,rfl,Nat.le_refl _,by simp,λ j m=> ?_⟩⟩;rw[Nat.zero_add,World.cell?_alloc_mark];rcases (by omega:j=0\/j=1\/j=2\/j=3)with rfl|rfl|rfl|rfl<;>rfl
theorem IQ{S:Nat->Prop}(n:Nat)(h0:64<=n)(h1:n<=4096)(id:I8)(M:id.length=16)(a:Mx)(cp:Nat)(w:World)(hr:ah S w a 16 (id.map bv)):Dy 31 #[.int .i64 (n:Int),.slice a 16 cp] w (PW w (iP n id)):=by
 have Ry:=acp (λ w'=>xL n h0 h1 w');have aJ:=Fv n M;have HH:acr (lK n id=[]++uQ++bF 1 2++bF (n:Int) 2++id):=by show lK n id=_;unfold lK;simp
 obtain⟨c,hc⟩:∃c,c=nk (lK n id):=⟨_,rfl⟩;have av:acr (iP n id=lK n id++bF (c/65536) 2++bF c 2++List.replicate 100 0):=by rw[hc];rfl
 have cB:0<=c/\c<4294967296:=by rw[hc];exact mE _
 have HC:=acp hc;have dV:=acp (fB hr);have bT:uQ.length=4:=rfl;obtain⟨zc,A⟩:∃zc,zc=((List.replicate 100 (0:UInt8)).map bv).toArray:=⟨_,rfl⟩;have aB:=mkZ 100 100 rfl (by omega) zc A;have HZ:=acp (Ar 100 (by omega) zc A);clear A;have kc:=λ(w:World) (C:Array Value) (n c:Nat)=>Lib.run_convert_bytes_const (P:=Tryz.prog) w 30 5 C n c Tryz.underlying30 aa7;unfold aU at Ry;clear hr hc;go_enter Tryz.func31,Tryz.ntmps31;go_wp2_with fail;refine(Ry.o _).mono ?_;rintro e w1 ⟨rfl,Y⟩;have Z:=acp Y;clear Y;go_wp2_with fail;have u:=acp (Z.o.trans ((wall w1 (.cells #[.int .i64 (n:Int),.int .i64 ((n:Int)/4),.int .i64 (((n:Int)-1-2*((n:Int)/4))/8)] 58)).mono Z.o.size));obtain⟨w2,N⟩:∃w2,w2=w1.alloc (.cells #[.int .i64 (n:Int),.int .i64 ((n:Int)/4),.int .i64 (((n:Int)-1-2*((n:Int)/4))/8)] 58):=⟨_,rfl⟩;rw[<-N]at u⊢;clear N;refine(fG w2).mono ?_;rintro e w3 ⟨rfl,R,F⟩;have I:=acp R;have y:=acp F;clear R F;go_wp2_with fail;have z:=acp (Yr w3);have zQ:=acp (I.o.below (wall w3 (.cells #[.int .u8 87,.int .u8 79,.int .u8 82,.int .u8 77] 5 (4,5))));have dI:=acp (y.o.trans ((wall w3 (.cells #[.int .u8 87,.int .u8 79,.int .u8 82,.int .u8 77] 5 (4,5))).mono y.o.size));obtain⟨w4,G⟩:∃w4,w4=w3.alloc (.cells #[.int .u8 87,.int .u8 79,.int .u8 82,.int .u8 77] 5 (4,5)):=⟨_,rfl⟩;rw[<-G]at z zQ dI⊢;clear G I;refine(gZ zQ.o _ 4 4 uQ z.o (by simp) (by omega)).mono ?_;intro e w5 m;obtain⟨rfl,x5,Rp,O⟩:=dx.more zQ.o dI.o m;have xS:=acp Rp;have dK:=acp O;clear m Rp O zQ z dI y kc;go_wp2_with fail;refine(dH xS.o 1 (by omega) (by omega) (by simp[uQ])).mono ?_;intro e w6 m;obtain⟨rfl,x6,NG,X⟩:=dx.more xS.o dK.o m;have Bq:=acp NG;have nP:=acp X;clear m NG X xS dK;go_wp2_with fail;refine(dH Bq.o (n:Int) (by omega) (by omega) (by simp[uQ,ay])).mono ?_;intro e w7 m;obtain⟨rfl,x7,U,jG⟩:=dx.more Bq.o nP.o m;have CG:=acp U;have nE:=acp jG;have uW:=acp (dV.o.below (u.o.trans (jG.mono u.o.size)) acs);clear m U jG Bq nP;go_wp2_with fail;refine(gZ CG.o a 16 cp id uW.o (by simp[uQ,ay]) (by omega)).mono ?_;intro e w8 m;obtain⟨rfl,x8,Vy,jw⟩:=dx.more CG.o nE.o m;rw[<-HH.o]at Vy;have Gv:=acp Vy;have qY:=acp jw;clear m Vy jw CG nE uW;go_wp2_with fail;refine(iZ Gv.o (by omega)).mono ?_;rintro e w9 ⟨a9,n9,c9,rfl,Dj,lX,dG⟩;have bD:n9<=24:=by have:=lX.length;rw[List.length_map]at this;omega
 have O9:=acp (Gv.o.below dG);have pK:=acp (qY.o.trans (dG.mono qY.o.size));have zF:=acp (xK a9 n9 c9 (lK n id) w9 lX (by omega));rw[<-HC.o]at zF;clear lX dG Gv qY;go_wp2_with fail;refine zF.o.mono ?_;rintro e _ ⟨rfl,rfl⟩;go_wp2_with fail;have aN:(lK n id).length<=100:=by omega
 refine(dH O9.o (c/65536) (by omega) (by omega) (by omega)).mono ?_;intro e wA m;obtain⟨rfl,xA,K,Dv⟩:=dx.more O9.o pK.o m;have ZW:=acp K;have sU:=acp Dv;clear m K Dv O9 pK zF;go_wp2_with fail;refine(IL ZW.o c (by omega) (by omega) (by simp[ay];omega)).mono ?_;intro e wB m;obtain⟨rfl,xB,V,Ky⟩:=dx.more ZW.o sU.o m;have E:=acp V;have wR:=acp Ky;have bn:(lK n id++bF (c/65536) 2++bF c 2).length=28:=by simp[ay,aJ]
 clear m V Ky ZW sU;go_wp2_with fail;refine(iZ E.o (by omega)).mono ?_;rintro e wC ⟨aC,nC,cC,rfl,bf,W,B⟩;obtain rfl:nC=28:=by have:=W.length;rw[List.length_map]at this;omega
 have ak:=acp (E.o.below B);have LG:=acp (wR.o.trans (B.mono wR.o.size));clear W B E wR;go_wp2_with fail;have GK:=acp (HZ.o wC);have Vx:=acp (ak.o.below (wall wC (.cells zc 5)));have xU:=acp (LG.o.trans ((wall wC (.cells zc 5)).mono LG.o.size));obtain⟨wD,Q⟩:∃wD,wD=wC.alloc (.cells zc 5):=⟨_,rfl⟩;rw[<-Q]at GK Vx xU⊢;clear Q ak LG aB HZ;refine(gZ Vx.o _ 100 100 (List.replicate 100 0) GK.o (by omega) (by omega)).mono ?_;intro e wE m;obtain⟨rfl,xE,D,H⟩:=dx.more Vx.o xU.o m;rw[<-av.o]at D;have aD:=acp D;have Iz:=acp H;have bq:=qD n M;clear m D H Vx xU GK;go_wp2_with fail;refine(iZ aD.o (by omega)).mono ?_;rintro e wF ⟨aF,nF,cF,rfl,aA,J,Yt⟩;have aL:=acp J;have yu:=acp Yt;clear J Yt;go_wp2_with fail
 go_ret2
 have aH:=u.o.size;have bS:=Iz.o.size;have Fw:=u.o.trans (Iz.o.mono aH);refine⟨aF,nF,cF,rfl,aA,aL.o.mono λ b hb=>⟨by omega,hb.2⟩,Fw.trans (yu.o.mono (by omega))⟩
def iF(l:List RecM):List UInt8:=(l.map vG).flatten
theorem pW:∀l:List RecM,(iF l).length=iC l
 |[]=>rfl
 |x::r=>by
  have h:=pW r;unfold iF iC at h⊢;rw[aau,List.flatten_cons,List.length_append,h,aau,List.sum_cons]
def uz(l:List RecM):List UInt8:=oI (l.length+1) (l.map vG)
theorem zi(l:List RecM):(uz l).length=32:=BU _ _ (by rw[List.length_map];omega)
def VA(u f:Int)(m:I8)(l:List RecM):List UInt8:=bF u 2++bF f 8++bF (l.length:Int) 2++bF ((iF l).length:Int) 2++m++uz l
def P6(u f:Int)(m:I8)(l:List RecM):List UInt8:=VA u f m l++bF (nk (VA u f m l)) 4++iF l++List.replicate (942-(iF l).length) 0
structure MC(ix f:Int)(prev:I8)(l:List RecM):Prop where
 ix:0<=ix/\ix<=65535
 first:0<=f/\f<=1099511627776
 prev:prev.length=32
 more:l≠[]
 few:l.length<=100
 recs:∀x∈l,wP x
 room:iC l<=942
 GU:∀(k:Nat) (x:RecM),l[k]? =some x->x.seq=f+(k:Int)
theorem RA{u f:Int}{m:I8}{l:List RecM}(h:MC u f m l):(VA u f m l).length=78:=by simp[VA,ay,h.prev,zi]
theorem JV{u f:Int}{m:I8}{l:List RecM}(h:MC u f m l):(P6 u f m l).length=1024:=by
 have y:=h.room;rw[<-pW]at y;simp[P6,RA h,ay];omega
theorem Ao.concat{S:Nat->Prop}{w:World}{b m n:Nat}{L:List vH}(h:Ao S w (some ⟨b,m,none⟩) n L)(k:Nat)(A:k<n):∃a l c u,w.cell? ⟨b,m+k,none⟩=some (.slice a l c)/\ah S w a l (u.map bv)/\(ji L)[k]? =some u:=by
 obtain⟨C,z,e,-,-,B⟩:=h.row.at_ (by omega);cases e;have D:L.length=n:=by simpa using h.row.length
 have y:=List.getElem?_eq_getElem (l:=L) (i:=k) (by omega);refine⟨_,_,_,_,(B k A).trans (by rw[List.getElem?_map,y];rfl),(h.each _ (List.getElem_mem _)).1,by unfold ji;rw[List.getElem?_map,y];rfl⟩
theorem UF{Q S:Nat->Prop}(B f:Int)(u:I8)(l:List RecM)(h:MC B f u l)(pa:Mx)(pc:Nat)(a:Mx)(n c:Nat)(w:World)(hp:ah S w pa 32 (u.map bv))(hr:qC Q w a n l):
  Dy 83 #[.int .i64 B,.int .u64 f,.slice pa 32 pc,.slice a n c] w (PW w (P6 B f u l)):=by
 have hl:=hr.len;have g1:=h.ix;have g2:=h.first;have g3:0<n:=by
  have:=h.more;rcases aaI n with h0|h0
  ·rw[h0]at hl;exact absurd (aac hl) this
  ·exact h0
 have g4:n<=100:=by have:=h.few;omega
 have g5:(iF l).length<=942:=by rw[pW];exact h.room
 have l9:=RA h;have U:BX 942 l=n:=by rw[Aq 942 l h.room,hl]
 have aN:=acp (λ w' (m:Below w.heap.size w w')=>Fq l h.recs a n c w' (hr.below m) (by omega));rw[U]at aN;have iE:=acp (λ w' (m:Below w.heap.size w w')=>Fu l h.recs a n c w' (hr.below m) (by omega));have jl:=acp hr;have HP:=acp (fB hp);have HL:=acp hl;have iT:=acp h.GU;have rW:=acp h.prev;obtain⟨A,hA⟩:∃A,A=(iF l).length:=⟨_,rfl⟩;obtain⟨cr,H⟩:∃cr,cr=nk (VA B f u l):=⟨_,rfl⟩;have JW:0<=cr/\cr<4294967296:=by rw[H];exact mE _
 have iO:acr (VA B f u l=[]++bF B 2++bF f 8++bF (n:Int) 2++bF (A:Int) 2++u++uz l):=by show VA B f u l=_;unfold VA;rw[hl,<-hA];simp
 have nR:acr (P6 B f u l=VA B f u l++bF cr 4++iF l++List.replicate (942-A) 0):=by show P6 B f u l=_;unfold P6;rw[<-H,<-hA]
 have iN:=acp H;rw[<-hA]at g5;have HA:=acp hA;have d1:decide (B<0)=false:=aad (by omega);have d2:decide (65535<B)=false:=aad (by omega);have d3:decide (1099511627776<f)=false:=aad (by omega);have d4:((n:Int)==0)=false:=by simp;omega
 have d5:decide ((n:Int)<(n:Int))=false:=aad (by omega);have kA:IntKind.i64.wrap (942-(A:Int))=((942-A:Nat):Int):=by rw[aaf _ (by omega)];omega
 have KA:=acp kA;clear h hp hr hl U H hA kA;go_enter Tryz.func83,Tryz.ntmps83;go_wp2_with fail;refine(aN.o w acu).mono ?_;rintro e w1 ⟨rfl,d9⟩;have gM:=acp d9;clear d9;go_wp2_with fail
 go_loopw [44] (λ iv wr=>∃k:Nat,k<=n/\iv= .int .i64 k/\Below w.heap.size w wr) (λ iv _=>n-(intOf iv).toNat)
 case atStart=>exact⟨0,by omega,rfl,gM.o⟩
 case round=>
  obtain⟨k,hk,rfl,m⟩:=hrel;have HB:=acp m;by_cases iD:k<n
  ·obtain⟨x,hx⟩:∃x,l[k]? =some x:=⟨l[k]'(by rw[HL.o];exact iD),List.getElem?_eq_getElem _⟩;obtain⟨g,lN,ha,hc,rfl,kg,gL,bD,D⟩:=jl.o.cells hx;obtain⟨e0,e1,e2⟩:=D wr m;have VB:=iT.o k x hx;have lI:(0:Int)<=(k:Int):=by omega
   have i1:(k:Int)<(n:Int):=by omega
   have hd:decide ((k:Int)<(n:Int))=true:=by simpa using i1
   rw[VB]at e1;have ew:IntKind.u64.wrap (k:Int)=(k:Int):=by simp[IntKind.wrap,IntKind.bits,IntKind.signed];omega
   have mq:IntKind.u64.wrap (f+(k:Int))=f+(k:Int):=by simp[IntKind.wrap,IntKind.bits,IntKind.signed];omega
   clear hx D bD gL m VB;go_wp2_with fail;go_roundw
   case rel=>exact⟨k+1,by omega,by go_num,HB.o.trans ((wall _ _).mono HB.o.size)⟩
   case measure=>simp[intOf];omega
  ·have hd:decide ((k:Int)<(n:Int))=false:=by simp;omega
   obtain rfl:n=k:=by omega
   clear m;go_wp2_with fail;refine(iE.o wr HB.o).mono ?_;rintro e w2 ⟨a2,n2,c2,L,rfl,jv,aD,C,GV,dI⟩;obtain rfl:n2=n:=by rw[aD,List.length_map,HL.o]
   obtain⟨b2,o2,rfl,-,aL,-⟩:=C.row.at_ g3;have gy:=acp (HB.o.trans (dI.mono HB.o.size));have lC:=acp C;have JK:=acp (Ei b2 o2 c2 n2 (l.map vG) w2 aD (by omega) aL (by show(iF l).length<=_;rw[<-HA.o];omega) (λ k hk=>by have h9:=C.concat k hk;rw[GV]at h9;exact h9));have pE:acr (∀w',Below w2.heap.size w2 w'->Dy 149 #[.slice (some ⟨b2,o2,none⟩) n2 c2] w' (gH w' (uz l))):=acp λ w' m=>by
    have h9:=Ap (n2+1) L n2 (some ⟨b2,o2,none⟩) c2 w' (C.below m acs) (by omega) jv (by omega);rw[GV]at h9;unfold uz
    rwa [HL.o]
   have e9:(List.map vG l).flatten.length=A:=HA.o.symm;rw[e9]at JK;clear C GV dI aD e9;go_wp2_with fail;refine JK.o.mono ?_;rintro e w3 ⟨a3,c3,rfl,⟨jy,-⟩,fK,aB⟩;have jm:acr (ah (λ b=>b<w3.heap.size) w3 a3 A ((iF l).map bv)):=acp (fK.mono λ b m=>m.2);have cB:=acp aB;have G:=acp (gy.o.trans (aB.mono gy.o.size));clear fK aB JK;go_wp2_with fail;refine(fG w3).mono ?_;rintro e v0 ⟨rfl,y,m⟩;have ak:=acp y;have dn:=acp m;clear y m;go_wp2_with fail;refine(dH ak.o B (by omega) (by omega) (by simp)).mono ?_;intro e v1 z;obtain⟨rfl,kN,y,m⟩:=dx.more ak.o dn.o z;have M:=acp y;have dN:=acp m;clear z y m;go_wp2_with fail;refine(jB M.o f (by omega) (by omega) (by simp[ay])).mono ?_;intro e v2 z;obtain⟨rfl,mU,y,m⟩:=dx.more M.o dN.o z;have K:=acp y;have aJ:=acp m;clear z y m;go_wp2_with fail;refine(dH K.o (n2:Int) (by omega) (by omega) (by simp[ay])).mono ?_;intro e v3 z;obtain⟨rfl,l8,y,m⟩:=dx.more K.o aJ.o z;have V:=acp y;have bq:=acp m;clear z y m;go_wp2_with fail;refine(dH V.o (A:Int) (by omega) (by omega) (by simp[ay])).mono ?_;intro e v4 z;obtain⟨rfl,mo,y,m⟩:=dx.more V.o bq.o z;have I:=acp y;have X:=acp m;clear z y m;go_wp2_with fail;refine(gZ I.o pa 32 pc u (HP.o.below (G.o.trans (X.o.mono G.o.size)) acs) (by simp[ay]) (by omega)).mono ?_;intro e v5 z;obtain⟨rfl,jL,y,m⟩:=dx.more I.o X.o z;have fT:=acp y;have F:=acp m;clear z y m;go_wp2_with fail;refine(pE.o v5 (cB.o.trans (F.o.mono cB.o.size))).mono ?_;rintro e v6 ⟨a6,n6,c6,rfl,l6,B_,aH⟩;obtain rfl:n6=32:=by have:=B_.length;rw[List.length_map,zi]at this;exact this.symm
   have yL:=acp B_;have Y:=acp (fT.o.below aH);have dM:=acp (F.o.trans (aH.mono F.o.size));clear B_ aH;go_wp2_with fail;refine(gZ Y.o a6 32 c6 (uz l) yL.o (by simp[ay,rW.o]) (by omega)).mono ?_;intro e v7 z;obtain⟨rfl,kW,y,m⟩:=dx.more Y.o dM.o z;rw[<-iO.o]at y;have P:=acp y;have O:=acp m;clear z y m;go_wp2_with fail;refine(iZ P.o (by omega)).mono ?_;rintro e v8 ⟨a8,n8,c8,rfl,l5,qQ,jw⟩;have uJ:n8<=78:=by have:=qQ.length;rw[List.length_map]at this;omega
   have dV:=acp (P.o.below jw);have aA:=acp (O.o.trans (jw.mono O.o.size));have zF:=acp (xK a8 n8 c8 (VA B f u l) v8 qQ (by omega));rw[<-iN.o]at zF;clear qQ jw;go_wp2_with fail;refine zF.o.mono ?_;rintro e _ ⟨rfl,rfl⟩;go_wp2_with fail;refine(Mt cr JW.1 v8).mono ?_;rintro e v9 ⟨a9,n9,c9,rfl,Dj,lX,dG⟩;obtain rfl:n9=4:=by have:=lX.length;rw[List.length_map,ay]at this;exact this.symm
   have Dk:=acp lX;have N:=acp (dV.o.below dG);have dK:=acp (aA.o.trans (dG.mono aA.o.size));clear lX dG zF;go_wp2_with fail;refine(gZ N.o a9 4 c9 (bF cr 4) Dk.o (by omega) (by omega)).mono ?_;intro e vA z;obtain⟨rfl,l7,y,m⟩:=dx.more N.o dK.o z;have av:=acp y;have R:=acp m;clear z y m;go_wp2_with fail;refine(gZ av.o a3 A c3 (iF l) (jm.o.below R.o acs) (by simp[ay];omega) (by omega)).mono ?_;intro e vB z;obtain⟨rfl,mR,y,m⟩:=dx.more av.o R.o z;have bT:=acp y;have W:=acp m;clear z y m;obtain⟨zc,aC⟩:∃zc,zc=((List.replicate (942-A) (0:UInt8)).map bv).toArray:=⟨_,rfl⟩;have jc:=mkZ (942-A) ((942-A:Nat):Int) rfl (by omega) zc aC;have kA:=KA.o;have GK:=acp (Ar (942-A) (by omega) zc aC vB);have E:=acp (bT.o.below (wall vB (.cells zc 5)));have J:=acp (W.o.trans ((wall vB (.cells zc 5)).mono W.o.size));clear aC;go_wp2_with fail;obtain⟨vD,bS⟩:∃vD,vD=vB.alloc (.cells zc 5):=⟨_,rfl⟩;rw[<-bS]at GK E J⊢;clear bS jc kA;refine(gZ E.o _ (942-A) (942-A) (List.replicate (942-A) 0) GK.o (by have:=HA.o;simp[ay];omega) (by omega)).mono ?_;intro e vE z;obtain⟨rfl,jG,y,m⟩:=dx.more E.o J.o z;rw[<-nR.o]at y;have bf:=acp y;have Z:=acp m;clear z y m;go_wp2_with fail;have ko:(P6 B f u l).length<=100000:=by rw[nR.o];have:=HA.o;simp[ay];omega
   refine(iZ bf.o (by omega)).mono ?_;rintro e vF ⟨aF,nF,cF,rfl,ig,bn,Yt⟩;have jo:=acp bn;have yu:=acp Yt;clear bn Yt;go_wp2_with fail
   go_ret2
   have iM:=G.o.size;have mQ:=Z.o.size;exact⟨aF,nF,cF,rfl,ig,jo.o.mono λ b m=>⟨by omega,m.2⟩,(G.o.trans (Z.o.mono iM)).trans (yu.o.mono (by omega))⟩
theorem Tryz.DW:(Tryz.prog.info? 71).map (λ i=>(i.zero,i.size,i.bytes))=some (some (.agg #[.int .i64 0,.int .u64 0,.slice none 0 0]),3,40):=by kernel_rfl
structure iq(B:Nat)(w:World)(v:Value)(l:List RecM):Prop where
 at_:∃vals,w.ownsRow B 71 3 v l.length vals/\iU (λ b=>B<=b/\b<w.heap.size/\v.ownBlock≠some b) w vals l
theorem iq.nil(B:Nat)(w:World):iq B w (.slice none 0 0) []:=⟨[],⟨rfl,.inl ⟨rfl,rfl⟩⟩,rfl⟩
theorem iq.below{B:Nat}{w w':World}{v:Value}{l:List RecM}(h:iq B w v l)(y:Below w.heap.size w w'):iq B w' v l:=by
 obtain⟨m,u,A⟩:=h.at_;exact⟨m,f_ u y,A.imp λ _ _ _ z=>(z.below y acs).mono λ b u=>⟨u.1,by have:=y.size;omega,u.2.2⟩⟩
theorem iq.mono{B B':Nat}{w:World}{v:Value}{l:List RecM}(h:iq B w v l)(H:B'<=B):iq B' w v l:=by
 obtain⟨m,⟨G,E⟩,D⟩:=h.at_;refine⟨m,⟨G,E.imp id λ⟨g,y,z,F,I,C⟩=>⟨g,y,z,F,by omega,C⟩⟩,D.imp λ _ _ _ A=>A.mono λ b u=>⟨by omega,u.2⟩⟩
theorem iq.keep{B:Nat}{w w':World}{v:Value}{l:List RecM}(h:iq B w v l)(D:w.heap.size<=w'.heap.size)(z:∀b,B<=b->b<w.heap.size->w'.heap[b]? =w.heap[b]?):iq B w' v l:=by
 obtain⟨y,A,E⟩:=h.at_;exact⟨y,bK A λ b u m=>z b (aZ A b u) m,E.imp λ _ _ _ C=>C.move D λ b u m=>⟨⟨u.1,by omega,u.2.2⟩,z b u.1 m⟩⟩
theorem iq.form{B:Nat}{w:World}{v:Value}{l:List RecM}(h:iq B w v l):∃a c,v= .slice a l.length c/\l.length<=c/\(∀b,v.ownBlock=some b->B<=b/\b<w.heap.size):=by
 obtain⟨u,m,A⟩:=h.at_;obtain⟨a,c,e,z⟩:=bg m;exact⟨a,c,e,z,λ b y=>⟨aZ m b y,iK m b y⟩⟩
theorem iq.rows{B c:Nat}{w:World}{a:Mx}{l:List RecM}(h:iq B w (.slice a l.length c) l)(D:l.length<=1000000):qC (λ b=>B<=b/\b<w.heap.size) w a l.length l:=by
 obtain⟨m,C,z⟩:=h.at_;obtain⟨-,-,A⟩:=ah.kg C (by unfold maxLen;omega);exact⟨m,A,z.imp λ _ _ _ y=>y.mono λ b u=>⟨u.1,u.2.1⟩⟩
theorem iq.add{B:Nat}{w y:World}{v:Value}{m:List Value}{l:List RecM}{o:Obj}{A':Mx}{c':Nat}{x:RecM}{a:Mx}{c:Nat}(K:iU (λ b=>B<=b/\b<w.heap.size/\v.ownBlock≠some b) w m l)(J:ah (λ b=>B<=b/\b<w.heap.size/\v.ownBlock≠some b) w a x.body.length (x.body.map bv))(I:x.body.length<=c)
  (u:y.ownsRow B 71 3 (.slice A' (l.length+1) c') (l.length+1) (m++[.int .i64 x.kind,.int .u64 x.seq,.slice a x.body.length c]))(G:(w.alloc o).grownBy y v.ownBlock)(z:(Value.slice A' (l.length+1) c').ownBlock=v.ownBlock\/(Value.slice A' (l.length+1) c').ownBlock=some (w.alloc o).heap.size):iq B y (.slice A' (l.length+1) c') (l++[x]):=by
 have H:(w.alloc o).heap.size=w.heap.size+1:=Pe _ _;have M:=G.size;have A:∀{a:Mx} {n:Nat} {vs:List Value},ah (λ b=>B<=b/\b<w.heap.size/\v.ownBlock≠some b) w a n vs->ah (λ b=>B<=b/\b<y.heap.size/\(Value.slice A' (l.length+1) c').ownBlock≠some b) y a n vs:=λ C=>C.move (by omega) λ b D E=>⟨⟨D.1,by omega,λ e=>by
  rcases z with F|F
  ·rw[F]at e;exact D.2.2 e
  ·rw[F]at e;have:=aat e;omega⟩,(G.block b (by omega) λ e=>D.2.2 e.symm).trans (Below.heap_alloc w o b E)⟩
 exact⟨_,by simpa using u,(K.imp λ _ _ _ C=>A C).append ⟨_,[],rfl,⟨a,c,rfl,I,A J⟩,rfl⟩⟩
theorem ME{S:Nat->Prop}(f:Int)(l:List RecM)(aL:∀x∈l,wP x)(VB:∀(k:Nat) (x:RecM),l[k]? =some x->x.seq=f+(k:Int))(hf:0<=f/\f<=1099511627776)(h:Rz)(hh:h.count=(l.length:Int)/\h.first=f)(pa ra:Mx)(pc rc:Nat)(a:Mx)(n c:Nat)(w:World)(hr:ah S w a n ((iF l).map bv))(hn:n<=100000)(hc:n<=c)(gM:l.length<=1000):
  Dy 156 #[.slice a n c,.agg (CZ h pa pc ra rc)] w λ e w'=>∃v,e= .returned (.tuple #[v,.bool true])/\iq w.heap.size w' v l/\Below w.heap.size w w':=by
 obtain⟨bn,bD⟩:=hh;unfold CZ;rw[bn,bD];obtain⟨N,hN⟩:∃N,N=l.length:=⟨_,rfl⟩;rw[<-hN]at gM⊢;have HN:=acp hN;have h_:=acp aL;have iD:=acp VB;have HR:=acp hr;obtain⟨i0,hi,aA,dn,aD⟩:=aaq Tryz.DW;have HI:=acp (And.intro hi (And.intro aA (And.intro dn aD)));obtain⟨A,F⟩:∃A,A=w.alloc (.cells #[.int .i64 h.index,.int .u64 f,.int .i64 (N:Int),.int .i64 h.bytes,.slice pa 32 pc,.slice ra 32 rc] 150):=⟨_,rfl⟩;have bT:Below w.heap.size w A:=by rw[F];exact wall w _
 have bS:A.heap[w.heap.size]? =some (.cells #[.int .i64 h.index,.int .u64 f,.int .i64 (N:Int),.int .i64 h.bytes,.slice pa 32 pc,.slice ra 32 rc] 150 (0,0)):=by rw[F];exact(MapKept.heap_alloc w _).1
 have iO:A.heap.size=w.heap.size+1:=by rw[F];simp
 have Z:=acp bT;have HH:acr (∀u,Below A.heap.size A u->u.cell? ⟨w.heap.size,1,none⟩=some (.int .u64 f)/\u.cell? ⟨w.heap.size,2,none⟩=some (.int .i64 (N:Int))):=λ u Q=>by
  have h1:=(Q.block w.heap.size (by omega)).trans bS;refine⟨?_,?_⟩<;>simp[World.cell?,h1]
 have ig:=acp F;clear bn bD hN aL VB hr hi aA dn aD F bS bT;obtain⟨c1,K⟩:=HH.o A acu;go_enter Tryz.func156,Tryz.ntmps156;go_wp2_with fail
 go_loopw [0,6,13] (λ sv v iv wr=>∃(k:Nat) (a':Mx) (z c':Nat),k<=N/\iv= .int .i64 k/\sv= .slice a' z c'/\z<=n/\z<=c'/\ah (λ b=>b<w.heap.size) wr a' z ((iF (l.drop k)).map bv)/\iq A.heap.size wr v (l.take k)/\Below A.heap.size A wr) (λ _ _ iv _=>N-(intOf iv).toNat)
 case atStart=>
  rw[<-ig.o];exact⟨0,a,n,c,by omega,rfl,rfl,Nat.le_refl _,hc,by simpa using(fB HR.o).below Z.o acs,by simpa using iq.nil _ _,Below.refl _ _⟩
 case round=>
  obtain⟨k,a',z,c',hk,rfl,rfl,jc,dM,P,hg,Q⟩:=hrel;have HB:=acp Q;have HG:=acp hg;have dV:=acp P;clear P c1 K;by_cases dN:k<N
  ·obtain⟨x,hx⟩:∃x,l[k]? =some x:=⟨l[k]'(by rw[<-HN.o];exact dN),List.getElem?_eq_getElem _⟩;have U:=h_.o x (aaD hx);have VB:=iD.o k x hx;have m:(l.take k).length=k:=by rw[List.length_take];have:=HN.o;omega
   obtain⟨av,cv,rfl,dI,H⟩:=hg.form;rw[m]at HG dI H⊢;have e1:iF (l.drop k)=vG x++iF (l.drop (k+1)):=by rw[MB hx];rfl
   obtain⟨L,hL⟩:∃L,L=(vG x).length:=⟨_,rfl⟩;have d9:L<=z:=by have:=dV.o.length;rw[List.length_map,e1,List.length_append]at this;omega
   have HD:acr (Dy 206 #[.slice a' z c'] wr (Yf wr x)):=acp (Uu x U (iF (l.drop (k+1))) a' z c' wr (by rw[<-e1];exact dV.o) dM (by omega));unfold Yf at HD;rw[<-hL]at HD;have jv:=U.body;have jl:15<=L:=by rw[hL,og];omega
   have HX:=acp hx;have aN:=acp VB;have Kz:=acp e1;have HL:=acp hL;have aH:=acp m;have Y:=acp H;have jm:(0:Int)<=(k:Int):=by omega
   have i1:(k:Int)<(N:Int):=by omega
   have hd:decide ((k:Int)<(N:Int))=true:=by simpa using i1
   have jo:=Q.size;clear hx Q hg U VB e1 hL m H;go_wp2_with fail;refine HD.o.mono ?_;rintro e R ⟨V,K,rfl,cB,bf,C⟩;unfold vw;rw[aN.o];obtain⟨G,I⟩:∃G,G=R.alloc (.cells #[.int .i64 x.kind,.int .u64 (f+(k:Int)),.slice V x.body.length K] 71):=⟨_,rfl⟩;have E:Below R.heap.size R G:=by rw[I];exact wall R _
   have iE:G.heap.size=R.heap.size+1:=by rw[I];simp
   have aF:=acp (HB.o.trans ((C.trans (E.mono C.size)).mono HB.o.size));have fK:=acp I;obtain⟨O,J,aB⟩:=(((HG.o.below C).below E)).at_;rw[aH.o]at J;have LV:=acp J;have gy:=acp aB;have iM:=acp (bf.below E acs);have X:=acp (dV.o.below (C.trans (E.mono C.size)) acs);have jw:=C.size;have ew:IntKind.u64.wrap (k:Int)=(k:Int):=by simp[IntKind.wrap,IntKind.bits,IntKind.signed];omega
   have jG:IntKind.u64.wrap (f+(k:Int))=f+(k:Int):=by simp[IntKind.wrap,IntKind.bits,IntKind.signed];omega
   have ak:acr ((G.alloc (.cells #[.int .i64 x.kind,.int .u64 (f+(k:Int)),.slice V x.body.length K] 71)).ownsRow A.heap.size 71 3 (.slice av k cv) k O):=f_ J (wall _ _);obtain⟨b0,o0,rfl,-,iT,-⟩:=dV.o.at_ (by omega);have j0:(0:Int)<=(L:Int):=by omega
   have j1:(L:Int)<=(z:Int):=by omega
   have j2:L<=z:=d9;obtain⟨c3,c4⟩:=HH.o G aF.o;rw[I]at c3 c4;have dK:acr (ah (λ b=>b=G.heap.size) (G.alloc (.cells #[.int .i64 x.kind,.int .u64 (f+(k:Int)),.slice V x.body.length K] 71)) (some ⟨R.heap.size+1,0,none⟩) (1*3) [.int .i64 x.kind,.int .u64 (f+(k:Int)),.slice V x.body.length K]):=by
    rw[<-iE];exact jr (w:=G) [.int .i64 x.kind,.int .u64 (f+(k:Int)),.slice V x.body.length K] 71 (by simp[maxLen])
   clear C E bf J aB I;go_wp2_with (at_builtin;rw[<-fK.o];refine jM rfl _ _ 143 rfl A.heap.size 71 i0 _ 3 40 Tryz.underlying143 HI.o.1 HI.o.2.1 HI.o.2.2.1 HI.o.2.2.2 rfl (by omega) (.slice av k cv) k O rfl ak.o (some ⟨R.heap.size+1,0,none⟩) 1 1 [.int .i64 x.kind,.int .u64 (f+(k:Int)),.slice V x.body.length K] (by rfl) dK.o (by simp[Value.oneCell']) (by unfold maxLen;omega) (by omega) (by simp;omega) ?_;intro A1 k1 w4 kN D M;have Xw:=acp kN;have Z0:=acp D;have gL:=acp M;clear kN D M);go_roundw
   case rel=>
    have m:=aH.o;have D:=Z0.o;have dG:=D.size;rw[Pe]at dG;obtain⟨bq,ek⟩:=aaj.1 HX.o;have jy:z=L+(iF (l.drop (k+1))).length:=by have:=dV.o.length;rw[List.length_map,Kz.o,List.length_append]at this;have:=HL.o;omega
    have W:ah (λ b=>b<w.heap.size) w4 (some ⟨b0,o0,none⟩) z ((iF (l.drop k)).map bv):=X.o.kept (by omega) λ b Q iN=>(D.block b (by simp;omega) λ e=>by have:=Y.o b e.symm;omega).trans ((MapKept.heap_alloc G _).2 b iN);refine⟨k+1,_,z-L,c'-L,by omega,by go_num,rfl,by omega,by omega,?_,?_,?_⟩
    ·by_cases h9:c'=L
     ·have h8:iF (l.drop (k+1))=[]:=aac (by omega);rw[h8,show z-L=0 by omega];exact ah.zero _ _ _ rfl rfl
     ·rw[if_neg h9];have h8:=W.drop L
      rwa [Kz.o,aas,abe (by rw[List.length_map];exact HL.o.symm)]at h8
    ·have aJ:f+(k:Int)=x.seq:=aN.o.symm;have nG:=Xw.o;have aC:=gL.o;rw[aJ,<-m]at nG;rw[<-m]at aC D;have h9:=iq.add (v:= .slice av (l.take k).length cv) (l:=l.take k) (x:=x) (a:=V) (c:=K) (c':=k1) (A':=A1) (by have h8:=gy.o;rwa [m]) (iM.o.mono λ b Q=>⟨by omega,by omega,λ e=>by rw[m]at e;have:=Y.o b e;omega⟩) cB.1 nG D aC;rw[m]at h9;rw[aai bq,ek];exact h9
    ·exact(aF.o.trans ((wall G _).mono (by omega))).trans ((Keeps.grown Z0.o).bS (B:=A.heap.size) (by rw[Pe];omega) λ y hy e=>by have:=Y.o y e;omega)
   case measure=>simp[intOf];omega
  ·have hd:decide ((k:Int)<(N:Int))=false:=by simp;omega
   obtain rfl:N=k:=by omega
   have e0:iF (l.drop N)=[]:=by rw[aay (by rw[<-HN.o];exact Nat.le_refl _)];rfl
   have fT:z=0:=by have:=dV.o.length;rw[e0]at this;exact this.symm
   subst fT;rw[List.take_of_length_le (by rw[<-HN.o];exact Nat.le_refl _)]at HG;clear hg Q e0;go_wp2_with fail
   go_ret2
   exact⟨_,rfl,HG.o.mono (B:=A.heap.size) (by omega),Z.o.trans (HB.o.mono Z.o.size)⟩
def slLen:Value->Nat
 | .slice _ n _=>n
 |_=>0
theorem UG{S:Nat->Prop}{w:World}{a:Mx}{n:Nat}(h:ah S w a n ((List.replicate n (0:UInt8)).map bv)){k:Nat}(u:k<n):∃b m,a=some ⟨b,m,none⟩/\w.cell? ⟨b,m+k,none⟩=some (.int .u8 0):=by
 obtain⟨b,m,rfl,-,-,y⟩:=h.at_ (by omega);refine⟨b,m,rfl,(y k u).trans ?_⟩;rw[List.getElem?_map,abm,if_pos u];rfl
theorem P7{S:Nat->Prop}(a:Mx)(n c:Nat)(w:World)(h:ah S w a n ((List.replicate n (0:UInt8)).map bv))(J:n<=1000000)(D:n<=c):
  Dy 178 #[.slice a n c,.int .u8 0] w λ e w'=>e= .returned (.slice a 0 c)/\w=w':=by
 have y:=acp h;clear h;go_enter Tryz.func178,Tryz.ntmps178;go_wp2
 go_loopw [0] (λ u wr=>∃k:Nat,k<=n/\u= .slice a k c/\wr=w) (λ u _=>slLen u)
 case atStart=>exact⟨n,Nat.le_refl _,rfl,rfl⟩
 case round=>
  obtain⟨k,C,rfl,rfl⟩:=hrel;by_cases G:0<k
  ·obtain⟨b,z,rfl,m⟩:=UG y.o (show k-1<n by omega);have F:IntKind.i64.wrap ((k:Int)-1)=((k-1:Nat):Int):=by rw[aaf _ (by omega)];omega
   have A:decide ((0:Int)<(k:Int))=true:=aak (by omega);have E:(0:Int)<=((k-1:Nat):Int):=by omega
   have H:((k-1:Nat):Int)<(k:Int):=by omega
   have I:((k-1:Nat):Int)<=(c:Int):=by omega
   have B:k-1<=c:=by omega
   go_wp2_with fail;go_roundw
   case rel=>exact⟨k-1,by omega,by simp,trivial⟩
   case measure=>simp[slLen];omega
  ·obtain rfl:k=0:=by omega
   go_wp2_with fail;go_ret;exact⟨rfl,rfl⟩
theorem UH(a:Mx)(c:Nat)(w:World):Dy 177 #[.slice a 0 c,.int .u8 0] w λ e w'=>e= .returned (.slice none 0 0)/\w=w':=by
 go_enter Tryz.func177,Tryz.ntmps177;go_wp2
 go_loopw [0] (λ m wr=>m= .slice a 0 c/\wr=w) (λ m _=>0)
 case atStart=>exact⟨rfl,rfl⟩
 case round=>
  obtain⟨rfl,rfl⟩:=hrel;go_wp2_with fail;go_ret;exact⟨rfl,rfl⟩
theorem Ca{S:Nat->Prop}(a:Mx)(n c:Nat)(w:World)(h:ah S w a n ((List.replicate n (0:UInt8)).map bv))(G:n<=1000000)(C:n<=c):
  Dy 111 #[.slice a n c,.string {data:= #[0]}] w λ e w'=>e= .returned (.slice none 0 0)/\Below w.heap.size w w':=by
 have E:acr (∀w' (v:Int),v=0->Below w.heap.size w w'->Dy 178 #[.slice a n c,.int .u8 v] w' λ e y=>e= .returned (.slice a 0 c)/\w'=y):=acp (λ w' v z (D:Below w.heap.size w w')=>by subst z;exact P7 a n c w' (h.below D acs) G C);have B:acr (∀w' (v:Int),v=0->Dy 177 #[.slice a 0 c,.int .u8 v] w' λ e y=>e= .returned (.slice none 0 0)/\w'=y):=acp (λ w' v z=>by subst z;exact UH a c w');clear h;by_cases F:n=0
 ·subst F;go_enter Tryz.func111,Tryz.ntmps111;go_wp2_with fail;go_ret;exact⟨rfl,Below.refl _ _⟩
 ·have I:((n:Int)==0)=false:=by simp;omega
  go_enter Tryz.func111,Tryz.ntmps111;go_wp2_with fail;refine su ((λ w'=>Below w.heap.size w w')) ?_ λ m=> ?_
  ·exact acu.drew
  refine aM 0 m ?_;refine aM 1 m ?_;refine aM 2 m ?_;refine aM 4 m ?_;refine aM 5 m ?_;refine lJ 3 λ K u=> ?_;go_simp;refine(E.o _ _ (by kernel_rfl) m).mono ?_;rintro e A ⟨rfl,rfl⟩;go_wp2_with fail;refine kV u (m) λ m=> ?_;clear u K;refine lJ 6 λ K u=> ?_;go_simp;refine(B.o _ _ (by kernel_rfl)).mono ?_;rintro e A ⟨rfl,rfl⟩;go_wp2_with fail;refine kV u (m) λ m=> ?_;clear u K;refine aM 7 m ?_;have H:=acp m;clear m;refine rH ?_;go_wp2_with fail;go_ret;exact⟨rfl,H.o⟩
theorem IU{S S':Nat->Prop}(a z:Mx)(n A c c':Nat)(y m:I8)(u:y≠m)(w:World)(h:ah S w a n (y.map bv))(B:ah S' w z A (m.map bv)):
  Dy 112 #[.slice a n c,.slice z A c'] w λ e w'=>e= .returned (.bool false)/\w=w':=by
 have E:=gQ (c:=c) h;have C:=gQ (c:=c') B;obtain⟨D,F⟩:=KL u;clear h B;go_enter Tryz.func112,Tryz.ntmps112;go_wp2_with fail;go_ret;exact⟨by simp[D],rfl⟩
def Cb(x:Rz):List UInt8:=bF x.index 2++bF x.first 8++bF x.count 2++bF x.bytes 2++x.prev++x.root
def Yu:Array Value:= #[.int .i64 0,.int .u64 0,.int .i64 0,.int .i64 0,.slice none 0 0,.slice none 0 0]
theorem JX:(Tryz.prog.info? 150).map (·.size)=some 6:=by kernel_rfl
theorem Fx{w:World}{x:Rz}{b u y:Nat}{m z:Mx}(h:w.heap[b]? =some (.cells (CZ x m u z y) 150 (0,0))):w.cell? ⟨b,0,none⟩=some (.int .i64 x.index)/\w.cell? ⟨b,1,none⟩=some (.int .u64 x.first)/\w.cell? ⟨b,2,none⟩=some (.int .i64 x.count)/\w.cell? ⟨b,3,none⟩=some (.int .i64 x.bytes)/\w.cell? ⟨b,4,none⟩=some (.slice m 32 u)/\w.cell? ⟨b,5,none⟩=some (.slice z 32 y):=by
 refine⟨?_,?_,?_,?_,?_,?_⟩<;>simp[World.cell?,h,CZ]
theorem Yv{B:Func}{C u A:Nat}{Q:Ending->World->Prop}{a:Act}{w:World}{b:Nat}{m:Array Value}{y z:Value}(J:B.results= #[.cell C 150,.tmp u,.tmp A])(F:a.tmps.getD C undef= .pointer (some ⟨b,0,none⟩))(I:a.tmps.getD u undef=y)(D:a.tmps.getD A undef=z)(E:a.defers=[])(G:w.heap[b]? =some (.cells m 150 (0,0)))(K:m.size=6)(H:Q (.returned (.tuple #[.agg m,y,z])) w):
  bodyPost Tryz.prog B Q .ret a w:=by
 subst I D;exact aav (v:= .tuple #[.agg m,a.tmps.getD u undef,a.tmps.getD A undef]) (oh J F (aaS w b 150 150 _ (0,0) _ G Tryz.underlying150 rfl (by rw[K];exact JX))) E H
def SgBad(w:World)(e:Ending)(w':World):Prop:=e= .returned (.tuple #[.agg Yu,.slice none 0 0,.int .i64 14])/\Below w.heap.size w w'
def SgRet(w:World)(x:Rz)(l:List RecM)(e:Ending)(w':World):Prop:=
 ∃m u y z v,e= .returned (.tuple #[.agg (CZ x m u y z),v,.int .i64 0])/\ah (λ b=>w.heap.size<=b/\b<w'.heap.size) w' m 32 (x.prev.map bv)/\ah (λ b=>w.heap.size<=b/\b<w'.heap.size) w' y 32 (x.root.map bv)/\32<=u/\iq w.heap.size w' v l/\Below w.heap.size w w'
theorem Fy{S:Nat->Prop}(x:Rz)(hx:UD x)(C D:I8)(hC:C.length=4)(hD:D.length=942)(l:List RecM)(G:C=bF (nk (Cb x)) 4->x=⟨x.index,x.first,l.length,(iF l).length,x.prev,uz l⟩/\MC x.index x.first x.prev l/\D=iF l++List.replicate (942-(iF l).length) 0)
  (a:Mx)(c:Nat)(w:World)(hr:ah S w a 1024 ((Cb x++C++D).map bv))(hc:1024<=c):
  Dy 85 #[.slice a 1024 c] w λ e w'=>(C≠bF (nk (Cb x)) 4/\SgBad w e w')\/(C=bF (nk (Cb x)) 4/\SgRet w x l e w'):=by
 have g1:=hx.index;have g2:=hx.first;have g3:=hx.count;have g4:=hx.bytes;have d9:=hx.prev;have ak:=hx.root;have X:(Cb x).length=78:=by simp[Cb,ay,d9,ak]
 obtain⟨b0,o0,rfl,-,nQ,-⟩:=hr.at_ (by omega);obtain⟨H,hH⟩:∃H,H=Cb x:=⟨_,rfl⟩;rw[<-hH]at X hr G⊢;obtain⟨cr,aC⟩:∃cr,cr=nk H:=⟨_,rfl⟩;have JW:0<=cr/\cr<4294967296:=by rw[aC];exact mE _
 rw[<-aC]at G⊢;have iT:=acp aC;clear aC;obtain⟨r6,B_⟩:∃r6,r6=C++D:=⟨_,rfl⟩;obtain⟨r5,BI⟩:∃r5,r5=x.root++r6:=⟨_,rfl⟩;obtain⟨r4,dI⟩:∃r4,r4=x.prev++r5:=⟨_,rfl⟩;obtain⟨r3,cB⟩:∃r3,r3=bF x.bytes 2++r4:=⟨_,rfl⟩;obtain⟨r2,dM⟩:∃r2,r2=bF x.count 2++r3:=⟨_,rfl⟩;obtain⟨r1,dN⟩:∃r1,r1=bF x.first 8++r2:=⟨_,rfl⟩;obtain⟨B,hB⟩:∃B,B=H++C++D:=⟨_,rfl⟩;have Wd:acr (B=bF x.index 2++r1):=by
  show B=_;rw[hB,dN,dM,cB,dI,BI,B_,hH];unfold Cb;simp only[List.append_assoc]
 rw[<-hB]at hr;have mo:=acp dN;have l8:=acp dM;have xR:=acp cB;have jl:=acp dI;have gL:=acp BI;have dV:=acp (fB hr);have aB:=acp hB;have nJ:=acp G;have p8:=acp hH;obtain⟨w1,Q⟩:∃w1,w1=w.alloc (.cells #[.int .i64 0,.int .u64 0,.int .i64 0,.int .i64 0,.slice none 0 0,.slice none 0 0] 150):=⟨_,rfl⟩;have bT:Below w.heap.size w w1:=by rw[Q];exact wall w _
 have oP:w1.heap.size=w.heap.size+1:=by rw[Q];simp
 have aJ:w1.heap[w.heap.size]? =some (.cells Yu 150 (0,0)):=by rw[Q];exact(MapKept.heap_alloc w _).1
 have HN:=acp (yI w1 w1 acu (some ⟨b0,o0,none⟩) 1024 c B (by omega) (hr.below bT acs));have jy:=acp bT;have pU:=acp aJ;have nC:=acp Q;clear hx G hr dN dM cB dI BI B_ hB hH bT aJ Q;go_enter Tryz.func85,Tryz.ntmps85;go_wp2_with fail;rw[<-nC.o];refine HN.o.mono ?_;rintro e w2 ⟨xr,rfl,ZO,bf,aD⟩;have SX:=acp (jC bf x.index Wd.o g1.1 (by omega));have oO:xr<w2.heap.size:=bf.at_.lt;clear HN bf aD;go_wp2_with fail;refine SX.o.mono ?_;rintro e w3 ⟨rfl,JE,iE⟩;have xI:=acp (tN JE x.first mo.o g2.1 (by omega));have oC:=iE.size;clear SX JE iE;go_wp2_with fail;refine xI.o.mono ?_;rintro e w4 ⟨rfl,Dm,ko⟩;have Gx:=acp (jC Dm x.count l8.o g3.1 (by omega));have o7:=ko.size;clear xI Dm ko;go_wp2_with fail;refine Gx.o.mono ?_;rintro e w5 ⟨rfl,Vz,jo⟩;have Ns:=acp (jC Vz x.bytes xR.o g4.1 (by omega));have pE:=jo.size;clear Gx Vz jo;go_wp2_with fail;refine Ns.o.mono ?_;rintro e w6 ⟨rfl,kN,jL⟩;have Vu:acr (Dy 155 #[ptr xr,.int .i64 32] w6 (wo w1 w6 xr x.prev r5)):=wu kN 32 jl.o d9.symm (by omega);have pF:=jL.size;clear Ns kN jL;go_wp2_with fail;refine Vu.o.mono ?_;rintro e w7 ⟨a7,c7,rfl,Lr,rT,Q0,fT⟩;rw[d9]at rT Lr⊢;have iD:acr (Dy 155 #[ptr xr,.int .i64 32] w7 (wo w1 w7 xr x.root r6)):=wu Q0 32 gL.o ak.symm (by omega);have uW:=acp rT;have qA:=fT.size;clear Vu Q0 fT rT;go_wp2_with fail;refine iD.o.mono ?_;rintro e O ⟨R,c8,rfl,mQ,qQ,fK,Ny⟩;rw[ak]at qQ mQ⊢;have vV:=Ny.size;have jw:=fK.below;obtain⟨y,AL⟩:∃y,y=O.alloc (.cells (CZ x a7 c7 R c8) 150):=⟨_,rfl⟩;have dG:Below O.heap.size O y:=by rw[AL];exact wall O _
 have Bw:y.heap[O.heap.size]? =some (.cells (CZ x a7 c7 R c8) 150 (0,0)):=by rw[AL];exact(MapKept.heap_alloc O _).1
 have XC:O.heap.size<y.heap.size:=by rw[AL];simp
 have P:acr (Below w.heap.size w y):=(jy.o.trans (jw.mono jy.o.size)).trans (dG.mono (by omega));have gy:acr (ah (λ b=>w.heap.size<b/\b<y.heap.size) y a7 32 (x.prev.map bv)):=(((uW.o.kept Ny.size λ b z V=>Ny.block b V λ(e:b=xr)=>by omega)).below dG (by omega)).mono λ b z=>⟨by omega,by omega⟩;have aF:acr (ah (λ b=>w.heap.size<b/\b<y.heap.size) y R 32 (x.root.map bv)):=(qQ.below dG acs).mono λ b z=>⟨by omega,by omega⟩;have Rx:acr (y.heap[w.heap.size]? =some (.cells Yu 150 (0,0))):=((dG.block _ (by omega)).trans (jw.block _ (by omega))).trans pU.o;have CP:=acp Bw;have O9:=acp AL;clear iD qQ fK Ny jw dG Bw uW pU;unfold CZ at AL;go_wp2_with fail;rw[<-AL];clear AL;have ni:¬c=78:=by omega
 have qb:78<=c:=by omega
 have oW:82<=c:=by omega
 have nR:(78:Int)<=(c:Int):=by omega
 have o9:(82:Int)<=(c:Int):=by omega
 have zF:acr (∀u,Below y.heap.size y u->Dy 90 #[.slice (some ⟨b0,o0,none⟩) 78 c] u λ e u'=>e= .returned (.int .u32 cr)/\u=u'):=acp λ u z=>by
  have I:=(dV.o.below (P.o.trans (z.mono P.o.size)) acs).take 78;rw[show min 1024 78=78 from rfl,<-aaJ,aB.o,List.append_assoc,abr X]at I;rw[iT.o];exact xK _ 78 c H u I (by omega)
 have ZY:acr (∀u,Below y.heap.size y u->ah (λ b=>b<w.heap.size) u (some ⟨b0,o0+78,none⟩) 4 (C.map bv)):=acp λ u z=>by
  have I:=((dV.o.below (P.o.trans (z.mono P.o.size)) acs).drop 78).take 4;rw[show min (1024-78) 4=4 from rfl,<-aaU,<-aaJ,aB.o,List.append_assoc,abe X,abr hC]at I;exact I
 refine su ((λ w'=>Below y.heap.size y w')) ?_ λ m=> ?_
 ·exact acu.drew
 refine aM 0 m ?_;refine aM 1 m ?_;refine aM 4 m ?_;refine aM 5 m ?_;refine lJ 2 λ K E=> ?_;go_simp;refine(zF.o _ m).mono ?_;rintro e _ ⟨rfl,rfl⟩;go_wp2_with fail;refine kV E (m) λ m=> ?_;clear E K;refine lJ 3 λ K E=> ?_;go_simp;refine(Mt cr JW.1 _).mono ?_;rintro e wA ⟨aA,nA,cA,rfl,oU,Yd,Dv⟩;have Rv:=acp Yd;have sU:=acp (m.trans (Dv.mono m.size));clear Yd Dv;go_wp2_with fail;refine kV E (sU.o) λ m=> ?_;clear E K;by_cases W:C=bF cr 4
 ·refine lJ 6 λ K E=> ?_;go_simp;refine(qB _ _ _ _ _ _ (bF cr 4) _ Rv.o (by rw[<-W];exact ZY.o _ m)).mono ?_;rintro e _ ⟨rfl,rfl⟩;go_wp2_with fail;refine kV E (m) λ m=> ?_;clear E K;refine aM 7 m ?_;refine rH ?_;obtain⟨U,Y,jv⟩:=nJ.o W;obtain⟨N,hN⟩:∃N,N=l.length:=⟨_,rfl⟩;obtain⟨A,hA⟩:∃A,A=(iF l).length:=⟨_,rfl⟩;have aH:x.count=(N:Int):=by rw[U,hN]
  have aN:x.bytes=(A:Int):=by rw[U,hA]
  have Z:x.root=uz l:=by rw[U]
  have p9:A<=942:=by rw[hA,pW];exact Y.room
  have o8:0<N:=by
   rcases aaI N with h0|h0
   ·exact absurd (aac (by omega)) Y.more
   ·exact h0
  have nS:N<=100:=by rw[hN];exact Y.few
  obtain⟨M,hM⟩:∃M,M=82+A:=⟨_,rfl⟩;have Z7:=acp U;have h_:=acp Y;have J:=acp hN;have pK:=acp hA;have dn:=acp Z;have F:acr (∀u,Below y.heap.size y u->_):=acp λ u (z:Below y.heap.size y u)=>Fx ((z.block O.heap.size (by omega)).trans CP.o);have bq:acr (∀u,Below y.heap.size y u->ah (λ b=>b<w.heap.size) u (some ⟨b0,o0+82,none⟩) (M-82) ((iF l).map bv)):=acp λ u z=>by
   have I:=((dV.o.below (P.o.trans (z.mono P.o.size)) acs).drop 82).take (M-82);rw[show min (1024-82) (M-82)=M-82 by omega,<-aaU,<-aaJ,aB.o,abe (by rw[List.length_append,X,hC]),jv,abr (by omega)]at I;exact I
  have HZ:acr (∀u,Below y.heap.size y u->ah (λ b=>b<w.heap.size) u (some ⟨b0,o0+M,none⟩) (1024-M) ((List.replicate (1024-M) (0:UInt8)).map bv)):=acp λ u z=>by
   have I:=((dV.o.below (P.o.trans (z.mono P.o.size)) acs).drop M);have h8:B.drop M=List.replicate (1024-M) 0:=by
    rw[hM,aB.o,<-aaV,abe (by rw[List.length_append,X,hC]),jv,abe hA.symm];congr 1;omega
   rw[<-aaU,h8]at I;exact I
  have d1:(x.count==0)=false:=by rw[aH];simp;omega
  have d2:decide (942<x.bytes)=false:=aad (by omega);have e1:IntKind.i64.wrap (82+x.bytes)=(M:Int):=by rw[aN,aaf _ (by omega)];omega
  have k1:(82:Int)<=(M:Int):=by omega
  have k2:(M:Int)<=(c:Int):=by omega
  have k3:M<=c:=by omega
  have k4:¬c=82:=by omega
  have k5:(M:Int)<=1024:=by omega
  have k6:M<=1024:=by omega
  have k7:82<=M:=by omega
  have HM:=acp hM;clear U Y hN hA aH aN Z ni hM;obtain⟨q0,q1,q2,q3,q4,q5⟩:=F.o _ sU.o;go_wp2_with fail;clear q0 q1 q2 q3 q4 q5;have nG:∀w':World,Below y.heap.size y w'->w'.cell? ⟨O.heap.size,0,none⟩=some (.int .i64 x.index):=λ w' z=>(F.o w' z).1;have l9:∀w':World,Below y.heap.size y w'->w'.cell? ⟨O.heap.size,1,none⟩=some (.int .u64 x.first):=λ w' z=>(F.o w' z).2.1;have nE:∀w':World,Below y.heap.size y w'->w'.cell? ⟨O.heap.size,2,none⟩=some (.int .i64 x.count):=λ w' z=>(F.o w' z).2.2.1;have mU:∀w':World,Below y.heap.size y w'->w'.cell? ⟨O.heap.size,3,none⟩=some (.int .i64 x.bytes):=λ w' z=>(F.o w' z).2.2.2.1;have l7:∀w':World,Below y.heap.size y w'->w'.cell? ⟨O.heap.size,4,none⟩=some (.slice a7 32 c7):=λ w' z=>(F.o w' z).2.2.2.2.1;have JD:∀w':World,Below y.heap.size y w'->w'.cell? ⟨O.heap.size,5,none⟩=some (.slice R 32 c8):=λ w' z=>(F.o w' z).2.2.2.2.2;have aL:acr (∀u,Below y.heap.size y u->Dy 156 #[.slice (some ⟨b0,o0+82,none⟩) (M-82) (c-82),.agg #[.int .i64 x.index,.int .u64 x.first,.int .i64 x.count,.int .i64 x.bytes,.slice a7 32 c7,.slice R 32 c8]] u λ e u'=>∃v,e= .returned (.tuple #[v,.bool true])/\iq u.heap.size u' v l/\Below u.heap.size u u'):=acp λ u z=>ME x.first l h_.o.recs h_.o.GU h_.o.first x ⟨by rw[Z7.o],rfl⟩ a7 R c7 c8 _ (M-82) (c-82) u (bq.o u z) (by omega) (by omega) (by have:=J.o;omega);refine su ((λ w'=>Below y.heap.size y w')) ?_ λ m=> ?_
  ·exact sU.o.drew
  refine aM 0 m ?_;refine aM 1 m ?_;refine aM 2 m ?_;refine aM 3 m ?_;refine aM 4 m ?_;refine aM 5 m ?_;refine lJ 6 λ K E=> ?_;go_simp;refine(aL.o _ m).mono ?_;rintro e wC ⟨v,rfl,jG,iO⟩;have l5:=acp jG;have LG:=acp (m.trans (iO.mono m.size));clear jG iO;go_wp2_with fail;refine kV E (LG.o) λ m=> ?_;clear E K;refine aM 7 m ?_;refine aM 8 m ?_;refine aM 9 m ?_;refine aM 10 m ?_;refine aM 11 m ?_;refine rH ?_;clear m aL nG l9 nE mU l7 JD;obtain⟨za,iM⟩:∃za,(if c=M then some (⟨b0,o0,none⟩:Addr)else some ⟨b0,o0+M,none⟩)=za:=⟨_,rfl⟩;have lX:acr (ah (λ b=>b<w.heap.size) wC za (1024-M) ((List.replicate (1024-M) (0:UInt8)).map bv)):=by
   show ah _ _ _ _ _;rw[<-iM];by_cases I:c=M
   ·rw[if_pos I,show 1024-M=0 by omega];exact ah.zero _ _ _ rfl rfl
   ·rw[if_neg I];exact HZ.o _ LG.o
  obtain⟨q0,q1,q2,q3,q4,q5⟩:=F.o _ LG.o;go_wp2_with fail;refine(Ca za (1024-M) (c-M) wC lX.o (by omega) (by omega)).mono ?_;rintro e wD ⟨rfl,bn⟩;have xU:=acp (LG.o.trans (bn.mono LG.o.size));have bD:=acp (l5.o.below bn);have lC:=sU.o.size;clear bn iM q0 q1 q2 q3 q4 q5;go_wp2_with fail;obtain⟨av,cv,rfl,mY,nP⟩:=bD.o.form;rw[<-J.o]at mY⊢;have gM:acr (qC (λ _=>True) wD av N l):=acp (by
   have I:=bD.o.rows (by rw[<-J.o];omega);rw[<-J.o]at I;obtain⟨ig,h1,h2⟩:=I.at_;exact⟨ig,h1.mono λ _ _=>trivial,h2.imp λ _ _ _ hr=>hr.mono λ _ _=>trivial⟩)
  have l6:acr (∀u,Below wD.heap.size wD u->Dy 148 #[.slice av N cv] u (LvRet u (l.map vG))):=acp λ u z=>Fu l h_.o.recs av N cv u (gM.o.below z) (by omega);have JD:∀w':World,Below wD.heap.size wD w'->w'.cell? ⟨O.heap.size,5,none⟩=some (.slice R 32 c8):=λ w' z=>(F.o w' (xU.o.trans (z.mono xU.o.size))).2.2.2.2.2;refine su ((λ w'=>Below wD.heap.size wD w')) ?_ λ m=> ?_
  ·exact acu.drew
  refine aM 0 m ?_;refine aM 3 m ?_;refine aM 4 m ?_;refine lJ 1 λ K E=> ?_;go_simp;refine(l6.o _ m).mono ?_;rintro e wE ⟨a2,n2,c2,L,rfl,iN,jc,kg,GV,aD⟩;have Dh:=acp kg;have Vw:=acp GV;have Iz:=acp (m.trans (aD.mono m.size));obtain rfl:n2=N:=by rw[jc,List.length_map];exact J.o.symm
  clear kg GV aD jc;go_wp2_with fail;refine kV E (Iz.o) λ m=> ?_;clear E K;refine lJ 2 λ K E=> ?_;go_simp;refine(Ap (n2+1) L n2 a2 c2 wE Dh.o (by omega) iN (by omega)).mono ?_;rintro e wF ⟨a6,n6,c6,rfl,oF,B_,lI⟩;have er:oI (n2+1) (ji L)=x.root:=by rw[Vw.o,dn.o,J.o];rfl
  rw[er]at B_;obtain rfl:n6=32:=by have:=B_.length;rw[List.length_map,ak]at this;exact this.symm
  have yL:=acp B_;have yu:=acp (m.trans (lI.mono m.size));clear B_ lI er;go_wp2_with fail;refine kV E (yu.o) λ m=> ?_;clear E K;refine lJ 5 λ K E=> ?_;go_simp;refine(qB _ _ _ _ _ _ x.root _ yL.o (aF.o.below (xU.o.trans (m.mono xU.o.size)) acs)).mono ?_;rintro e _ ⟨rfl,rfl⟩;go_wp2_with fail;refine kV E (m) λ m=> ?_;clear E K;refine aM 6 m ?_;refine rH ?_;clear m JD;have ND:=acp (xU.o.trans (yu.o.mono xU.o.size));obtain⟨q0,q1,q2,q3,q4,q5⟩:=F.o _ ND.o;have bS:=acp ((ND.o.block _ (by omega)).trans Rx.o);have qL:acr (CZ x a7 c7 R c8= #[.int .i64 x.index,.int .u64 x.first,.int .i64 x.count,.int .i64 x.bytes,.slice a7 32 c7,.slice R 32 c8]):=acp rfl;go_wp2_with (refine aj (by rfl) 150 _ _ (by rfl) w.heap.size (CZ x a7 c7 R c8) (by rfl) (by rfl) _ bS.o JX rfl (by simp[CZ,Value.oneCell']) ?_;intro wG zG;have mR:=acp zG;clear zG);refine Yv rfl rfl rfl rfl rfl mR.o.1 rfl ?_;have hk:=mR.o.2.1;have hz:=hk.size;have oD:=xU.o.size;have om:=yu.o.size;have jm:∀{a:Mx} {n:Nat} {vs:List Value},ah (λ b=>w.heap.size<b/\b<y.heap.size) y a n vs->ah (λ b=>w.heap.size<=b/\b<wG.heap.size) wG a n vs:=λ hr=>((hr.below ND.o acs).kept hk.size λ b z V=>hk.block b V (by omega)).mono λ b z=>⟨by omega,by omega⟩;refine .inr ⟨W,a7,c7,R,c8,_,rfl,?_,?_,Lr.1,?_,mR.o.below (P.o.trans (ND.o.mono P.o.size)) acs⟩
  ·exact jm gy.o
  ·exact jm aF.o
  ·show iq w.heap.size wG (.slice av n2 cv) l;rw[J.o];refine((bD.o.below yu.o).keep hk.size λ b z V=>hk.block b V ?_).mono ?_
   ·have h8:y.heap.size<=b:=Nat.le_trans lC z;omega
   ·have h8:y.heap.size<=wA.heap.size:=lC;show w.heap.size<=wA.heap.size;omega
 ·have mq:bF cr 4≠C:=λ e=>absurd e.symm W;refine lJ 6 λ K E=> ?_;go_simp;refine(IU _ _ _ _ _ _ (bF cr 4) C mq _ Rv.o (ZY.o _ m)).mono ?_;rintro e _ ⟨rfl,rfl⟩;go_wp2_with fail;refine kV E (m) λ m=> ?_;clear E K;refine aM 7 m ?_;refine rH ?_;have dK:=acp ((sU.o.block _ (by omega)).trans Rx.o);go_wp2_with (refine aj (by rfl) 150 _ _ (by rfl) w.heap.size Yu (by rfl) (by rfl) _ dK.o JX rfl (by simp[Yu,Value.oneCell']) ?_;intro wB lN;have kW:=acp lN;clear lN);refine Yv rfl rfl rfl rfl rfl kW.o.1 rfl ?_;exact .inl ⟨W,rfl,kW.o.below (P.o.trans (sU.o.mono P.o.size)) acs⟩
