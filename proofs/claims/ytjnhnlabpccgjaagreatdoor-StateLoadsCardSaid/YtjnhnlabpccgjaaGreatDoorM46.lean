/- package -/
import Derived.Test.YtjnhnlabpccgjaaGreatDoorM18
import Derived.Test.YtjnhnlabpccgjaaGreatDoorM45
import Derived.Test.YtjnhnlabpccgjaaGreatDoorM42
import Derived.Test.YtjnhnlabpccgjaaGreatDoorM20
import Derived.Test.YtjnhnlabpccgjaaGreatDoorM04
import Derived.Deep.CutBlock
import Derived.Deep.DeepCutAuto
set_option maxRecDepth 100000
set_option maxHeartbeats 64000000
set_option linter.all false
namespace Go.Proofs.YtjnhnlabpccgjaaGreatDoor
open Go.ChangeShapes Go.WideShapes Go.ChangeAt Go.RowKit
def jc(now:Int)(T:aA)(S:lN):List UInt8:=eB now 8++eB (dw (aV T)).length 8++dw (aV T)++bX S
section
variable{W w:World}{o:Mark}{i j p:Nat}
theorem Wu{t s:Nat}{v:Nat→Value}{now:Int}{T:aA}{S:lN}(h1:w.heap[p]? =some (.cells (EK t s now v) 57 (0,0)))(h2:jS KW o i w s S)(h3:gZ o j w t T)(hM:Marks W o w)(hT:KW T)(hv:SvW S)(M9:0≤now∧now≤1099511627776)
  (hln:(dw (aV T)).length+(bX S).length≤85000000):Calls Tryz.prog 19 #[ptr p] w (z_ w (jc now T S)):=by
 have hlow:=(iL.1 h1).1;have HC:=acr (rM h3 hM hT.1);have HM:=acr hM;have OG:=acr h2;have HV:=acr hv;have jO:=acr (kw_ok _ hT.aV);have Mh:acs (∀k,((S.l.take k).flatMap iJ).length≤85000000):=fun k=>by
  have e1:S.l.flatMap iJ=(S.l.take k).flatMap iJ++(S.l.drop k).flatMap iJ:=by rw[←aaG,aaR]
  have h9:(S.l.flatMap iJ).length≤(bX S).length:=by unfold bX;rw[List.length_append];omega
  rw[e1,List.length_append]at h9;omega
 have HH:acs (∀w',Below w.heap.size w w'→w'.cell? ⟨p,0,none⟩=some (ptr t)∧w'.cell? ⟨p,1,none⟩=some (ptr s)∧w'.cell? ⟨p,2,none⟩=some (.int .u64 now)):=fun w' hb=>by
  obtain⟨z0,z1,z2,-⟩:=lq ((hb.block p hlow).trans h1);exact⟨z0,z1,z2⟩
 obtain⟨c0,c1,c2⟩:=HH.o w acv;clear hM hT hv h1 h2 h3;go_enter Tryz.func19,Tryz.ntmps19;go_wp2_with fail;refine HC.o.mono ?_;rintro e w1 ⟨q,rfl,hT,hb1⟩;have HT:=acr hT;have HB1:=acr hb1;clear hT hb1 HC;go_wp2_with fail;refine(yX HT.o jO.o.1 jO.o.2).mono ?_;rintro e w2 ⟨ba,bn,bc,rfl,hbc,hbr,hb2⟩;obtain⟨C,hC⟩:∃C,C=dw (aV T):=⟨_,rfl⟩;rw[←hC]at hbr hln;have HCE:=acr hC;have hbl:bn=C.length:=by have:=hbr.length;simpa using this.symm
 subst hbl;have E9:=acr hbr;have hb12:=HB1.o.trans (hb2.mono HB1.o.size);have HB2:=acr hb12;obtain⟨d0,d1,d2⟩:=HH.o w2 hb12;clear hbr hb2 hb12 hC c0 c1 c2;go_wp2_with fail;refine(nU _).mono ?_;rintro e w3 ⟨rfl,hW3,hb3⟩;have HW3:=acr hW3;have HB3:=acr hb3;have hb13:=HB2.o.trans (hb3.mono HB2.o.size);obtain⟨e0,e1,e2⟩:=HH.o w3 hb13;clear hW3 hb3 hb13 d0 d1 d2;go_wp2_with fail;refine(rW HW3.o now M9.1 (by omega) (by simp)).mono ?_;intro e w4 J7;obtain⟨rfl,x4,Xz,hb4⟩:=xw.more HW3.o HB3.o J7;have Qb:=acr Xz;have eT:=acr hb4;have Wv:=HB2.o.trans (hb4.mono HB2.o.size);obtain⟨f0,f1,f2⟩:=HH.o w4 Wv;have hcv:=CF (C.length:Int) (by omega) (by omega);clear J7 Xz hb4 Wv e0 e1 e2 HW3;go_wp2_with fail;refine(rW Qb.o (C.length:Int) (by omega) (by omega) (by simp[bB])).mono ?_;intro e w5 SK;obtain⟨rfl,x5,hW5,hb5⟩:=xw.more Qb.o eT.o SK;have WL:=acr hW5;have iB:=acr hb5;have Sq:=HB2.o.trans (hb5.mono HB2.o.size);obtain⟨g0,g1,g2⟩:=HH.o w5 Sq;have hbr5:=E9.o.kept hb5.size (fun b hb _=>hb5.block b hb.2);clear SK hW5 hb5 Sq f0 f1 f2 Qb hcv;go_wp2_with fail;refine(Cm WL.o ba C.length bc C hbr5 (by simp[bB]) (by omega)).mono ?_;intro e w6 Le;obtain⟨rfl,x6,hW6,hb6⟩:=xw.more WL.o iB.o Le;have Xm:=acr hW6;have sV:=acr hb6;have Ce:=HB2.o.trans (hb6.mono HB2.o.size);obtain⟨k0,k1,k2⟩:=HH.o w6 Ce;have HSN6:=acr (OG.o.grow HM.o Ce);have TW:=acr (HM.o.grow Ce);clear Le hW6 hb6 Ce g0 g1 g2 WL hbr5;go_wp2_with fail;refine(YS (K:=KW) kw_ok HSN6.o TW.o HV.o Mh.o).mono ?_;rintro e w7 ⟨sa,sc,rfl,hown,yw⟩;have Cw:=acr (ah.mR hown).2;have SC:=acr (Xm.o.below yw);have Cn:=acr (sV.o.trans (yw.mono sV.o.size));clear hown yw Xm;go_wp2_with fail;refine(Cm SC.o sa (bX S).length sc (bX S) Cw.o (by simp[bB];omega) (by omega)).mono ?_;intro e w8 ht8;obtain⟨rfl,x8,hW8,wE⟩:=xw.more SC.o Cn.o ht8;have HW8:=acr hW8;have uR:=acr wE;clear ht8 hW8 wE SC;go_wp2_with fail;refine(Dj HW8.o (by simp[bB];omega)).mono ?_;rintro e w9 ⟨ra,rn,rc,rfl,hrc,hrr,eH⟩;have HRR:=acr hrr;have Dk:=acr eH;clear hrr eH;go_wp2_with fail;go_ret;have hs2:=HB2.o.size;have BL:=uR.o.size;refine⟨ra,rn,rc,rfl,hrc,?_,(HB2.o.trans (uR.o.mono hs2)).trans (Dk.o.mono (by omega))⟩;have e:[]++eB now 8++eB (C.length:Int) 8++C++bX S=jc now T S:=by
  unfold jc;rw[←HCE.o];simp
 have h9:=HRR.o;rw[e]at h9;exact h9.mono fun b hb=>⟨by omega,hb.2⟩
end
theorem NT{S S':Nat→Prop}(a a':Option Addr)(n n' c c':Nat)(bs:List UInt8)(w:World)(h:ah S w a n (bs.map bv))(h':ah S' w a' n' (bs.map bv)):
  Calls Tryz.prog 60 #[.slice a n c,.slice a' n' c'] w fun e w'=>e= .returned (.bool true)∧w=w':=by
 have hc1:=mM (c:=c) h;have hc2:=mM (c:=c') h';clear h h';go_enter Tryz.func60,Tryz.ntmps60;go_wp2_with fail;go_ret;exact⟨rfl,rfl⟩
structure IE(o:Mark)(j:Nat)(w:World)(x:Nat)(s:Rd):Prop where
 at_:∃D,bO D w x s∧o x=j∧∀b,D b→o b=0
theorem IE.step{o o':Mark}{I:Nat→Prop}{j:Nat}{w w':World}{x:Nat}{s:Rd}(h:IE o j w x s)(hi:¬I 0)(hij:¬I j)(hs:Step o I w o' w'):IE o' j w' x s:=by
 obtain⟨D,h1,h2,h3⟩:=h.at_;exact⟨D,h1.kept hs.keep.size (hs.block h1.lt (by rw[h2];exact hij)) (fun b hb hbw=>hs.block hbw (by rw[h3 b hb];exact hi)),(hs.old x h1.lt).trans h2,fun b hb=>(hs.old b (h1.low b hb)).trans (h3 b hb)⟩
theorem IE.grow{W:World}{o:Mark}{j:Nat}{w w':World}{x:Nat}{s:Rd}(h:IE o j w x s)(hM:Marks W o w)(hb:Below w.heap.size w w'):IE o j w' x s:=
 h.step (I:=fun _=>False) (fun e=>e) (fun e=>e) (Step.grow hM hb)
theorem CK{W w w':World}{o:Mark}{j x:Nat}(hM:Marks W o w)(hx:o x=j)(hK:Keeps (fun b=>b=x) w w'):Step o (fun k=>k=j) w o w':=
 ⟨fun _ _=>rfl,fun b hb hn=>by have:=(hM.new b hn).2;omega,hK.mono fun z _ (hz:z=x)=>by rw[hz];exact hx⟩
section
variable{W w:World}{o:Mark}{i j s p x:Nat}{S:lN}{T:aA}{sr:Rd}
theorem zM(h:IE o j w x sr)(hM:Marks W o w){n:Int}{s':Rd}(he:bq sr 8=(n,s')):Calls Tryz.prog 55 #[ptr x] w fun e w'=>e= .returned (.int .u64 n)∧IE o j w' x s'∧Step o (fun k=>k=j) w o w':=by
 obtain⟨D,h1,h2,h3⟩:=h.at_;refine(Pq h1).mono ?_;rintro e w' ⟨he',hR,hK⟩;rw[he]at he' hR;exact⟨he',⟨D,hR,h2,h3⟩,CK hM h2 hK⟩
theorem Zg(h:IE o j w x sr)(hM:Marks W o w){n:Int}{s':Rd}(he:bq sr 1=(n,s')):Calls Tryz.prog 134 #[ptr x] w fun e w'=>e= .returned (.int .i64 n)∧IE o j w' x s'∧Step o (fun k=>k=j) w o w':=by
 obtain⟨D,h1,h2,h3⟩:=h.at_;refine(IB h1).mono ?_;rintro e w' ⟨he',hR,hK⟩;rw[he]at he' hR;exact⟨he',⟨D,hR,h2,h3⟩,CK hM h2 hK⟩
def RoRow(o:Mark)(j:Nat)(w:World)(x:Nat)(bs:List UInt8)(s':Rd)(e:Ending)(w':World):Prop:=
 ∃a c,e= .returned (.slice a bs.length c)∧ny bs.length c∧ah (fun b=>o b=0∧b<w'.heap.size) w' a bs.length (bs.map bv)∧IE o j w' x s'∧Step o (fun k=>k=j) w o w'
theorem K3(h:IE o j w x sr)(hM:Marks W o w){bs:List UInt8}{s':Rd}(he:aL sr=(bs,s')):Calls Tryz.prog 133 #[ptr x] w (RoRow o j w x bs s'):=by
 obtain⟨D,h1,h2,h3⟩:=h.at_;refine(zL h1).mono ?_;rintro e w' ⟨a,c,he',hc,hr,hR,hK⟩;rw[he]at he' hc hr hR;exact⟨a,c,he',hc,hr.mono fun b hb=>⟨Decidable.byContradiction fun h9=>by have:=(hM.new b h9).2;omega,hb.2⟩,⟨D,hR,h2,h3⟩,CK hM h2 hK⟩
theorem NU(h:IE o j w x sr)(hM:Marks W o w)(n:Int)(hn0:0≤n)(hn1:n≤9223372036854775807){bs:List UInt8}{s':Rd}(he:gH sr n=(bs,s')):Calls Tryz.prog 58 #[ptr x,.int .i64 n] w (RoRow o j w x bs s'):=by
 obtain⟨D,h1,h2,h3⟩:=h.at_;refine(ND h1 n hn0 hn1).mono ?_;rintro e w' ⟨a,c,he',hc,hr,hR,hK⟩;rw[he]at he' hc hr hR;exact⟨a,c,he',hc,hr.mono fun b hb=>⟨Decidable.byContradiction fun h9=>by have:=(hM.new b h9).2;omega,hb.2⟩,⟨D,hR,h2,h3⟩,CK hM h2 hK⟩
theorem IG(h:IE o j w x sr):Calls Tryz.prog 57 #[ptr x] w fun e w'=>e= .returned (.int .i64 (fq sr:Int))∧w=w':=by
 obtain⟨D,h1,h2,h3⟩:=h.at_;exact Pt h1
theorem ro_end(h:IE o j w x sr):Calls Tryz.prog 130 #[ptr x] w fun e w'=>e= .returned (.int .i64 (pG sr))∧w=w':=by
 obtain⟨D,h1,h2,h3⟩:=h.at_;exact IC h1
theorem Ww{Q:Nat→Prop}(hM:Marks W o w)(j:Nat)(a:Option Addr)(n c:Nat)(bs:List UInt8)(hm:n≤100000000)(hr:ah Q w a n (bs.map bv)):Calls Tryz.prog 54 #[.slice a n c] w fun e w'=>∃x o',e= .returned (ptr x)∧IE o' j w' x (bs,0)∧Step o (fun k=>k=j) w o' w':=by
 refine(rQ a n c bs w hm hr).mono ?_;rintro e w' ⟨x,rfl,hx,hR,hb⟩;obtain⟨o',hs,h1,h2⟩:=iQ hM j (fun b=>b=x) (w':=w') (fun b hb'=>by subst hb';exact⟨hx,hR.lt⟩) hb;refine⟨x,o',rfl,⟨_,hR,h1 x rfl,fun b hb'=> ?_⟩,hs⟩;rw[h2 b (fun e=>by subst e;omega)];exact Decidable.byContradiction fun h9=>by have:=(hM.new b h9).2;omega
end
section
variable{W w:World}{o:Mark}{i j s p:Nat}{S:lN}{T:aA}
open Classical in
theorem Wx{K:aA→Prop}{w9:World}{v v8:Value}{vals vsx:List Value}{x:iw}{la:Option Addr}{lc:Nat}(hM:Marks W o w)(hi:i≠0)(hos:o s=i)(hsw:s<w.heap.size)(hvo:∀b,v.ownBlock=some b→o b=i∧b≠s∧b<w.heap.size)
  (hO:jE K o w vals S.l)(hx:Af K o w vsx x)(hlc:S.last.length≤lc)(hla:ah (fun b=>o b=0∧b<w.heap.size) w la S.last.length (S.last.map bv))(hh:w9.heap[s]? =some (.cells #[v8,.int .i64 S.next,.slice la S.last.length lc] 109 (0,0)))(hown:w9.ownsRow 0 148 3 v8 (S.l.length+1) (vals++vsx))
  (hat:v8.ownBlock=v.ownBlock∨∃b,v8.ownBlock=some b∧w.heap.size≤b)(hK:Keeps (fun b=>b=s∨v.ownBlock=some b) w w9):
  ∃o',Step o (fun k=>k=i) w o' w9∧jS K o' i w9 s ⟨S.l++[x],S.next,S.last⟩:=by
 obtain⟨o',ho⟩:∃o':Mark,∀b,o' b=if v8.ownBlock=some b∧w.heap.size≤b then i else o b:=⟨_,fun _=>rfl⟩;have hlt9:∀b,v8.ownBlock=some b→b<w9.heap.size:=lK hown;have hst:Step o (fun k=>k=i) w o' w9:=by
  refine⟨fun b hb=>by rw[ho,if_neg (fun h=>by omega)],fun b hb hn=> ?_,hK.mono fun b hb h=> ?_⟩
  ·by_cases h:v8.ownBlock=some b∧w.heap.size≤b
   ·rw[ho,if_pos h];exact⟨rfl,hlt9 b h.1⟩
   ·rw[ho,if_neg h]at hn;have:=(hM.new b hn).2;omega
  ·rcases h with h|h
   ·rw[h];exact hos
   ·exact(hvo b h).1
 have hi0:¬(fun k=>k=i) 0:=fun e=>hi e.symm;refine⟨o',hst,⟨v8,la,lc,vals++vsx,hh,(hst.old s hsw).trans hos,Nat.lt_of_lt_of_le hsw hK.size,?_,fun b hb=> ?_,?_,hlc,?_⟩⟩
 ·rw[List.length_append];exact hown
 ·rcases hat with h1|⟨b',h1,h2⟩
  ·rw[h1]at hb;obtain⟨k1,k2,k3⟩:=hvo b hb;exact⟨(hst.old b k3).trans k1,k2,Nat.lt_of_lt_of_le k3 hK.size⟩
  ·rw[h1]at hb;cases hb;exact⟨by rw[ho,if_pos ⟨h1,h2⟩],by omega,hlt9 _ h1⟩
 ·exact jE.append (hO.step hi0 hst) ⟨_,[],by simp,hx.step hi0 hst,rfl⟩
 ·exact hla.move hst.keep.size fun b hb hbw=>⟨⟨(hst.old b hb.2).trans hb.1,Nat.lt_of_lt_of_le hb.2 hst.keep.size⟩,hst.block hb.2 (by rw[hb.1];exact hi0)⟩
end
theorem EG{S S':Nat→Prop}(a a':Option Addr)(n n' c c':Nat)(bs bs':List UInt8)(w:World)(h:ah S w a n (bs.map bv))(h':ah S' w a' n' (bs'.map bv)):
  Calls Tryz.prog 60 #[.slice a n c,.slice a' n' c'] w fun e w'=>e= .returned (.bool (decide (bs=bs')))∧w=w':=by
 by_cases hb:bs=bs'
 ·subst hb;rw[decide_eq_true rfl];exact NT a a' n n' c c' bs w h h'
 ·rw[aay hb];have hc1:=mM (c:=c) h;have hc2:=mM (c:=c') h';obtain⟨k1,k2⟩:=IZ hb;clear h h' hb;go_enter Tryz.func60,Tryz.ntmps60;go_wp2_with fail;go_ret;exact⟨rfl,rfl⟩
section
variable{W w:World}{o:Mark}{i j s p:Nat}{S:lN}
def ReadW(o:Mark)(i j:Nat)(w:World)(s xr:Nat)(S:lN)(bh:Int)(sr:Rd)(e:Ending)(w':World):Prop:=
 (∃x rest o',e= .returned (.bool true)∧sr=(iJ x++rest,0)∧(bh<x.id∧x.id<S.next∧x.hash.length=32)∧KW x.t∧(∀y r,sr=(iJ y++r,0)→jU S.next bh y→y=x∧r=rest)∧Step o (fun k=>k=i∨k=j) w o' w'∧jS KW o' i w' s ⟨S.l++[x],S.next,S.last⟩∧IE o' j w' xr (rest,0))∨
 (e= .returned (.bool false)∧(∀y r,sr=(iJ y++r,0)→¬jU S.next bh y)∧∃o',Step o (fun k=>k=j) w o' w')
theorem K4(hS:jS KW o i w s S)(hM:Marks W o w)(hi:i≠0)(hj:j≠0)(hij:i≠j)(sr:Rd)(xr:Nat)(hR:IE o j w xr sr)(hnx:1≤S.next∧S.next≤1099511627776)(Km:S.l.length<8)(behind:Int)(hbh:0≤behind∧behind≤1099511627776)(hsz:sr.1.length≤100000000):
  Calls Tryz.prog 135 #[ptr s,ptr xr,.int .i64 behind] w (ReadW o i j w s xr S behind sr):=by
 obtain⟨⟨id,s1⟩,n1⟩:∃q,bq sr 8=q:=⟨_,rfl⟩;obtain⟨⟨hash,s2⟩,n2⟩:∃q,aL s1=q:=⟨_,rfl⟩;obtain⟨⟨n,s3⟩,n3⟩:∃q,bq s2 8=q:=⟨_,rfl⟩;have e8:(256:Int)^8=18446744073709551616:=rfl;have r1:=eD sr 8;have r3:=eD s2 8;rw[n1,e8]at r1;rw[n3,e8]at r3;dsimp only at r1 r3;have HG:acs (∀y r,sr=(iJ y++r,0)→jU S.next behind y→id=y.id∧hash=y.hash∧n=((dw y.t).length:Int)∧s3=(dw y.t++r,0)∧2≤(dw y.t).length∧fq s3=(dw y.t).length+r.length):=fun y r e hg=>by
  obtain⟨g1,g2,g3,g4,g5,g6⟩:=Sl n1 n2 n3 hnx.2 e hg;exact⟨g1,g2,g3,g4,g5,by rw[g4];unfold fq;rw[if_neg (by simp),List.length_append]⟩
 have HY:acs (∀b s4,fq s3≠0→n≤(fq s3:Int)→gH s3 n=(b,s4)→sr=(eB id 8++mG hash++eB (b.length:Int) 8++b++s4.1,0)∧s4=(s4.1,0)∧n=(b.length:Int)):=fun b s4 h0 h1 h2=>Wt n1 n2 n3 h0 r3.1 h1 h2;have hle:fq s3≤sr.1.length:=Sm n1 n2 n3;have HS:=acr hS;have HM:=acr hM;have Po:=acr (zM hR hM n1);have ES:=acr n2;have HN3:=acr n3;have hj0:¬(fun k=>k=j) 0:=fun e=>hj e.symm;have hji:¬(fun k=>k=j) i:=fun e=>hij e;have AU:=acr hj0;have HJI:=acr hji;have HL8:=acr Km;have HSZ:=acr hsz;obtain⟨nx,yj⟩:∃nx,nx=S.next:=⟨_,rfl⟩;rw[←yj]at hnx;have Sr:=acr yj;clear hS hM hR n1 n2 n3 hj0 hji yj e8 Km hsz;go_enter Tryz.func135,Tryz.ntmps135;go_wp2_with fail;refine Po.o.mono ?_;rintro e w1 ⟨rfl,nu,hs1⟩;have nM:=acr (HM.o.step AU.o hs1);have ko:=acr (HS.o.step AU.o HJI.o hs1);have uU:=acr hs1;have xL:=acr (K3 nu nM.o ES.o);clear nu hs1 Po HS;go_wp2_with fail;refine xL.o.mono ?_;rintro e w2 ⟨a2,c2,rfl,hc2,hr2,hR2,Zh⟩;have zO:=acr (nM.o.step AU.o Zh);have HS2:=acr (ko.o.step AU.o HJI.o Zh);have K5:=acr (uU.o.trans Zh);have Wy:acs (ah (Free o w2) w2 a2 hash.length (hash.map bv)):=hr2;have HCAP2:=acr hc2;have SS:=acr (zM hR2 zO.o HN3.o);obtain⟨H,hHe⟩:∃H,H=hash.length:=⟨_,rfl⟩;rw[←hHe]at Wy HCAP2⊢;have Kr:=acr hHe;clear hc2 hr2 hR2 Zh xL ko nM uU hHe;go_wp2_with fail;refine SS.o.mono ?_;rintro e w3 ⟨rfl,tV,hs3⟩;have Ca:=acr (zO.o.step AU.o hs3);have Bb:=acr (HS2.o.step AU.o HJI.o hs3);have yA:=acr (K5.o.trans hs3);have xB:=acr (Wy.o.free AU.o hs3);have wD:=acr (IG tV);have HR3:=acr tV;have hq1:w3.cell? ⟨s,1,none⟩=some (.int .i64 nx):=by
  obtain⟨v,la,lc,vals,h1,_⟩:=Bb.o.at_;rw[Sr.o];simp[World.cell?,h1]
 obtain⟨R,hRe⟩:∃R,R=fq s3:=⟨_,rfl⟩;rw[←hRe]at wD hle;have uG:=acr hRe;have hRb:(R:Int)≤100000000:=by have:=HSZ.o;omega
 have z1:(R:Int)≤9223372036854775807:=by omega
 have z2:IntKind.u64.wrap (R:Int)=(R:Int):=by simp[IntKind.wrap,IntKind.bits,IntKind.signed];omega
 have z5:IntKind.u64.wrap nx=nx:=by simp[IntKind.wrap,IntKind.bits,IntKind.signed];omega
 clear tV hs3 SS HS2 zO K5 Wy hRe;by_cases hz:R=0
 ·have z3:((R:Int)==0)=true:=by simpa using hz
  have qW:acs (∀y r,sr=(iJ y++r,0)→¬jU S.next behind y):=fun y r e hg=>by
   obtain⟨g1,g2,g3,g4,g5,g6⟩:=HG.o y r e hg;have:=uG.o;omega
  clear hz;go_wp2_with fail;refine wD.o.mono ?_;rintro e _ ⟨rfl,rfl⟩;go_wp2_with fail;go_ret;exact .inr ⟨rfl,qW.o,_,yA.o⟩
 have z3:((R:Int)==0)=false:=by simpa using hz
 by_cases hc:(R:Int)<n
 ·have z4:decide ((R:Int)<n)=true:=decide_eq_true hc;have qW:acs (∀y r,sr=(iJ y++r,0)→¬jU S.next behind y):=fun y r e hg=>by
   obtain⟨g1,g2,g3,g4,g5,g6⟩:=HG.o y r e hg;have k1:=uG.o;have k2:=Sr.o;have k3:=Kr.o;have k4:=hg.id;have k5:=hg.up;have k6:=hg.hash;omega
  clear hc;go_wp2_with fail;refine wD.o.mono ?_;rintro e _ ⟨rfl,rfl⟩;go_wp2_with fail;refine wD.o.mono ?_;rintro e _ ⟨rfl,rfl⟩;go_wp2_with fail;go_ret;exact .inr ⟨rfl,qW.o,_,yA.o⟩
 have z4:decide ((R:Int)<n)=false:=aay hc;by_cases hc2:nx≤id
 ·have hc:=hc2;have z6:decide (nx≤id)=true:=decide_eq_true hc;have qW:acs (∀y r,sr=(iJ y++r,0)→¬jU S.next behind y):=fun y r e hg=>by
   obtain⟨g1,g2,g3,g4,g5,g6⟩:=HG.o y r e hg;have k1:=uG.o;have k2:=Sr.o;have k3:=Kr.o;have k4:=hg.id;have k5:=hg.up;have k6:=hg.hash;omega
  clear hc hc2;go_wp2_with fail;refine wD.o.mono ?_;rintro e _ ⟨rfl,rfl⟩;go_wp2_with fail;refine wD.o.mono ?_;rintro e _ ⟨rfl,rfl⟩;go_wp2_with fail;go_ret;exact .inr ⟨rfl,qW.o,_,yA.o⟩
 have z6:decide (nx≤id)=false:=aay hc2;have z7:IntKind.i64.wrap id=id:=aag _ (by omega);by_cases hc3:id≤behind
 ·have hc:=hc3;have z8:decide (id≤behind)=true:=decide_eq_true hc;have qW:acs (∀y r,sr=(iJ y++r,0)→¬jU S.next behind y):=fun y r e hg=>by
   obtain⟨g1,g2,g3,g4,g5,g6⟩:=HG.o y r e hg;have k1:=uG.o;have k2:=Sr.o;have k3:=Kr.o;have k4:=hg.id;have k5:=hg.up;have k6:=hg.hash;omega
  clear hc hc3;go_wp2_with fail;refine wD.o.mono ?_;rintro e _ ⟨rfl,rfl⟩;go_wp2_with fail;refine wD.o.mono ?_;rintro e _ ⟨rfl,rfl⟩;go_wp2_with fail;go_ret;exact .inr ⟨rfl,qW.o,_,yA.o⟩
 have z8:decide (id≤behind)=false:=aay hc3;by_cases hc4:¬H=32
 ·have hc:=hc4;have zA:((H:Int) !=32)=true:=by simp;omega
  have zB:((H:Int)==32)=false:=by simp;omega
  have qW:acs (∀y r,sr=(iJ y++r,0)→¬jU S.next behind y):=fun y r e hg=>by
   obtain⟨g1,g2,g3,g4,g5,g6⟩:=HG.o y r e hg;have k1:=uG.o;have k2:=Sr.o;have k3:=Kr.o;have k4:=hg.id;have k5:=hg.up;have k6:=hg.hash;rw[g2]at k3;omega
  clear hc hc4;go_wp2_with fail;refine wD.o.mono ?_;rintro e _ ⟨rfl,rfl⟩;go_wp2_with fail;refine wD.o.mono ?_;rintro e _ ⟨rfl,rfl⟩;go_wp2_with fail;go_ret;exact .inr ⟨rfl,qW.o,_,yA.o⟩
 obtain rfl:H=32:=by omega
 obtain⟨⟨b,s4⟩,n4⟩:∃q,gH s3 n=q:=⟨_,rfl⟩;obtain⟨y1,y2,y3⟩:=HY.o b s4 (by rw[←uG.o];exact hz) (by rw[←uG.o];omega) n4;have Y4:=acr (NU HR3.o Ca.o n r3.1 (by omega) n4);have ZG:=acr n4;have Cw:=acr y1;have HS4E:=acr y2;obtain⟨L,VG⟩:∃L,L=b.length:=⟨_,rfl⟩;rw[←VG]at y3;have hLb:L≤100000000:=by omega
 have z9:IntKind.i64.wrap (L:Int)=(L:Int):=aag _ (by omega);have FN:=acr VG;have HNL:=acr y3;have z4':decide ((R:Int)<(L:Int))=false:=by rw[←y3];exact z4
 have zC:decide (R<L)=false:=by simpa using z4'
 have zB:L≤R:=by simpa using z4'
 have HGL:acs (∀y r,sr=(iJ y++r,0)→jU S.next behind y→id=y.id∧hash=y.hash∧b=dw y.t∧s4=(r,0)):=fun y r e hg=>by
  obtain⟨g1,g2,g3,g4,g5,g6⟩:=HG.o y r e hg;obtain⟨g7,g8⟩:=Zf n4 g3 g4;exact⟨g1,g2,g7,g8⟩
 have zA:((32:Int)==32)=true:=rfl;have hidn:behind<id∧id<nx:=by omega
 have HIDN:=acr hidn;subst y3;clear n4 y1 y2 VG hz hc hc2 hc3 hc4 HG HY z4 hidn;go_wp2_with fail;refine wD.o.mono ?_;rintro e _ ⟨rfl,rfl⟩;go_wp2_with fail;refine wD.o.mono ?_;rintro e _ ⟨rfl,rfl⟩;go_wp2_with fail;refine Y4.o.mono ?_;rintro e w4 ⟨a4,c4,rfl,hc4,hr4,Cq,hs4⟩;rw[←FN.o]at hr4⊢;have nI:=acr (Ca.o.step AU.o hs4);have qM:=acr (Bb.o.step AU.o HJI.o hs4);have vF:=acr (yA.o.trans hs4);have K6:=acr (xB.o.free AU.o hs4);have eT:acs (ah (Free o w4) w4 a4 L (b.map bv)):=hr4;have HR4:=acr Cq;have QU:=acr (GV a4 L c4 b w4 (by omega) hr4);clear hc4 hr4 Cq hs4 Y4 wD Bb Ca yA xB hq1 HR3;go_wp2_with fail;refine QU.o.mono ?_;intro e w5 hld;rcases hld with⟨T,p,hpar,hright,rfl,hnt⟩|⟨hno,rfl,hb5⟩
 ·have hkw:=Pz (wN hpar).2 hright;have hsv:=(wN hpar).1;have DW:=acr hkw;have Vq:=acr hsv;have Ld:acs (∀y r,sr=(iJ y++r,0)→jU S.next behind y→T=y.t):=fun y r e hg=>Sn hpar (HGL.o y r e hg).2.2.1 hg;have hb5:=hnt.below;have wZ:=acr (hnt.froz nI.o);have Ct:=acr (nI.o.grow hb5);have eU:=acr (qM.o.grow nI.o hb5);have AV:=acr (vF.o.trans (Step.grow nI.o hb5));have HROW5:=acr (K6.o.free (I:=fun _=>False) (fun e=>e) (Step.grow nI.o hb5));have iB:=acr (eT.o.free (I:=fun _=>False) (fun e=>e) (Step.grow nI.o hb5));have oM:=acr (HR4.o.grow nI.o hb5);have HC:=acr (rM wZ.o Ct.o DW.o.1);clear hpar hright hnt hkw hsv hb5 QU nI qM vF K6 eT HR4;go_wp2_with fail;refine HC.o.mono ?_;rintro e w6 ⟨q2,rfl,Xy,hb6⟩;have Wz:=acr (yX Xy DW.o.aV.1 DW.o.aV.2);have Cb:=acr hb6;clear Xy hb6 HC;go_wp2_with fail;refine Wz.o.mono ?_;rintro e w7 ⟨a7,n7,c7,rfl,hc7,hr7,yw⟩;have yB:Below w5.heap.size w5 w7:=Cb.o.trans (yw.mono Cb.o.size);have WS:=acr (wZ.o.grow yB);have Lb:=acr (Ct.o.grow yB);have HS7:=acr (eU.o.grow Ct.o yB);have K7:=acr (AV.o.trans (Step.grow Ct.o yB));have Px:=acr (HROW5.o.free (I:=fun _=>False) (fun e=>e) (Step.grow Ct.o yB));have ER:=acr (oM.o.grow Ct.o yB);have WW:=acr (EG a7 a4 n7 L c7 c4 (dw (aV T)) b w7 hr7 (iB.o.free (I:=fun _=>False) (fun e=>e) (Step.grow Ct.o yB)));clear hc7 hr7 yw yB Wz Cb wZ Ct eU AV HROW5 oM iB;by_cases hbe:dw (aV T)=b
  ·rw[decide_eq_true hbe]at WW;clear hbe;go_wp2_with fail;refine WW.o.mono ?_;rintro e _ ⟨rfl,rfl⟩;obtain⟨v,la,lc,vals,h1,h2,h3,h4,h5,h6,h7,h8⟩:=HS7.o.at_;obtain⟨a,c,rfl,hcap⟩:=fM h4;obtain⟨n,hn⟩:∃n,n=S.l.length:=⟨_,rfl⟩;have q0:w7.cell? ⟨s,0,none⟩=some (.slice a n c):=by rw[hn];simp[World.cell?,h1]
   obtain⟨i3,hi3⟩:∃i,Tryz.prog.info? 148=some i∧i.zero=some (.agg #[.int .i64 0,.slice none 0 0,.pointer none])∧i.size=3∧i.bytes=40:=aam (by kernel_rfl);have HI3:=acr hi3;have HOW7:acs (w7.ownsRow 0 148 3 (.slice a n c) n vals):=by rw[hn];exact acr h4
   have HVO:acs (∀b,(Value.slice a n c).ownBlock=some b→o b=i∧b≠s∧b<w7.heap.size):=by
    rw[hn];exact acr h5
   have QA:acs (w7.heap[s]? =some (.cells #[.slice a n c,.int .i64 S.next,.slice la S.last.length lc] 109 (0,0))):=by
    rw[hn];exact acr h1
   have PD:=acr (And.intro h2 (And.intro h6 (And.intro h7 h8)));have mQ:n<8:=by have:=HL8.o;omega
   have jY:=acr hn;clear h1 h2 h4 h5 h6 h7 h8 hcap hn hi3;go_wp2_with (at_builtin;refine xG (by rfl) _ _ 107 (by rfl) 0 148 i3 _ 3 40 Tryz.underlying107 HI3.o.1 HI3.o.2.1 HI3.o.2.2.1 HI3.o.2.2.2 rfl (by omega) (.slice a n c) n vals (by rfl) (fG HOW7.o fun b hb hbw=>(wall w7 _).block b hbw) (some ⟨w7.heap.size,0,none⟩) 1 1 [.int .i64 id,.slice a2 32 c2,ptr p] (by rfl) (lH (w:=w7) [.int .i64 id,.slice a2 32 c2,ptr p] 148 (by simp[maxLen])) (by simp[Value.oneCell']) (by unfold maxLen;omega) (by omega) (Nat.zero_le _) ?_;intro A8 c8 w8 sJ hg8 hat8;have BL:w8.heap[s]? =some (.cells #[.slice a n c,.int .i64 S.next,.slice la S.last.length lc] 109 (0,0)):=((hg8.block s (Nat.lt_of_lt_of_le h3 (wall w7 _).size) (fun e=>(HVO.o s e.symm).2.1 rfl)).trans ((wall w7 _).block s h3)).trans QA.o;have r0:w8.cell? ⟨s,0,none⟩=some (.slice a n c):=dD BL 0;have rf:w8.frozen? ⟨s,0,none⟩=false:=(by simp only[World.frozen?,BL];rfl);have HOWN8:=acr sJ;have HG8:=acr hg8;have HAT8:=acr hat8;have Lc:=acr BL;clear sJ hg8 hat8 BL);go_ret;have IK:=wall w7 (.cells #[.int .i64 id,.slice a2 32 c2,ptr p] 148);have Li:(w8.setCell ⟨s,0,none⟩ (.slice A8 (n+1) c8)).heap[s]? =some (.cells #[.slice A8 (n+1) c8,.int .i64 S.next,.slice la S.last.length lc] 109 (0,0)):=aO Lc.o;have hne:∀b,(Value.slice A8 (n+1) c8).ownBlock=some b→b≠s:=fun b hb e=>by
    rcases HAT8.o with h9|h9
    ·rw[h9]at hb;exact(HVO.o b hb).2.1 e
    ·rw[h9]at hb;simp only[Pd,Pe]at hb;omega
   have hx9:Af KW o w7 [.int .i64 id,.slice a2 32 c2,ptr p] ⟨id,hash,T⟩:=⟨a2,c2,p,by show _=[Value.int .i64 id,.slice a2 hash.length c2,ptr p];rw[←Kr.o],by show hash.length≤c2;rw[←Kr.o];exact HCAP2.o.1,by show ah _ w7 a2 hash.length _;rw[←Kr.o];exact Px.o,WS.o,DW.o⟩;have k1:Keeps (fun b=>b=s∨(Value.slice a n c).ownBlock=some b) w7 (w7.alloc (.cells #[.int .i64 id,.slice a2 32 c2,ptr p] 148)):=(Keeps.below IK).mono fun z hz hz'=>by omega
   have k2:Keeps (fun b=>b=s∨(Value.slice a n c).ownBlock=some b) (w7.alloc (.cells #[.int .i64 id,.slice a2 32 c2,ptr p] 148)) w8:=(Keeps.grown HG8.o).mono fun z _ hz=>Or.inr hz;have k3:Keeps (fun b=>b=s∨(Value.slice a n c).ownBlock=some b) w8 (w8.setCell ⟨s,0,none⟩ (.slice A8 (n+1) c8)):=(Keeps.gI w8 ⟨s,0,none⟩ _).mono fun z _ hz=>Or.inl hz;obtain⟨o9,WA,hsn9⟩:=Wx (w9:=w8.setCell ⟨s,0,none⟩ (.slice A8 (n+1) c8)) (v:= .slice a n c) (v8:= .slice A8 (n+1) c8) (S:=S) Lb.o hi PD.o.1 h3 HVO.o PD.o.2.1 hx9 PD.o.2.2.1 PD.o.2.2.2 Li (by
     rw[←jY.o];exact fG HOWN8.o fun b hb hbw=>bA _ _ _ _ (hne b hb)) (by
     rcases HAT8.o with h9|h9
     ·exact .inl h9
     ·exact .inr ⟨_,h9,by rw[Pe];omega⟩) ((k1.trans k2 fun z _ hz=>hz).trans k3 fun z _ hz=>hz)
   obtain⟨r4,hr4e⟩:∃r4,r4=s4.1:=⟨_,rfl⟩;refine .inl ⟨⟨id,hash,T⟩,s4.1,o9,rfl,?_,⟨HIDN.o.1,by show id<S.next;rw[←Sr.o];exact HIDN.o.2,Kr.o.symm⟩,DW.o,fun y r e hg=> ?_,(K7.o.mono fun k hk=> .inr hk).trans (WA.mono fun k hk=> .inl hk),hsn9,?_⟩
   ·rw[Cw.o];unfold iJ;rw[←Vq.o]
   ·obtain⟨g1,g2,g3,g4⟩:=HGL.o y r e hg;have g5:=Ld.o y r e hg;obtain⟨yi,yh,yt⟩:=y;dsimp only at g1 g2 g5;rw[g1,g2,g5,g4];exact⟨rfl,rfl⟩
   ·have h9:=ER.o.step (fun e=>hi e.symm) (fun e=>hij e.symm) WA;rw[HS4E.o]at h9;exact h9
  ·rw[aay hbe]at WW;have qW:acs (∀y r,sr=(iJ y++r,0)→¬jU S.next behind y):=fun y r e hg=>by
    have g5:=Ld.o y r e hg;obtain⟨g1,g2,g3,g4⟩:=HGL.o y r e hg;refine hbe ?_;rw[g5,hg.com,←g3]
   clear hbe;go_wp2_with fail;refine WW.o.mono ?_;rintro e _ ⟨rfl,rfl⟩;go_wp2_with fail;go_ret;exact .inr ⟨rfl,qW.o,_,K7.o⟩
 ·have qW:acs (∀y r,sr=(iJ y++r,0)→¬jU S.next behind y):=fun y r e hg=>by
   obtain⟨g1,g2,g3,g4⟩:=HGL.o y r e hg;exact hno y.t (by rw[g3];exact uq (fZ.Ph hg.ok.1)) (Ez hg.ok)
  have AV:=acr (vF.o.trans (Step.grow nI.o hb5));clear hno hb5;go_wp2_with fail;go_ret;exact .inr ⟨rfl,qW.o,_,AV.o⟩
end
theorem WB{w:World}{e:TypeId}{size:Nat}{v:Value}{n:Nat}{xs:List Value}(h:w.ownsRow 0 e size v n xs)(hn:0<n):∃b c,v= .slice (some ⟨b,0,none⟩) n c∧n≤c∧c≤maxLen∧∀i u,xs[i]? =some u→w.cell? ⟨b,i,none⟩=some u:=by
 obtain⟨h1,h2⟩:=h;rcases h2 with⟨h2,rfl⟩|⟨g,cap,cur,h2,hg,hcur,h3,h4,h5,h6⟩
 ·omega
 ·refine⟨g,cap,h2,h3,h4,fun i u hu=> ?_⟩;simp only[World.cell?,hcur];rw[←h6,aaD]at hu;split at hu
  ·simpa using hu
  ·cases hu
section
variable{W w:World}{o:Mark}{i j s p:Nat}{S:lN}
end
structure lT(S:lN):Prop where
 good:ni S
 ok:KE S
 okay:∀x∈S.l,fZ x.t
def LoadSW(o:Mark)(i j:Nat)(w:World)(bs:List UInt8)(e:Ending)(w':World):Prop:=
 (∃s S o',e= .returned (.tuple #[ptr s,.int .i64 0])∧bs=bX S∧SvW S∧(∀R,bs=bX R→lT R→R=S)∧Step o (fun m=>m=i∨m=j) w o' w'∧jS KW o' i w' s S)∨
 (e= .returned (.tuple #[.pointer none,.int .i64 12])∧(∀R,bs=bX R→¬lT R)∧∃o',Step o (fun m=>m=i∨m=j) w o' w')
theorem Sv{bs:List UInt8}{s1 s2 s3:Rd}{nx cnt:Int}{last:List UInt8}(n1:bq (bs,0) 8=(nx,s1))(n2:aL s1=(last,s2))(n3:bq s2 1=(cnt,s3)){R:lN}(e:bs=bX R)(h:KE R):
  nx=R.next∧last=R.last∧cnt=(R.l.length:Int)∧s3=(R.l.flatMap iJ,0):=by
 have e8:(256:Int)^8=18446744073709551616:=rfl;have e1:(256:Int)^1=256:=rfl;have g2:=h.next;have g3:=h.few;have g4:=h.last;have m1:bq (bs,0) 8=(R.next,(mG R.last++(eB R.l.length 1++R.l.flatMap iJ),0)):=by
  rw[e];unfold bX;rw[TK,TK];exact gW 8 _ _ (by omega) (by omega)
 rw[m1]at n1;cases n1;rw[qI _ _ (by omega)]at n2;cases n2;rw[gW 1 _ _ (by omega) (by omega)]at n3;cases n3;exact⟨rfl,rfl,rfl,rfl⟩
theorem Sw{bs:List UInt8}{s1 s2 s3:Rd}{nx cnt:Int}{last:List UInt8}(n1:bq (bs,0) 8=(nx,s1))(n2:aL s1=(last,s2))(n3:bq s2 1=(cnt,s3))(h3:s3.2=0):bs=eB nx 8++mG last++eB cnt 1++s3.1:=by
 have k3:=h_ (s:=s2) (k:=1) (by rw[n3];exact h3);rw[n3]at k3;have k2:=mE (s:=s1) (by rw[n2];exact k3.1);rw[n2]at k2;have k1:=h_ (s:=(bs,0)) (k:=8) (by rw[n1];exact k2.1);rw[n1]at k1;dsimp only at k1 k2 k3;rw[k1.2.1,k2.2.1,k3.2.1];simp only[TK]
theorem Sy{bs:List UInt8}{s1 s2 s3:Rd}{nx cnt:Int}{last:List UInt8}(n1:bq (bs,0) 8=(nx,s1))(n2:aL s1=(last,s2))(n3:bq s2 1=(cnt,s3)):s3.1.length≤bs.length:=by
 have hn:∀(s:Rd) (k:Nat),(bq s k).2.1.length≤s.1.length:=fun s k=>by
  unfold bq gH;dsimp only;split
  ·exact Nat.le_refl _
  ·split
   ·exact Nat.le_refl _
   ·split
    ·exact Nat.le_refl _
    ·dsimp only;rw[List.length_drop];omega
 have hb:∀(s:Rd),(aL s).2.1.length≤s.1.length:=fun s=>by
  refine aax ?_ (hn s 2);unfold aL gH;split
  ·exact Nat.le_refl _
  ·split
   ·exact Nat.le_refl _
   ·split
    ·exact Nat.le_refl _
    ·dsimp only;rw[List.length_drop];omega
 have h1:=hn (bs,0) 8;have h2:=hb s1;have h3:=hn s2 1;rw[n1]at h1;rw[n2]at h2;rw[n3]at h3;dsimp only at h1 h2 h3;omega
def SlwRel(W:World)(o:Mark)(i j:Nat)(w:World)(s xr:Nat)(bs last:List UInt8)(nx:Int)(N:Nat)(s3:Rd)(bv' iv:Value)(wr:World):Prop:=
 ∃(acc:List iw) (sr:Rd) (o':Mark) (bh:Int),iv= .int .i64 acc.length∧acc.length≤N∧bv'= .int .i64 bh∧(0≤bh∧bh≤1099511627776)∧Step o (fun m=>m=i∨m=j) w o' wr∧jS KW o' i wr s ⟨acc,nx,last⟩∧IE o' j wr xr sr∧
  s3=(acc.flatMap iJ++sr.1,sr.2)∧(∀x∈acc,(0≤x.id∧x.id≤1099511627776)∧x.hash.length≤64)∧
  ∀R,bs=bX R→lT R→acc=R.l.take acc.length∧sr=((R.l.drop acc.length).flatMap iJ,0)∧∀y,R.l[acc.length]? =some y→bh<y.id
theorem K8{sr:Rd}{acc:List iw}{bh nx:Int}{N:Nat}{R:lN}(hk:acc.length<N)(hN:(N:Int)=(R.l.length:Int))(hnx:nx=R.next)(hF:lT R)(h2:sr=((R.l.drop acc.length).flatMap iJ,0))(h3:∀y,R.l[acc.length]? =some y→bh<y.id):
  ∃y,R.l[acc.length]? =some y∧sr=(iJ y++(R.l.drop (acc.length+1)).flatMap iJ,0)∧jU nx bh y∧R.l.take (acc.length+1)=R.l.take acc.length++[y]:=by
 have hl:acc.length<R.l.length:=by omega
 have hg:R.l[acc.length]? =some (R.l[acc.length]'hl):=List.getElem?_eq_getElem hl;have hm:=aat hg;have he:=hF.good.each _ hm;refine⟨_,hg,?_,⟨hF.okay _ hm,he.2.2,by rw[hnx];exact he.1,h3 _ hg,he.2.1⟩,by rw[aae hl]⟩;rw[h2,aaO hl,List.flatMap_cons]
section
variable{W w:World}{o:Mark}{i j s p:Nat}{S:lN}
theorem K9{Q:Nat→Prop}(hM:Marks W o w)(hi:i≠0)(hj:j≠0)(hij:i≠j)(a:Option Addr)(n c:Nat)(bs:List UInt8)(hr:ah Q w a n (bs.map bv))(hsl:bs.length≤90000000):
  Calls Tryz.prog 62 #[.slice a n c] w (LoadSW o i j w bs):=by
 have hln:bs.length=n:=by simpa using hr.length
 obtain⟨⟨nx,s1⟩,n1⟩:∃q,bq (bs,0) 8=q:=⟨_,rfl⟩;obtain⟨⟨last,s2⟩,n2⟩:∃q,aL s1=q:=⟨_,rfl⟩;obtain⟨⟨cnt,s3⟩,n3⟩:∃q,bq s2 1=q:=⟨_,rfl⟩;have e8:(256:Int)^8=18446744073709551616:=rfl;have e1:(256:Int)^1=256:=rfl;have r1:=eD (bs,0) 8;have r3:=eD s2 1;rw[n1,e8]at r1;rw[n3,e1]at r3;dsimp only at r1 r3;have HG:acs (∀R,bs=bX R→lT R→nx=R.next∧last=R.last∧cnt=(R.l.length:Int)∧s3=(R.l.flatMap iJ,0)):=fun R e hF=>Sv n1 n2 n3 e hF.ok;have HBK:=acr (Sw n1 n2 n3);have wD:=acr (Sy n1 n2 n3);have HSL:=acr hsl;have QL:=acr (Ww hM j a n c bs (by omega) hr);have HM:=acr hM;have BU:=acr n1;have ES:=acr n2;have HN3:=acr n3;have hj0:¬(fun k=>k=j) 0:=fun e=>hj e.symm;have hji:¬(fun k=>k=j) i:=fun e=>hij e;have AU:=acr hj0;have HJI:=acr hji;obtain⟨N,rfl⟩:∃N:Nat,cnt=N:=⟨cnt.toNat,by omega⟩;obtain⟨L,VG⟩:∃L,L=last.length:=⟨_,rfl⟩;have FN:=acr VG;clear hM hr n1 n2 n3 hj0 hji VG hln hsl e8 e1;go_enter Tryz.func62,Tryz.ntmps62;go_wp2_with fail;refine QL.o.mono ?_;rintro e w1 ⟨xr,o1,rfl,nu,hs1⟩;have nM:=acr (HM.o.step AU.o hs1);have uU:=acr hs1;have Po:=acr (zM nu nM.o BU.o);clear nu hs1 QL;go_wp2_with fail;refine Po.o.mono ?_;rintro e w2 ⟨rfl,hR2,hs2⟩;have zO:=acr (nM.o.step AU.o hs2);have K5:=acr (uU.o.trans hs2);have xL:=acr (K3 hR2 zO.o ES.o);clear hR2 hs2 Po nM uU;go_wp2_with fail;refine xL.o.mono ?_;rintro e w3 ⟨a3,c3,rfl,hc3,hr3,tV,hs3⟩;have Ca:=acr (zO.o.step AU.o hs3);have yA:=acr (K5.o.trans hs3);have xB:acs (ah (Free o1 w3) w3 a3 last.length (last.map bv)):=hr3;have HCAP3:=acr hc3;have SS:=acr (Zg tV Ca.o HN3.o);rw[←FN.o];clear hc3 hr3 tV hs3 xL zO K5;go_wp2_with fail;refine SS.o.mono ?_;rintro e w4 ⟨rfl,Cq,hs4⟩;have nI:=acr (Ca.o.step AU.o hs4);have vF:=acr (yA.o.trans hs4);have K6:=acr (xB.o.free AU.o hs4);have HR4:=acr Cq;clear Cq hs4 SS Ca yA xB;obtain⟨nw,hnw⟩:∃nw,nw=wrap64 nx:=⟨_,rfl⟩;obtain⟨w5,RF⟩:∃w5,w5=w4.alloc (.cells #[.slice none 0 0,.int .i64 nw,.slice a3 L c3] 109):=⟨_,rfl⟩;have hb5:Below w4.heap.size w4 w5:=by rw[RF];exact wall w4 _
 have IV:w5.heap.size=w4.heap.size+1:=by rw[RF];simp
 have hsb:w5.heap[w4.heap.size]? =some (.cells #[.slice none 0 0,.int .i64 nw,.slice a3 L c3] 109 (0,0)):=by rw[RF];exact(MapKept.heap_alloc w4 _).1
 obtain⟨o5,hs5,m1,m2⟩:=iQ nI.o i (fun b=>b=w4.heap.size) (w':=w5) (fun b hb=>by subst hb;exact⟨Nat.le_refl _,by omega⟩) hb5;have hi0:¬(fun k=>k=i) 0:=fun e=>hi e.symm;have AV:acs (Step o (fun m=>m=i∨m=j) w o5 w5):=(vF.o.mono fun k hk=> .inr hk).trans (hs5.mono fun k hk=> .inl hk);have oM:=acr (HR4.o.step hi0 (fun e=>hij e.symm) hs5);have HSN5:acs (jS KW o5 i w5 w4.heap.size ⟨[],nw,last⟩):=by
  refine⟨.slice none 0 0,a3,c3,[],?_,m1 _ rfl,by omega,⟨rfl,.inl ⟨rfl,rfl⟩⟩,fun b hb=>by simp[Value.ownBlock]at hb,rfl,HCAP3.o.1,?_⟩
  ·show _=some (Obj.cells #[.slice none 0 0,.int .i64 nw,.slice a3 last.length c3] _ _);rw[←FN.o];exact hsb
  ·exact K6.o.free hi0 hs5
 have WL:=acr RF;have HNW:=acr hnw;clear RF hb5 IV hsb hs5 m1 m2 hi0 nI vF K6 HR4 HCAP3;go_upto_if 25 with(fail);rw[←HNW.o,←WL.o];clear WL hnw
 go_cut [9] (fun wv wx=>∃want:Nat,wv= .int .i64 want∧(want=if nx=1 then 0 else 32)∧w5=wx)
 case first=>
  by_cases h1:nx=1
  ·have d1:(nx==1)=true:=by simpa using h1
   have d1':decide (nx=1)=true:=decide_eq_true h1;clear h1;go_wp2_with fail
   go_meet
   have h1:=of_decide_eq_true d1';exact⟨0,rfl,by rw[if_pos h1],rfl⟩
  ·have d1:(nx==1)=false:=by simpa using h1
   have d1':decide (nx=1)=false:=aay h1;clear h1;go_wp2_with fail
   go_meet
   have h1:=of_decide_eq_false d1';exact⟨32,rfl,by rw[if_neg h1],rfl⟩
 case rest=>
  obtain⟨want,rfl,hwant,rfl⟩:=hcut;have HWT:=acr hwant;clear hwant;by_cases q1:nx<1
  ·have d1:decide (nx<1)=true:=decide_eq_true q1;have qW:acs (∀R,bs=bX R→¬lT R):=fun R e hF=>by
    obtain⟨g1,g2,g3,g4⟩:=HG.o R e hF;have:=hF.good.next;omega
   clear q1;go_wp2_with fail
   go_ret2
   exact .inr ⟨rfl,qW.o,_,AV.o⟩
  have d1:decide (nx<1)=false:=aay q1;by_cases q2:1099511627776<nx
  ·have d2:decide (1099511627776<nx)=true:=decide_eq_true q2;have qW:acs (∀R,bs=bX R→¬lT R):=fun R e hF=>by
    obtain⟨g1,g2,g3,g4⟩:=HG.o R e hF;have:=hF.ok.next;omega
   clear q1 q2;go_wp2_with fail
   go_ret2
   exact .inr ⟨rfl,qW.o,_,AV.o⟩
  have d2:decide (1099511627776<nx)=false:=aay q2;by_cases q3:¬L=want
  ·have d3:((L:Int) !=(want:Int))=true:=by simp;omega
   have d3':((L:Int)==(want:Int))=false:=by simp;omega
   have qW:acs (∀R,bs=bX R→¬lT R):=fun R e hF=>by
    obtain⟨g1,g2,g3,g4⟩:=HG.o R e hF;have k1:=hF.good.last;have k2:=HWT.o;have k3:=FN.o;rw[g2]at k3;by_cases h1:nx=1
    ·rw[if_pos h1]at k2;rw[k1.1 (by omega)]at k3;exact q3 (by rw[k2,k3];rfl)
    ·rw[if_neg h1]at k2;rw[k1.2 (by omega)]at k3;exact q3 (by omega)
   clear q1 q2 q3;go_wp2_with fail
   go_ret2
   exact .inr ⟨rfl,qW.o,_,AV.o⟩
  have q3:L=want:=Decidable.not_not.1 q3;subst q3;have d3:((L:Int) !=(L:Int))=false:=by simp
  have d3':((L:Int)==(L:Int))=true:=by simp
  by_cases q4:8<N
  ·have d4:decide ((8:Int)<(N:Int))=true:=by simp;omega
   have qW:acs (∀R,bs=bX R→¬lT R):=fun R e hF=>by
    obtain⟨g1,g2,g3,g4⟩:=HG.o R e hF;have:=hF.ok.few;omega
   clear q1 q2 q4;go_wp2_with fail
   go_ret2
   exact .inr ⟨rfl,qW.o,_,AV.o⟩
  have d4:decide ((8:Int)<(N:Int))=false:=by simp;omega
  obtain rfl:nw=nx:=by rw[HNW.o];unfold wrap64;omega
  have hL32:L≤32:=by
   have k2:=HWT.o;split at k2<;>omega
  have HL32:=acr hL32;clear HNW hL32;go_wp2_with fail
  go_loopw [10,43] (fun bv' iv wr=>SlwRel W o i j w w4.heap.size xr bs last nw N s3 bv' iv wr) (fun _ iv _=>N-(intOf iv).toNat)
  case atStart=>
   refine⟨[],s3,o5,0,rfl,Nat.zero_le _,rfl,⟨by omega,by omega⟩,AV.o,HSN5.o,oM.o,by simp,fun x hx=>by simp at hx,fun R e hF=>⟨rfl,?_,fun y hy=> ?_⟩⟩
   ·exact(HG.o R e hF).2.2.2
   ·have:=(hF.good.each y (aat hy)).1.1;omega
  case round=>
   obtain⟨acc,sr,o6,bh,rfl,hk,rfl,hb0,hst,hsn,hrd,hs3,hacc,hgd⟩:=hrel;obtain⟨k,hkE⟩:∃k,k=acc.length:=⟨_,rfl⟩;have El:=acr hkE;have HST:=acr hst;have OG:=acr hsn;have rz:=acr hrd;have Bb:=acr hs3;have HACC:=acr hacc;have Py:=acr hgd;have hI0:¬(fun m=>m=i∨m=j) 0:=fun e=>by rcases e with e|e<;>omega
   have HMR:=acr (HM.o.step hI0 hst);have HI0:=acr hI0;rw[←hkE]at hk⊢;clear hst hsn hrd hI0 hs3 hacc hgd hkE;by_cases hlt:k<N
   ·have hsz:sr.1.length≤100000000:=by
     have h1:=wD.o;rw[Bb.o]at h1;simp only[List.length_append]at h1;have:=HSL.o;omega
    have uG:=acr (K4 OG.o HMR.o hi hj hij sr xr rz.o ⟨by show 1≤nw;omega,by show nw≤_;omega⟩ (by show acc.length<8;rw[←El.o];omega) bh hb0 hsz);have wB:=acr hlt;have hd5:decide ((k:Int)<(N:Int))=true:=by simpa using hlt
    have HBH:=acr hb0;clear hsz hb0;go_wp2_with fail;refine uG.o.mono ?_;intro e w7 h7;rcases h7 with⟨x,rest,o7,rfl,hsr,⟨b1,b2,b3⟩,hkx,huq,Sz,hsn7,hrd7⟩|⟨rfl,hno,o7,Sz⟩
    ·have K7:=acr (HST.o.trans Sz);have Lb:=acr (HMR.o.step HI0.o Sz);have HSN7:=acr hsn7;have HRD7:=acr hrd7;have Cw:=acr hsr;have HUQ:=acr huq;have HB3:=acr b3;have HB12:=acr (And.intro b1 b2);obtain⟨v,la,lc,vals,h1,h2,h3,h4,h5,h6,h7,h8⟩:=hsn7.at_;dsimp only at h4 h6;have hlk:(acc++[x]).length=k+1:=by rw[List.length_append,El.o];rfl
     rw[hlk]at h4;obtain⟨b,c9,rfl,hc9,hcm,hcell⟩:=WB h4 (by omega);obtain⟨_,_,_,hv0,-⟩:=h6.at_ (k:=k) (x:=x) (by rw[El.o,aaw acu,Nat.sub_self];rfl);have qs:w7.cell? ⟨w4.heap.size,0,none⟩=some (.slice (some ⟨b,0,none⟩) (k+1) c9):=by simp[World.cell?,h1,hlk]
     have qx:w7.cell? ⟨b,k*3,none⟩=some (.int .i64 x.id):=hcell _ _ hv0;have zk:IntKind.i64.wrap ((((k+1:Nat)):Int)-1)=(k:Int):=by rw[aag _ (by omega)];omega
     have zk2:IntKind.i64.wrap ((k:Int)+1-1)=(k:Int):=by rw[aag _ (by omega)];omega
     have zk3:(0:Int)≤(k:Int):=by omega
     have zk4:(k:Int)<((k+1:Nat):Int):=by omega
     have zk5:(k:Int)<(k:Int)+1:=by omega
     clear h1 h2 h3 h4 h5 h6 h7 h8 hc9 hcm hcell hv0 hlk Sz hsn7 hrd7 uG OG rz HST HMR hsr huq b1 b2 b3 hkx;go_wp2_with fail
     go_quiet (fail)
     go_wp2_with fail;have hbq:Below w7.heap.size w7 (w7.drewN nq):=⟨rfl,rfl,rfl,Nat.le_refl _,fun _ _=>rfl⟩;go_roundw
     case rel=>
      have hidr:0≤x.id∧x.id≤1099511627776:=by
       obtain⟨k1,k2⟩:=HB12.o;have k2:x.id<nw:=k2;have k3:=HBH.o;omega
      refine⟨acc++[x],(rest,0),o7,x.id,?_,?_,rfl,hidr,K7.o.trans (Step.grow Lb.o hbq),HSN7.o.grow Lb.o hbq,HRD7.o.grow Lb.o hbq,?_,fun y hy=> ?_,fun R e hF=> ?_⟩
      ·rw[List.length_append,←El.o];go_num
      ·rw[List.length_append,←El.o];have:=wB.o;simp;omega
      ·rw[Bb.o,Cw.o];simp only[aaG,List.flatMap_cons,List.flatMap_nil,aaA,TK]
      ·rcases aap.1 hy with hy|hy
       ·exact HACC.o y hy
       ·obtain rfl:y=x:=by simpa using hy
        exact⟨hidr,by have:=HB3.o;omega⟩
      ·obtain⟨k1,k2,k3⟩:=Py.o R e hF;obtain⟨g1,g2,g3,g4⟩:=HG.o R e hF;obtain⟨y,hy,hsr,hg,htk⟩:=K8 (by have:=El.o;have:=wB.o;omega) g3 g1 hF k2 k3;obtain⟨rfl,hrest⟩:=HUQ.o y _ hsr hg;have hl1:(acc++[y]).length=acc.length+1:=by simp
       rw[hl1];refine⟨by rw[htk,←k1],by rw[hrest],fun z hz=> ?_⟩;obtain⟨hk1,e1⟩:=aac.1 hz;obtain⟨hk0,e0⟩:=aac.1 hy;have:=List.pairwise_iff_getElem.1 hF.good.up acc.length (acc.length+1) hk0 hk1 (by omega);rw[e0,e1]at this;exact this
     case measure=>have:=wB.o;simp[intOf];omega
    ·have qW:acs (∀R,bs=bX R→¬lT R):=fun R e hF=>by
      obtain⟨k1,k2,k3⟩:=Py.o R e hF;obtain⟨g1,g2,g3,g4⟩:=HG.o R e hF;obtain⟨y,hy,hsr,hg,htk⟩:=K8 (by have:=El.o;have:=wB.o;omega) g3 g1 hF k2 k3;exact hno y _ hsr hg
     have HSTF:acs (Step o (fun m=>m=i∨m=j) w o7 w7):=HST.o.trans (Sz.mono fun k hk=> .inr hk);clear hno Sz uG;go_wp2_with fail
     go_ret2
     exact .inr ⟨rfl,qW.o,_,HSTF.o⟩
   ·obtain rfl:k=N:=by omega
    have hd5:decide ((k:Int)<(k:Int))=false:=by simp
    have HE:=acr (ro_end rz.o);by_cases hen:pG sr=0
    ·obtain⟨z1,z2⟩:=Er hen;rw[hen]at HE;have Y9:s3=(acc.flatMap iJ,0):=by rw[Bb.o,z1,z2,aaA]
     have hfin:bs=bX ⟨acc,nw,last⟩:=by
      rw[HBK.o (by rw[Y9]),Y9];unfold bX;dsimp only;rw[←El.o]
     have mH:=acr hfin;have HSVW:acs (SvW ⟨acc,nw,last⟩):=⟨by show acc.length≤8;rw[←El.o];omega,by show last.length≤64;rw[←FN.o];have:=HL32.o;omega,⟨by show 0≤nw;omega,by show nw≤_;omega⟩,HACC.o⟩;have HUN:acs (∀R,bs=bX R→lT R→R=⟨acc,nw,last⟩):=fun R e hF=>by
      obtain⟨g1,g2,g3,g4⟩:=HG.o R e hF;obtain⟨k1,k2,k3⟩:=Py.o R e hF;obtain⟨Rl,Rn,Rs⟩:=R;dsimp only at g1 g2 g3 k1;rw[←El.o,List.take_of_length_le (by omega)]at k1;rw[k1,g1,g2]
     clear hen z1 z2 Y9 hfin;go_wp2_with fail;refine HE.o.mono ?_;rintro e _ ⟨rfl,rfl⟩;go_wp2_with fail
     go_ret2
     exact .inl ⟨_,_,o6,rfl,mH.o,HSVW.o,HUN.o,HST.o,OG.o⟩
    ·have qW:acs (∀R,bs=bX R→¬lT R):=fun R e hF=>by
      obtain⟨g1,g2,g3,g4⟩:=HG.o R e hF;obtain⟨k1,k2,k3⟩:=Py.o R e hF;refine hen ?_;rw[k2,aaC (by have:=El.o;omega)];rfl
     have d9:(pG sr !=0)=true:=by simpa using hen
     have d8:(pG sr==0)=false:=by simpa using hen
     clear hen;go_wp2_with fail;refine HE.o.mono ?_;rintro e _ ⟨rfl,rfl⟩;go_wp2_with fail
     go_ret2
     exact .inr ⟨rfl,qW.o,_,HST.o⟩
theorem fresh2(hM:Marks W o w):∃i j,i≠0∧j≠0∧i≠j∧(∀b,o b≠i)∧∀b,o b≠j:=by
 have key:∀b,o b≤((List.range w.heap.size).map o).sum:=fun b=>by
  by_cases h0:o b=0
  ·omega
  ·exact Mg o w.heap.size b (hM.new b h0).2
 exact⟨((List.range w.heap.size).map o).sum+1,((List.range w.heap.size).map o).sum+2,by omega,by omega,by omega,fun b=>by have:=key b;omega,fun b=>by have:=key b;omega⟩
def LoadSF(W:World)(o:Mark)(w:World)(bs:List UInt8)(e:Ending)(w':World):Prop:=
 (∃s S o' i,e= .returned (.tuple #[ptr s,.int .i64 0])∧bs=bX S∧SvW S∧(∀R,bs=bX R→lT R→R=S)∧Below w.heap.size w w'∧Marks W o' w'∧jS KW o' i w' s S∧∃j,i≠0∧j≠0∧Step o (fun m=>m=i∨m=j) w o' w')∨
 (e= .returned (.tuple #[.pointer none,.int .i64 12])∧(∀R,bs=bX R→¬lT R)∧Below w.heap.size w w')
theorem K_{Q:Nat→Prop}(hM:Marks W o w)(a:Option Addr)(n c:Nat)(bs:List UInt8)(hr:ah Q w a n (bs.map bv))(hsl:bs.length≤90000000):
  Calls Tryz.prog 62 #[.slice a n c] w (LoadSF W o w bs):=by
 obtain⟨i,j,hi,hj,hij,hfi,hfj⟩:=fresh2 hM;refine(K9 hM hi hj hij a n c bs hr hsl).mono ?_;rintro e w' (⟨s,S,o',rfl,h1,h2,h3,hst,hsn⟩|⟨rfl,h1,o',hst⟩)
 ·exact .inl ⟨s,S,o',i,rfl,h1,h2,h3,hst.keep.gP acu fun x _ hx=>hx.elim (hfi x) (hfj x),hM.step (fun h=>h.elim (fun e=>hi e.symm) fun e=>hj e.symm) hst,hsn,j,hi,hj,hst⟩
 ·exact .inr ⟨rfl,h1,hst.keep.gP acu fun x _ hx=>hx.elim (hfi x) (hfj x)⟩
end
end Go.Proofs.YtjnhnlabpccgjaaGreatDoor
