/- package -/
import Derived.Test.YtjnhnlabpccgjaaGreatDoorM21
import Derived.Test.YtjnhnlabpccgjaaGreatDoorM24
import Derived.Test.YtjnhnlabpccgjaaGreatDoorM18
import Derived.Test.YtjnhnlabpccgjaaGreatDoorM03
import Derived.Laws.Tables
import Derived.Laws.Rows
set_option maxRecDepth 100000
set_option maxHeartbeats 64000000
set_option linter.all false
namespace Go.Proofs.YtjnhnlabpccgjaaGreatDoor
open Go.ChangeShapes Go.WideShapes Go.ChangeAt Go.RowKit
def gX(S:rE)(T:aL):(Int×Int)×rE:=
 if 8≤S.l.length then((0,4),S)else
 ((S.next,0),⟨S.l++[⟨S.next,nM (S.last++gV (bL T)),bL T⟩],S.next+1,nM (S.last++gV (bL T))⟩)
theorem Dn{T:aL}(hT:dG T):(gV T).length≤6000000:=by
 have h1:=qB hT T (fun q hq=>hq);have h2:=hT.len;unfold gV;rw[List.length_append,bT];omega
section
variable{W w:World}{o:Mark}{i j s p:Nat}{S:rE}{T:aL}
open Classical in
theorem TN{w9:World}{v v8:Value}{vals:List Value}{x:jC}{a9:Option Addr}{c9 q:Nat}(hM:Marks W o w)(hi:i≠0)(hos:o s=i)(hsw:s<w.heap.size)(hvo:∀b,v.ownBlock=some b→o b=i∧b≠s∧b<w.heap.size)
  (hO:eH o w vals S.l)(hh:w9.heap[s]? =some (.cells #[v8,.int .i64 (S.next+1),.slice a9 x.hash.length c9] 109 (0,0)))(hown:w9.ownsRow 0 148 3 v8 (S.l.length+1) (vals++[.int .i64 x.id,.slice a9 x.hash.length c9,ptr q]))
  (hat:v8.ownBlock=v.ownBlock∨∃b,v8.ownBlock=some b∧w.heap.size≤b)(hK:Keeps (fun b=>b=s∨v.ownBlock=some b) w w9)
  (Y3:x.hash.length≤c9)(Ru:ah (fun b=>w.heap.size≤b∧b<w9.heap.size∧v8.ownBlock≠some b) w9 a9 x.hash.length (x.hash.map bv))(hq:∃g D mb ib nb,aO g D w9 q mb ib nb x.t∧∀b,g b≠ .none∨D b→o b=0∧v8.ownBlock≠some b)(hT:dG x.t):
  ∃o',Step o (fun k=>k=i) w o' w9∧iF o' i w9 s ⟨S.l++[x],S.next+1,x.hash⟩:=by
 obtain⟨o',ho⟩:∃o':Mark,∀b,o' b=if v8.ownBlock=some b∧w.heap.size≤b then i else o b:=⟨_,fun _=>rfl⟩;have hlt9:∀b,v8.ownBlock=some b→b<w9.heap.size:=kR hown;have hst:Step o (fun k=>k=i) w o' w9:=by
  refine⟨fun b hb=>by rw[ho,if_neg (fun h=>by omega)],fun b hb hn=> ?_,hK.mono fun b hb h=> ?_⟩
  ·by_cases h:v8.ownBlock=some b∧w.heap.size≤b
   ·rw[ho,if_pos h];exact⟨rfl,hlt9 b h.1⟩
   ·rw[ho,if_neg h]at hn;have:=(hM.new b hn).2;omega
  ·rcases h with h|h
   ·rw[h];exact hos
   ·exact(hvo b h).1
 have hi0:¬(fun k=>k=i) 0:=fun e=>hi e.symm;have hfree:∀b,o b=0→v8.ownBlock≠some b→o' b=0:=fun b h0 hn=>by rw[ho,if_neg (fun h=>hn h.1)];exact h0
 have N7:∀b,w.heap.size≤b→o b=0:=fun b hb=>aaj fun h0=>by have:=(hM.new b h0).2;omega
 have hrf:ah (fun b=>o' b=0∧b<w9.heap.size) w9 a9 x.hash.length (x.hash.map bv):=Ru.mono fun b hb=>⟨hfree b (N7 b hb.1) hb.2.2,hb.2.1⟩;refine⟨o',hst,⟨v8,a9,c9,vals++[.int .i64 x.id,.slice a9 x.hash.length c9,ptr q],hh,(hst.old s hsw).trans hos,Pd hsw hK.size,?_,fun b hb=> ?_,?_,Y3,hrf⟩⟩
 ·rw[List.length_append];exact hown
 ·rcases hat with h1|⟨b',h1,h2⟩
  ·rw[h1]at hb;obtain⟨k1,k2,k3⟩:=hvo b hb;exact⟨(hst.old b k3).trans k1,k2,Pd k3 hK.size⟩
  ·rw[h1]at hb;cases hb;exact⟨by rw[ho,if_pos ⟨h1,h2⟩],by omega,hlt9 _ h1⟩
 ·refine eH.append (hO.step hi0 hst) ⟨_,[],by simp,⟨a9,c9,q,rfl,Y3,hrf,?_,hT⟩,rfl⟩;obtain⟨g,D,mb,ib,nb,hA,hg⟩:=hq;exact⟨g,D,mb,ib,nb,hA,fun b hb=>hfree b (hg b (.inl hb)).1 (hg b (.inl hb)).2,fun b hb=>hfree b (hg b (.inr hb)).1 (hg b (.inr hb)).2⟩
theorem TP(hS:iF o i w s S)(hTr:fO o j w p T)(hM:Marks W o w)(hi:i≠0)(hT:dG T)(uW:S.l.length≤8)(hla:S.last.length≤64)(hnx:0≤S.next)(hnx':S.next≤1000000000):
  Calls Tryz.prog 83 #[ptr s,ptr p] w fun e w'=>e= .returned (.tuple #[.int .i64 (gX S T).1.1,.int .i64 (gX S T).1.2])∧∃o',Step o (fun k=>k=i) w o' w'∧iF o' i w' s (gX S T).2:=by
 have HS:=acA hS;have HM:=acA hM;obtain⟨v,la,lc,vals,h1,h2,h3,h4,h5,h6,h7,h8⟩:=hS.at_;obtain⟨a,c,rfl,hcap⟩:=dI h4;have q0:w.cell? ⟨s,0,none⟩=some (.slice a S.l.length c):=by simp[World.cell?,h1]
 by_cases hfull:8≤S.l.length
 ·have e1:gX S T=((0,4),S):=by unfold gX;rw[if_pos hfull]
  rw[e1];have hd:decide ((8:Int)≤(S.l.length:Int))=true:=by simp;omega
  obtain⟨n,hn⟩:∃n,n=S.l.length:=⟨_,rfl⟩;rw[←hn]at q0 hd;clear hS hM h1 h2 h4 h5 h6 h7 h8 hcap hfull e1 uW hn hTr hT;go_enter Tryz.func83,Tryz.ntmps83;go_wp2_with fail
  go_ret2
  exact⟨rfl,o,Step.grow HM.o acD,HS.o⟩
 ·have e1:gX S T=((S.next,0),⟨S.l++[⟨S.next,nM (S.last++gV (bL T)),bL T⟩],S.next+1,nM (S.last++gV (bL T))⟩):=by unfold gX;rw[if_neg hfull]
  rw[e1];have hd:decide ((8:Int)≤(S.l.length:Int))=false:=by simp;omega
  have q1:w.cell? ⟨s,1,none⟩=some (.int .i64 S.next):=by simp[World.cell?,h1]
  have q2:w.cell? ⟨s,2,none⟩=some (.slice la S.last.length lc):=by simp[World.cell?,h1]
  have HC:=acA (xG hTr hM hT);have HH:=acA h1;have HOW:=acA h4;have xI:=acA h6;have HLA:=acA h8;have Ma:=acA h7;have Xq:=acA h2;have HVO:=acA h5;have hTc:=hT.bL;have HTC:=acA hTc;have hsl:=Dn hTc;obtain⟨n,hn⟩:∃n,n=S.l.length:=⟨_,rfl⟩;obtain⟨m,hm⟩:∃m,m=S.last.length:=⟨_,rfl⟩;obtain⟨nx,xY⟩:∃nx,nx=S.next:=⟨_,rfl⟩;rw[←xY]at hnx hnx' q1;rw[←hm]at q2 hla;rw[←hn]at q0 hd hcap uW;have HN:=acA hn;have FE:=acA hm;have LX:=acA xY;clear hS hM h1 h2 h4 h5 h6 h7 h8 hfull e1 hn hm hTr hT hTc xY;go_enter Tryz.func83,Tryz.ntmps83;go_wp2_with fail;refine HC.o.mono ?_;rintro e w1 ⟨q,rfl,hT1,hb1⟩;have HT1:=acA hT1;have HB1:=acA hb1;have K4:=acA (Cg (hT1.grow acD.drew) HTC.o);have hsw1:s<w1.heap.size:=by have:=hb1.size;omega
  have ji:acB (∀w',Below w1.heap.size w1 w'→w'.cell? ⟨s,2,none⟩=some (.slice la m lc)∧w'.frozen? ⟨s,2,none⟩=false):=fun w' hb=>by
   have hbb:=(hb.block s hsw1).trans ((hb1.block s h3).trans HH.o);refine⟨?_,by simp[World.frozen?,hbb]⟩;rw[FE.o];simp[World.cell?,hbb]
  have c0:=(hb1.cell (p:=⟨s,0,none⟩) h3).trans q0;have c1:=(hb1.cell (p:=⟨s,1,none⟩) h3).trans q1;obtain⟨sv,hsv⟩:∃sv,sv=gV (bL T):=⟨_,rfl⟩;rw[←hsv]at K4 hsl;have TQ:=acA hsv;clear hT1 hb1 hsv q0 q1 q2;go_wp2_with fail;refine qA 12 ((fun w'=>w'.cell? ⟨s,2,none⟩=some (.slice la m lc)∧w'.frozen? ⟨s,2,none⟩=false)) ?_ fun hS=> ?_
  ·exact ji.o _ acD.drew
  refine au 0 hS ?_;refine au 1 hS ?_;refine au 2 hS ?_;refine au 3 hS ?_;refine au 4 hS ?_;refine au 5 hS ?_;refine bB 6 fun K hK=> ?_;go_simp;refine K4.o.mono ?_;rintro e w2 ⟨a2,n2,c2,rfl,hn2,hr2,hb2⟩;have Mc:Below w1.heap.size w1 w2:=acD.drew.trans hb2;have hl2:sv.length=n2:=by simpa using hr2.length
  have Ez:=acA (CV la m lc S.last a2 n2 c2 sv w2 (by rw[FE.o];exact HLA.o.below (HB1.o.trans (Mc.mono HB1.o.size)) acC) hr2 (by omega));have HL2:=acA hl2;clear hr2 hb2 hl2;go_wp2_with fail;refine bK hK (ji.o _ Mc) fun hS=> ?_;clear hK K;refine bB 7 fun K hK=> ?_;go_simp;refine bK hK (ji.o _ (Mc.trans ((wall w2 _).mono Mc.size))) fun hS=> ?_;clear hK K;refine bB 8 fun K hK=> ?_;go_simp;refine Ez.o.mono ?_;rintro e w3 ⟨a3,c3,rfl,hc3,hr3,hb3⟩;have Pz:Below w1.heap.size w1 w3:=Mc.trans (hb3.mono Mc.size);have Z_:=acA (Xp a3 (m+n2) c3 (S.last++sv) w3 hr3 (by have:=HL2.o;omega) hc3.1);clear hc3 hr3 hb3;go_wp2_with fail;refine bK hK (ji.o _ Pz) fun hS=> ?_;clear hK K;refine bB 9 fun K hK=> ?_;go_simp;refine Z_.o.mono ?_;rintro e w4 ⟨a4,n4,c4,rfl,hn4,hr4,hb4⟩;have Md:Below w1.heap.size w1 w4:=Pz.trans (hb4.mono Pz.size);go_wp2_with fail;refine bK hK (ji.o _ Md) fun hS=> ?_;clear hK K;refine au 10 hS ?_;refine au 11 hS ?_;refine bB 12 fun K hK=> ?_;go_simp;refine kX hK ?_;clear hS hK K;have hs4:w4.heap[s]? =some (.cells #[.slice a n c,.int .i64 nx,.slice la m lc] 109 (0,0)):=by
   have:=(Md.block s hsw1).trans ((HB1.o.block s h3).trans HH.o);rw[HN.o,FE.o,LX.o];exact this
  have hs5:(w4.setCell ⟨s,2,none⟩ (.slice a4 n4 c4)).heap[s]? =some (.cells #[.slice a n c,.int .i64 nx,.slice a4 n4 c4] 109 (0,0)):=aI hs4;have yU:Keeps (fun b=>b=s) w (w4.setCell ⟨s,2,none⟩ (.slice a4 n4 c4)):=(iB (HB1.o.trans (Md.mono HB1.o.size))).trans (Keeps.f_ w4 ⟨s,2,none⟩ _) fun x _ hx=>hx;have hr5:ah (fun b=>w.heap.size≤b∧b<w4.heap.size) (w4.setCell ⟨s,2,none⟩ (.slice a4 n4 c4)) a4 n4 ((nM (S.last++sv)).map bv):=hr4.move (by rw[size_set];exact Nat.le_refl _) fun b hb hbw=>⟨⟨by have:=Pz.size;have:=HB1.o.size;omega,hb.2⟩,aV _ _ _ _ (by have:=Pz.size;simp only;omega)⟩;have Jb:=(HT1.o.grow Md);have Ci:(w4.setCell ⟨s,2,none⟩ (.slice a4 n4 c4)).heap.size=w4.heap.size:=size_set _ _ _;have h14:w.heap.size≤w4.heap.size:=Nat.le_trans HB1.o.size Md.size;have hwt5:∀b,b<w4.heap.size→b≠s→(w4.setCell ⟨s,2,none⟩ (.slice a4 n4 c4)).heap[b]? =w4.heap[b]? :=fun b _ hn=>aV _ _ _ _ hn;have hK45:Keeps (fun b=>b=s) w4 (w4.setCell ⟨s,2,none⟩ (.slice a4 n4 c4)):=Keeps.f_ w4 ⟨s,2,none⟩ _;generalize w4.setCell ⟨s,2,none⟩ (.slice a4 n4 c4)=w5 at*;have HK45:=acA hK45;clear hK45;obtain⟨i3,hi3⟩:∃i,Tryz.prog.info? 148=some i∧i.zero=some (.agg #[.int .i64 0,.slice none 0 0,.pointer none])∧i.size=3∧i.bytes=40:=aap (by kernel_rfl);have HI3:=acA hi3;have dB:=acA hs5;have Lu:=acA yU;have mP:=acA hr5;have zK:=acA Jb;have HWT5:=acA hwt5;have HB14:=acA Md;have Xr:s<w5.heap.size:=by omega
  have JM:=acA Ci;clear Ci;have HSC:acB (∀w':World,w'.heap[s]? =w5.heap[s]? →w'.cell? ⟨s,0,none⟩=some (.slice a n c)∧w'.cell? ⟨s,1,none⟩=some (.int .i64 nx)∧w'.cell? ⟨s,2,none⟩=some (.slice a4 n4 c4)∧w'.frozen? ⟨s,0,none⟩=false):=fun w' hw'=>by
   rw[hs5]at hw';refine⟨?_,?_,?_,?_⟩<;>simp[World.cell?,World.frozen?,hw']
  have HOW5:acB (w5.ownsRow 0 148 3 (.slice a n c) n vals):=by
   have h9:=dJ HOW.o (w':=w5) fun b hb hbw=>Lu.o.block b hbw (HVO.o b hb).2.1;rw[HN.o];exact h9
  have hVO2:∀b,(Value.slice a n c).ownBlock=some b→o b=i∧b≠s∧b<w.heap.size:=fun b hb=>HVO.o b (by rw[HN.o]at hb;exact hb);have TR:=acA hVO2;clear hi3 hs4 hs5 yU hr5 Jb hwt5 Mc Pz Md hr4 hb4 c0 c1 hVO2;go_wp2_with fail;refine qA 19 ((fun w'=>w'.cell? ⟨s,0,none⟩=some (.slice a n c)∧w'.cell? ⟨s,1,none⟩=some (.int .i64 nx)∧w'.cell? ⟨s,2,none⟩=some (.slice a4 n4 c4)∧w'.frozen? ⟨s,0,none⟩=false)) ?_ fun hS=> ?_
  ·exact HSC.o _ rfl
  refine au 0 hS ?_;refine au 1 hS ?_;refine au 2 hS ?_;refine au 3 hS ?_;refine au 4 hS ?_;refine au 5 hS ?_;refine au 6 hS ?_;refine au 7 hS ?_;refine au 8 hS ?_;refine au 9 hS ?_;refine au 10 hS ?_;refine au 11 hS ?_;refine au 12 hS ?_;refine au 13 hS ?_;refine au 14 hS ?_;refine bB 15 fun K hK=> ?_;go_simp;have Ae:Below w5.heap.size w5 (w5.drew.alloc (.cells #[.int .i64 nx,.slice a4 n4 c4,ptr q] 148)):=acD.drew.alloc acC _;refine bK hK (HSC.o _ (Ae.block s Xr)) fun hS=> ?_;clear hK K;refine bB 16 fun K hK=> ?_;refine dA (by rfl) (.tmp 35) (.tmp 46) 107 (by rfl) 0 148 i3 _ 3 40 Tryz.underlying107 HI3.o.1 HI3.o.2.1 HI3.o.2.2.1 HI3.o.2.2.2 rfl (by omega) (.slice a n c) n vals (by rfl) (dJ HOW5.o fun b hb hbw=>Ae.block b hbw) (some ⟨w5.heap.size,0,none⟩) 1 1 [.int .i64 nx,.slice a4 n4 c4,ptr q] (by rfl) (jY (w:=w5.drew) [.int .i64 nx,.slice a4 n4 c4,ptr q] 148 (by simp[maxLen])) (by simp[Value.oneCell']) (by unfold maxLen;omega) (by omega) (Nat.zero_le _) ?_;intro A8 c8 w8 sV hg8 hat8;have IG:w8.heap[s]? =w5.heap[s]? :=(hg8.block s (Pd Xr Ae.size) (fun e=>(TR.o s e.symm).2.1 rfl)).trans (Ae.block s Xr);have HOWN8:=acA sV;have HAT8:=acA hat8;have HK8:acB (Keeps (fun b=>(Value.slice a n c).ownBlock=some b) w5 w8):=(iB Ae).trans (Keeps.grown hg8) fun x _ hx=>hx;have hz8:w5.heap.size+1≤w8.heap.size:=by have:=hg8.size;simp at this;omega
  clear sV hat8 hg8;refine bK hK (HSC.o _ IG) fun hS=> ?_;clear hK K;refine au 17 hS ?_;refine au 18 hS ?_;refine bB 19 fun K hK=> ?_;go_simp;refine kX hK ?_;clear hS hK K;have GZ:(w8.setCell ⟨s,0,none⟩ (.slice A8 (n+1) c8)).heap[s]? =some (.cells #[.slice A8 (n+1) c8,.int .i64 nx,.slice a4 n4 c4] 109 (0,0)):=aI (IG.trans dB.o);have Zf:acB (Keeps (fun b=>b=s) w8 (w8.setCell ⟨s,0,none⟩ (.slice A8 (n+1) c8))):=acA (Keeps.f_ w8 ⟨s,0,none⟩ (.slice A8 (n+1) c8));have hz9:(w8.setCell ⟨s,0,none⟩ (.slice A8 (n+1) c8)).heap.size=w8.heap.size:=size_set _ _ _;have HZ9:=acA hz9;clear hz9;generalize w8.setCell ⟨s,0,none⟩ (.slice A8 (n+1) c8)=w9 at*;have q1:w9.cell? ⟨s,1,none⟩=some (.int .i64 nx):=by simp[World.cell?,GZ]
  have qf:w9.frozen? ⟨s,1,none⟩=false:=by simp[World.frozen?,GZ]
  have e1:IntKind.i64.wrap (nx+1)=nx+1:=aak _ (by omega);have e2:IntKind.i64.wrap (nx+1-1)=nx:=by rw[show nx+1-1=nx by omega];exact aak _ (by omega)
  have jJ:(w9.setCell ⟨s,1,none⟩ (.int .i64 (nx+1))).heap[s]? =some (.cells #[.slice A8 (n+1) c8,.int .i64 (nx+1),.slice a4 n4 c4] 109 (0,0)):=aI GZ;have q10:(w9.setCell ⟨s,1,none⟩ (.int .i64 (nx+1))).cell? ⟨s,1,none⟩=some (.int .i64 (nx+1)):=by simp[World.cell?,jJ]
  have n_:=acA jJ;clear IG GZ jJ Ae;go_wp2_with fail
  go_ret2
  have hlen:(nM (S.last++sv)).length=n4:=by simpa using mP.o.length
  have hK4:Keeps (fun b=>b=s∨(Value.slice a n c).ownBlock=some b) w4 (w9.setCell ⟨s,1,none⟩ (.int .i64 (nx+1))):=by
   have k1:Keeps (fun b=>b=s∨(Value.slice a n c).ownBlock=some b) w4 w5:=HK45.o.mono fun x _ hx=>Or.inl hx;have k2:Keeps (fun b=>b=s∨(Value.slice a n c).ownBlock=some b) w5 w8:=HK8.o.mono fun x _ hx=>Or.inr hx;have k3:Keeps (fun b=>b=s∨(Value.slice a n c).ownBlock=some b) w8 w9:=Zf.o.mono fun x _ hx=>Or.inl hx;have k4:Keeps (fun b=>b=s∨(Value.slice a n c).ownBlock=some b) w9 (w9.setCell ⟨s,1,none⟩ (.int .i64 (nx+1))):=(Keeps.f_ w9 ⟨s,1,none⟩ _).mono fun x _ hx=>Or.inl hx;exact((k1.trans k2 fun x _ hx=>hx).trans k3 fun x _ hx=>hx).trans k4 fun x _ hx=>hx
  have hK0:Keeps (fun b=>b=s∨(Value.slice a n c).ownBlock=some b) w (w9.setCell ⟨s,1,none⟩ (.int .i64 (nx+1))):=(iB (HB1.o.trans (HB14.o.mono HB1.o.size))).trans hK4 fun x _ hx=>hx;have hat:(Value.slice A8 (n+1) c8).ownBlock=(Value.slice a n c).ownBlock∨(Value.slice A8 (n+1) c8).ownBlock=some (w5.heap.size+1):=by
   rcases HAT8.o with h9|h9
   ·exact .inl h9
   ·right;rw[h9];simp
  have hz:=JM.o;have hz10:(w9.setCell ⟨s,1,none⟩ (.int .i64 (nx+1))).heap.size=w8.heap.size:=(size_set _ _ _).trans HZ9.o;have hnv:∀b,b<w4.heap.size→o b=0→(Value.slice A8 (n+1) c8).ownBlock≠some b:=fun b hb h0 he=>by
   rcases hat with h9|h9
   ·rw[h9]at he;have:=(TR.o b he).1;exact hi (by rw[←this,h0])
   ·rw[h9]at he;cases he;omega
  have N7:∀b,w.heap.size≤b→o b=0:=fun b hb=>aaj fun h0=>by have:=(HM.o.new b h0).2;omega
  have hfp:∀b,o b=0→¬(b=s∨(Value.slice a n c).ownBlock=some b):=fun b h0 h=>by
   rcases h with h|h
   ·have:=Xq.o;rw[←h,h0]at this;exact hi this.symm
   ·have:=(TR.o b h).1;rw[h0]at this;exact hi this.symm
  refine⟨by rw[LX.o];rfl,?_⟩;rw[←TQ.o];obtain⟨g,D,mb,ib,nb,hA,hg,hD⟩:=zK.o;refine TN (x:=⟨S.next,nM (S.last++sv),bL T⟩) (v:= .slice a n c) (v8:= .slice A8 (n+1) c8) (a9:=a4) (c9:=c4) (q:=q) HM.o hi Xq.o h3 TR.o xI.o ?_ ?_ ?_ hK0 (by show(nM (S.last++sv)).length≤c4;omega) ?_ ⟨g,D,mb,ib,nb,hA.keeps hK4 fun b hb=>hfp b ?_,fun b hb=> ?_⟩ HTC.o
  ·have h9:=n_.o;rw[LX.o,←hlen]at h9;rw[LX.o];exact h9
  ·show World.ownsRow _ 0 _ 3 (.slice A8 (n+1) c8) (S.l.length+1) (vals++[.int .i64 S.next,.slice a4 (nM (S.last++sv)).length c4,ptr q]);rw[hlen,←LX.o,←HN.o];refine dJ HOWN8.o fun b hb hbw=> ?_;have hbs:b≠s:=fun e=>by
    rcases hat with h9|h9
    ·rw[h9]at hb;exact(TR.o b hb).2.1 e
    ·rw[h9]at hb;cases hb;omega
   exact(aV _ _ _ _ hbs).trans (Zf.o.block b hbw hbs)
  ·rcases hat with h9|h9
   ·exact .inl h9
   ·exact .inr ⟨_,h9,by omega⟩
  ·show ah _ _ a4 (nM (S.last++sv)).length ((nM (S.last++sv)).map bv);rw[hlen];have h45:w4.heap.size≤w5.heap.size:=by omega
   refine mP.o.move (by rw[hz10];omega) fun b hb hbw=>⟨⟨hb.1,by rw[hz10];omega,hnv b hb.2 (N7 b hb.1)⟩,?_⟩;have hn:=hfp b (N7 b hb.1);have hbs:b≠s:=fun e=>hn (.inl e);exact(hK4.block b hb.2 hn).trans (HWT5.o b hb.2 hbs).symm
  ·rcases hb with hb|hb
   ·exact hg b hb
   ·exact hD b hb
  ·have h0:o b=0:=by
    rcases hb with hb|hb
    ·exact hg b hb
    ·exact hD b hb
   refine⟨h0,hnv b ?_ h0⟩;rcases hb with hb|hb
   ·exact hA.low b hb
   ·exact hA.rX b hb
end
theorem PD(x0 x1 x2 x3 x4 x5 x6 x7:Value)(w:World):(Instr.index 55 (.agg #[x0,x1,x2,x3,x4,x5,x6,x7]) (.int .i64 0)).run Tryz.prog w= .ok x0 w:=by
 kernel_rfl
theorem PE(x0 x1 x2 x3 x4 x5 x6 x7:Value)(w:World):(Instr.index 55 (.agg #[x0,x1,x2,x3,x4,x5,x6,x7]) (.int .i64 1)).run Tryz.prog w= .ok x1 w:=by
 kernel_rfl
theorem PG(x0 x1 x2 x3 x4 x5 x6 x7:Value)(w:World):(Instr.index 55 (.agg #[x0,x1,x2,x3,x4,x5,x6,x7]) (.int .i64 2)).run Tryz.prog w= .ok x2 w:=by
 kernel_rfl
theorem PI(x0 x1 x2 x3 x4 x5 x6 x7:Value)(w:World):(Instr.index 55 (.agg #[x0,x1,x2,x3,x4,x5,x6,x7]) (.int .i64 3)).run Tryz.prog w= .ok x3 w:=by
 kernel_rfl
theorem PK(x0 x1 x2 x3 x4 x5 x6 x7:Value)(w:World):(Instr.index 55 (.agg #[x0,x1,x2,x3,x4,x5,x6,x7]) (.int .i64 4)).run Tryz.prog w= .ok x4 w:=by
 kernel_rfl
theorem PL(x0 x1 x2 x3 x4 x5 x6 x7:Value)(w:World):(Instr.index 55 (.agg #[x0,x1,x2,x3,x4,x5,x6,x7]) (.int .i64 5)).run Tryz.prog w= .ok x5 w:=by
 kernel_rfl
theorem PN(x0 x1 x2 x3 x4 x5 x6 x7:Value)(w:World):(Instr.index 55 (.agg #[x0,x1,x2,x3,x4,x5,x6,x7]) (.int .i64 6)).run Tryz.prog w= .ok x6 w:=by
 kernel_rfl
theorem PO(x0 x1 x2 x3 x4 x5 x6 x7:Value)(w:World):(Instr.index 55 (.agg #[x0,x1,x2,x3,x4,x5,x6,x7]) (.int .i64 7)).run Tryz.prog w= .ok x7 w:=by
 kernel_rfl
theorem JN(v:Nat→Value)(n:Nat)(hn:n<8)(w:World):(Instr.index 55 (.agg #[v 0,v 1,v 2,v 3,v 4,v 5,v 6,v 7]) (.int .i64 n)).run Tryz.prog w= .ok (v n) w:=by
 match n,hn with
 |0,_=>exact PD _ _ _ _ _ _ _ _ w
 |1,_=>exact PE _ _ _ _ _ _ _ _ w
 |2,_=>exact PG _ _ _ _ _ _ _ _ w
 |3,_=>exact PI _ _ _ _ _ _ _ _ w
 |4,_=>exact PK _ _ _ _ _ _ _ _ w
 |5,_=>exact PL _ _ _ _ _ _ _ _ w
 |6,_=>exact PN _ _ _ _ _ _ _ _ w
 |7,_=>exact PO _ _ _ _ _ _ _ _ w
section
variable{W w:World}{o:Mark}{i j k p:Nat}{M:dS}
theorem JO(h:bZ o i j k w p M):Calls Tryz.prog 138 #[ptr p] w fun e w'=>∃n,e= .returned (.int .i64 n)∧JG M n∧w'=w:=by
 obtain⟨t,s,v,h1,h2,h3,h4⟩:=h.at_;obtain⟨c0,c1,c2,c3,c4⟩:=gF h1;have e3:=c3 0 (by omega);have e4:=c3 1 (by omega);have e5:=c3 2 (by omega);have e6:=c3 3 (by omega);have e7:=c3 4 (by omega);have e8:=c3 5 (by omega);have e9:=c3 6 (by omega);have e10:=c3 7 (by omega);have H4:=acA h4;clear h h1 h2 h3 h4 c3 c4;go_enter Tryz.func138,Tryz.ntmps138;go_wp2_with fail
 go_loopw [9] (fun iv wr=>∃n:Nat,n≤8∧iv= .int .i64 n∧(∀m,m<n→M.fds m≠none)∧wr=w) (fun iv _=>8-(intOf iv).toNat)
 case atStart=>exact⟨0,by omega,rfl,fun m hm=>by omega,rfl⟩
 case round=>
  obtain⟨n,hn,rfl,hno,rfl⟩:=hrel;have zM:=acA hno;clear hno;by_cases lF:n<8
  ·have hd:decide ((n:Int)<8)=true:=by simp;omega
   have hix:=JN v n lF wr;have hf:=H4.o n lF;have i0:(0:Int)≤n:=by omega
   cases qz:M.fds n with
   |none=>
    rw[qz]at hf;have hv:v n= .pointer none:=hf;rw[hv]at hix;have Fe:=acA qz;clear hf hv qz;go_wp2_with fail;go_ret;exact⟨n,rfl,.inr ⟨n,lF,rfl,Fe.o,zM.o⟩,rfl⟩
   |some f=>
    rw[qz]at hf;obtain⟨q,fa,fc,hv,_⟩:=hf;rw[hv]at hix;have Fe:=acA qz;clear hv qz;go_wp2_with fail;go_roundw
    case rel=>
     refine⟨n+1,by omega,by go_num,fun m hm=> ?_,trivial⟩;by_cases hmn:m=n
     ·rw[hmn,Fe.o];simp
     ·exact zM.o m (by omega)
    case measure=>simp[intOf];omega
  ·obtain rfl:n=8:=by omega
   go_wp2_with fail;go_ret;exact⟨-1,rfl,.inl ⟨rfl,zM.o⟩,rfl⟩
end
def Bn(S:rE)(id:Int):Option jC:=S.l.find? fun x=>decide (x.id=id)
theorem zh.none_{S:rE}{id:Int}(h:∀x∈S.l,x.id≠id):Bn S id=none:=by
 unfold Bn;rw[abC];intro x hx;simpa using h x hx
theorem zh.some_:∀{l:List jC} {id:Int} {k:Nat} {x:jC},l[k]? =some x→x.id=id→(∀x'∈l.take k,x'.id≠id)→l.find? (fun x=>decide (x.id=id))=some x
 |[],_,k,x,h,_,_=>by simp at h
 |y::r,id,0,x,h,h1,_=>by
  have e:y=x:=by simpa using h
  subst e;simp[h1]
 |y::r,id,k+1,x,h,h1,h2=>by
  have hy:y.id≠id:=h2 y (by simp);rw[List.find?_cons_of_neg (by simpa using hy)];exact zh.some_ (k:=k) (by simpa using h) h1 fun x' hx'=>h2 x' (by simp[hx'])
def GetRet(o:Mark)(w:World)(S:rE)(id:Int)(e:Ending)(w':World):Prop:=
 Below w.heap.size w w'∧((Bn S id=none∧e= .returned (.tuple #[.pointer none,.bool false]))∨∃x q,Bn S id=some x∧e= .returned (.tuple #[ptr q,.bool true])∧fO o 0 w' q x.t∧dG x.t)
section
variable{W w:World}{o:Mark}{i s:Nat}{S:rE}
theorem Xt(hS:iF o i w s S)(hM:Marks W o w)(uW:S.l.length≤1000)(id:Int):Calls Tryz.prog 189 #[ptr s,.int .i64 id] w (GetRet o w S id):=by
 have HM:=acA hM;obtain⟨v,la,lc,vals,h1,h2,h3,h4,h5,h6,h7,h8⟩:=hS.at_;obtain⟨a,c,rfl,hcap⟩:=dI h4;obtain⟨-,-,hrow⟩:=ah.qd h4 (by unfold maxLen;omega);have HF:=acA (JF hS id uW);have HH:=acA h1;have xI:=acA h6;have iL:=acA hrow;obtain⟨n,hn⟩:∃n,n=S.l.length:=⟨_,rfl⟩;have HN:=acA hn;rw[←hn]at hcap uW;clear hS hM h1 h2 h4 h5 h6 h7 h8 hrow hn;go_enter Tryz.func189,Tryz.ntmps189;go_wp2_with fail;refine HF.o.mono ?_;rintro e w1 ⟨v,rfl,hf,hb1⟩;have HB1:=acA hb1;clear hb1;rcases hf with⟨rfl,hno⟩|⟨k,x,rfl,hx,hid,hno⟩
 ·have zM:=acA hno;clear hno;go_wp2_with fail
  go_ret2
  exact⟨HB1.o,.inl ⟨zh.none_ zM.o,rfl⟩⟩
 ·have hkn:k<n:=by rw[HN.o];exact(aae.1 hx).1
  have HRW:=iL.o;rw[←HN.o]at HRW;obtain⟨g,off,rfl,hgw,_,hcell⟩:=HRW.at_ (by omega);obtain⟨ha,hcp,q,e0,e1,e2,e3,e4,e5,e6⟩:=xI.o.at_ hx;have d2:w1.cell? ⟨g,off+k*3+2,none⟩=some (ptr q):=(HB1.o.cell (p:=⟨g,off+k*3+2,none⟩) hgw.2).trans ((hcell (k*3+2) (by omega)).trans e2);have hbS:=HB1.o.block s h3;have c0:w1.cell? ⟨s,0,none⟩=some (.slice (some ⟨g,off,none⟩) n c):=by
   have:=hbS.trans HH.o;rw[HN.o];simp[World.cell?,this]
  have pz:=acA (HM.o.step (I:=fun _=>False) (fun e=>e) (Step.grow HM.o HB1.o));have Rq:=acA (JE (e5.grow HB1.o) pz.o e6);have Zg:=acA (zh.some_ hx hid hno);have HE6:=acA e6;have hneg:¬((k:Int)<0):=by omega
  have i0:(0:Int)≤k:=by omega
  have i1:(k:Int)<n:=by omega
  clear hx hid hno hcell e0 e1 e2 e3 e4 e5 e6 HRW hbS;go_wp2_with fail;refine Rq.o.mono ?_;rintro e w2 ⟨q2,rfl,OW,hb2⟩;have HT2:=acA OW;have HB2:=acA (HB1.o.trans (hb2.mono HB1.o.size));clear OW hb2;go_wp2_with fail
  go_ret2
  exact⟨HB2.o,.inr ⟨x,q2,Zg.o,rfl,HT2.o,HE6.o⟩⟩
end
def jo(w:World)(g:Nat)(cs:Array Value)(t:TypeId)(w':World):Prop:=w'.heap[g]? =some (.cells cs t (0,0))∧Keeps (fun b=>b=g) w w'∧w'.heap.size=w.heap.size
theorem Dp(w:World)(g:Nat)(old cs:Array Value)(t:TypeId)(hg:w.heap[g]? =some (.cells old t (0,0))):jo w g cs t (w.setRow g cs):=by
 have hz:(w.setRow g cs).heap.size=w.heap.size:=by simp[World.setRow]
 exact⟨setRow_heap w g old cs t _ hg,⟨rfl,rfl,rfl,by omega,fun b _ hb=>setRow_other w g b cs hb⟩,hz⟩
theorem ak{P:Program}{ops:Array Oper}{rest:List Oper}{o:Oper}{a:Act}{w:World}{Q:Exit→Act→World→Prop}(hgd:o.guard=none)(ty:TypeId)(x y:Operand)(ho:o.op= .store ty x y)
  (g:Nat)(cells:Array Value)(hx:a.eval x= .pointer (some ⟨g,0,none⟩))(hy:a.eval y= .agg cells)
  (old:Array Value)(hg:w.heap[g]? =some (.cells old ty (0,0)))(hi:(P.info? ty).map (·.size)=some cells.size)
  (hold:old.size=cells.size)(h1:cells.all (·.oneCell')=true)
  (h:∀w',jo w g cells ty w'→wpList P ops Q rest (a.put o.dst undef) w'):wpList P ops Q (o::rest) a w:=
 wpList_store_row hgd ty x y ho g cells hx hy ty old hg hi hold h1 (h _ (Dp w g old cells ty hg))
theorem jo.below{w0 w w':World}{g:Nat}{cs:Array Value}{t:TypeId}(h:jo w g cs t w')(hb:Below w0.heap.size w0 w)(hg:w0.heap.size≤g):Below w0.heap.size w0 w':=by
 obtain⟨_,h2,h3⟩:=h;exact⟨h2.os.trans hb.os,h2.tape.trans hb.tape,h2.output.trans hb.output,Nat.le_trans hb.size h2.size,fun b hb'=>(h2.block b (Pd hb' hb.size) (fun e:b=g=>by omega)).trans (hb.block b hb')⟩
theorem EM{P:Program}{fn:Func}{a b:Nat}{t:TypeId}{tmps:Array Value}{ad:Addr}{v:Value}{w:World}(h:fn.results= #[.cell a t,.tmp b])(ha:tmps.getD a undef= .pointer (some ad))(hl:(loadVar t ad).run P w= .ok v w):(results fn tmps).run P w= .ok (.tuple #[v,tmps.getD b undef]) w:=by
 have ha2:tmps[a]?.getD undef= .pointer (some ad):=by simpa using ha
 simp[results,h,asAddr,ha2,hl]
theorem zl:(Tryz.prog.info? 39).map (·.size)=some 6:=by kernel_rfl
def oV:Array Value:= #[.int .i64 0,.int .i64 0,.int .i64 0,.int .i64 0,.int .u64 0,.bool false]
theorem Dq{fn:Func}{sl b':Nat}{Q:Ending→World→Prop}{a:Act}{w:World}{b:Nat}{cs:Array Value}{z:Value}(hf:fn.results= #[.cell sl 39,.tmp b'])(hs:a.tmps.getD sl undef= .pointer (some ⟨b,0,none⟩))(hz:a.tmps.getD b' undef=z)(hd:a.defers=[])(hg:w.heap[b]? =some (.cells cs 39 (0,0)))(h6:cs.size=6)(hQ:Q (.returned (.tuple #[.agg cs,z])) w):
  bodyPost Tryz.prog fn Q .ret a w:=by
 subst hz;exact aa3 (v:= .tuple #[.agg cs,a.tmps.getD b' undef]) (EM hf hs (run_loadVar_row w b 39 39 _ (0,0) _ hg Tryz.underlying39 rfl (by rw[h6];exact zl))) hd hQ
structure jD where
 kind:Int
 path:List UInt8
 dD:List UInt8
 fd:Int
 at_:Int
 n:Int
 aA:Int
 snap:Int
 data:List UInt8
def opC(x:jD)(da:Option Addr)(dc:Nat):Array Value:= #[.int .i64 x.kind,.string (strOf x.path),.string (strOf x.dD),.int .i64 x.fd,.int .i64 x.at_,.int .i64 x.n,.int .u64 x.aA,.int .i64 x.snap,.slice da x.data.length dc]
structure lY(x:jD):Prop where
 wk:(Lit.int .i64 x.kind).wf=true
 wf:(Lit.int .i64 x.fd).wf=true
 wa:(Lit.int .i64 x.at_).wf=true
 wn:(Lit.int .i64 x.n).wf=true
 ws:(Lit.int .i64 x.snap).wf=true
 wt:0≤x.aA∧x.aA≤18446744073709551615
 wp:x.path.length<4294967281
 wq:x.dD.length<4294967281
 wd:x.data.length≤1000000000
structure rZ where
 er:Int
 n:Int
 data:List UInt8
 names:List Nm
 node:Option (Int×bP)
def bR(z:Int):rZ:=⟨z,0,[],[],none⟩
def eu(r:rZ)(da la:Option Addr)(dc lc:Nat):Array Value:= #[.int .i64 r.er,.int .i64 r.n,.slice da r.data.length dc,.slice la r.names.length lc,
 .int .i64 (match r.node with|some q=>q.1|none=>0),.int .i64 (match r.node with|some q=>q.2.kind|none=>0),.int .i64 (match r.node with|some q=>q.2.links|none=>0),.int .i64 (match r.node with|some q=>(q.2.b.length:Int)|none=>0),.int .u64 (match r.node with|some q=>q.2.aA|none=>0),.bool (match r.node with|some q=>q.2.closed|none=>false)]
def oL(o:Mark)(w:World)(v:Value)(r:rZ):Prop:=
 ∃da la dc lc,v= .agg (eu r da la dc lc)∧r.data.length≤dc∧r.names.length≤lc∧ah (Free o w) w da r.data.length (r.data.map bv)∧aK (Free o w) w la r.names.length (r.names.map strOf)
theorem jO(S:Nat→Prop)(w:World):aK S w none 0 []:=⟨ah.nil _ _ _,fun v hv=>by cases hv⟩
theorem oL.no(o:Mark)(w:World)(z:Int):oL o w (mG z) (bR z):=
 ⟨none,none,0,0,rfl,Nat.le_refl _,Nat.le_refl _,ah.nil _ _ _,jO _ _⟩
theorem bI(r:rZ)(da la:Option Addr)(dc lc:Nat):(eu r da la dc lc).all (·.oneCell')=true:=by simp[eu,Value.oneCell']
theorem oL.no_(o:Mark)(w:World)(z:Int):oL o w (.agg (eu (bR z) none none 0 0)) (bR z):=
 ⟨none,none,0,0,rfl,Nat.le_refl _,Nat.le_refl _,ah.nil _ _ _,jO _ _⟩
theorem bH:(Tryz.prog.info? 41).map (·.size)=some 10:=by kernel_rfl
theorem bX{fn:Func}{sl:Nat}{Q:Ending→World→Prop}{a:Act}{w:World}{b:Nat}{r:rZ}{da la:Option Addr}{dc lc:Nat}(hf:fn.results= #[.cell sl 41])(hs:a.tmps.getD sl undef= .pointer (some ⟨b,0,none⟩))(hd:a.defers=[])(hg:w.heap[b]? =some (.cells (eu r da la dc lc) 41 (0,0)))(hQ:Q (.returned (.agg (eu r da la dc lc))) w):
  bodyPost Tryz.prog fn Q .ret a w:=
 aa3 (v:= .agg (eu r da la dc lc)) (qj hf hs (run_loadVar_row w b 41 41 _ (0,0) _ hg Tryz.underlying41 rfl bH)) hd hQ
theorem TS{S:Nat→Prop}(a:Option Addr)(l c:Nat)(bs:List UInt8)(A N:Nat)(w:World)(hl:l≤1000000000)(hlc:l≤c)(hA:A≤9223372036854775807)(hN:N≤9223372036854775807)(hr:ah S w a l (bs.map bv)):
  Calls Tryz.prog 146 #[.slice a l c,.int .i64 A,.int .i64 N] w (tV w ((bs.drop A).take N) 0):=by
 have z1:(0:Int)≤(A:Int):=by omega
 have z2:(0:Int)≤(N:Int):=by omega
 have z3:decide ((A:Int)<0)=false:=by simp
 have z4:decide ((N:Int)<0)=false:=by simp
 have HR:=acA hr;have hL:bs.length=l:=by have:=hr.length;simpa using this
 have HL:=acA hL;clear hr hL;by_cases hcap:c=min A l
 ·subst hcap;go_enter abS,abH;go_wp2_with fail;refine(mV (S:=S) _ _ _ ((bs.drop A).take N) _ (by omega) (Fq _ A N HL.o (by omega) (by omega))).mono ?_;rintro e w1 ⟨a1,n1,c1,rfl,hn1,hr1,hb1⟩;have HR1:=acA hr1;have HB1:=acA hb1;clear hr1 hb1;go_wp2_with fail
  go_ret2
  exact⟨a1,n1,c1,rfl,hn1,HR1.o,HB1.o⟩
 ·cases a with
  |none=>
   go_enter abS,abH;go_wp2_with fail;refine(mV (S:=S) _ _ _ ((bs.drop A).take N) _ (by omega) (Fp A N HR.o (by omega))).mono ?_;rintro e w1 ⟨a1,n1,c1,rfl,hn1,hr1,hb1⟩;have HR1:=acA hr1;have HB1:=acA hb1;clear hr1 hb1;go_wp2_with fail
   go_ret2
   exact⟨a1,n1,c1,rfl,hn1,HR1.o,HB1.o⟩
  |some ad=>
   go_enter abS,abH;go_wp2_with fail;refine(mV (S:=S) _ _ _ ((bs.drop A).take N) _ (by omega) (Fj A N HR.o (by omega) (by omega))).mono ?_;rintro e w1 ⟨a1,n1,c1,rfl,hn1,hr1,hb1⟩;have HR1:=acA hr1;have HB1:=acA hb1;clear hr1 hb1;go_wp2_with fail
   go_ret2
   exact⟨a1,n1,c1,rfl,hn1,HR1.o,HB1.o⟩
theorem PS{S:Nat→Prop}(a:Option Addr)(l c:Nat)(bs:List UInt8)(at_ n:Int)(w:World)(hl:l≤1000000000)(hlc:l≤c)(hA:(Lit.int .i64 at_).wf=true)(hN:(Lit.int .i64 n).wf=true)(hr:ah S w a l (bs.map bv)):
  Calls Tryz.prog 146 #[.slice a l c,.int .i64 at_,.int .i64 n] w (tV w (kU bs at_ n) (oP at_ n)):=by
 simp only[Lit.wf,IntKind.min,IntKind.max,IntKind.signed,IntKind.bits,aaQ,aal]at hA hN;by_cases h:at_<0∨n<0
 ·unfold kU oP;rw[if_pos h,if_pos h];exact Jg a l c at_ n w h
 ·unfold kU oP;rw[if_neg h,if_neg h];have:=TS (S:=S) a l c bs at_.toNat n.toNat w hl hlc (by simp at hA;omega) (by simp at hN;omega) hr;rw[show((at_.toNat:Nat):Int)=at_ by omega,show((n.toNat:Nat):Int)=n by omega]at this;exact this
def pQ(M:dS)(x:jD):rZ:=match jV M x.fd false with
 |none=>bR 26
 |some f=>⟨oP x.at_ x.n,(kU f.b x.at_ x.n).length,kU f.b x.at_ x.n,[],none⟩
def xZ(o:Mark)(r:rZ)(e:Ending)(w':World):Prop:=∃v,e= .returned v∧oL o w' v r
section
variable{W w:World}{o:Mark}{i j k p:Nat}{M:dS}
theorem PU(h:bZ o i j k w p M)(hM:Marks W o w)(x:jD)(hx:lY x)(hb:∀n f,M.fds n=some f→f.b.length≤1000000000)(da:Option Addr)(dc:Nat):
  Calls Tryz.prog 74 #[ptr p,.agg (opC x da dc)] w fun e w'=>xZ o (pQ M x) e w'∧Below w.heap.size w w':=by
 have HM:=acA hM;have HW:acB (∀w' b,Below w.heap.size w w'→Calls Tryz.prog 145 #[ptr p,.int .i64 x.fd,.bool b] w' fun e w''=>w''=w'∧JH o w' M x.fd b e):=fun w' b hb=>GN (h.grow hM hb) x.fd b;have HX:=acA hx;have HB:=acA hb;clear h hM hx hb;unfold opC;go_enter Tryz.func74,Tryz.ntmps74;go_wp2_with fail;obtain⟨w2,hw2⟩:∃w2,w2=(w.alloc (.cells (opC x da dc) 30)).alloc (.cells (eu (bR 0) none none 0 0) 41):=⟨_,rfl⟩;have hb2:Below w.heap.size w w2:=by rw[hw2];exact(wall w _).trans ((wall _ _).mono (by simp))
 have Bo:acB (Calls Tryz.prog 145 #[ptr p,.int .i64 x.fd,.bool false] ((w.alloc (.cells (opC x da dc) 30)).alloc (.cells (eu (bR 0) none none 0 0) 41)) fun e w''=>w''=w2∧JH o w2 M x.fd false e):=by rw[←hw2];exact HW.o w2 false hb2
 unfold opC eu bR at Bo;dsimp only[List.length_nil]at Bo;have hop:w2.heap[w.heap.size]? =some (.cells (opC x da dc) 30 (0,0)):=by
  rw[hw2];exact((wall _ _).block _ (by simp)).trans (MapKept.heap_alloc w _).1
 have hre:w2.heap[w.heap.size+1]? =some (.cells (eu (bR 0) none none 0 0) 41 (0,0)):=by
  rw[hw2];have:=(MapKept.heap_alloc (w.alloc (.cells (opC x da dc) 30)) (.cells (eu (bR 0) none none 0 0) 41)).1;rw[aad]at this;exact this
 refine Bo.o.mono ?_;rintro e w3 ⟨rfl,qz⟩;have uX:=acA hop;have sU:=acA hre;have HB2:=acA hb2;clear hop hre hb2 hw2 Bo;rcases qz with⟨hg,rfl⟩|⟨f,fv,hg,rfl,Zh⟩
 ·have hr:pQ M x=bR 26:=by unfold pQ;rw[hg]
  have HRR:=acA hr;clear hg hr;go_wp2_with fail;refine(iZ _ _).mono ?_;rintro e w4 ⟨rfl,hb4⟩;unfold mG;have dY:=acA (HB2.o.trans (hb4.mono HB2.o.size));have HR4:=acA ((hb4.block _ (iA.1 sU.o).1).trans sU.o);go_wp2_with (refine ak (by rfl) 41 _ _ (by rfl) (w.heap.size+1) (eu (bR 26) none none 0 0) (by rfl) (by rfl) _ HR4.o bH rfl (bI _ _ _ _ _) ?_;intro w5 hs5;have dB:=acA hs5;clear hs5);refine bX rfl rfl rfl dB.o.1 ⟨⟨_,rfl,?_⟩,dB.o.below dY.o (by omega)⟩;rw[HRR.o];exact oL.no_ _ _ _
 ·have hr:pQ M x=⟨oP x.at_ x.n,(kU f.b x.at_ x.n).length,kU f.b x.at_ x.n,[],none⟩:=by unfold pQ;rw[hg]
  have HRR:=acA hr;have hfb:f.b.length≤1000000000:=by
   unfold jV at hg;split at hg
   ·split at hg
    ·split at hg
     ·cases hg;exact HB.o _ _ (by assumption)
     ·cases hg
    ·cases hg
   ·cases hg
  obtain⟨q,fa,fc,rfl,hq0,hq1,hq2,hq3,hq4⟩:=Zh;have Rw:=acA hq2;have HPA:=acA (PS fa f.b.length fc f.b x.at_ x.n w3.drew hfb hq3 HX.o.wa HX.o.wn (hq4.below acD.drew acC));have HK:acB (∀w':World,Below w3.heap.size w3 w'→w'.cell? ⟨q,2,none⟩=some (.slice fa f.b.length fc)∧w'.cell? ⟨w.heap.size,4,none⟩=some (.int .i64 x.at_)∧w'.cell? ⟨w.heap.size,5,none⟩=some (.int .i64 x.n)):=fun w' hb=>by
   have h1:=(hb.block q hq1).trans Rw.o;have h2:=(hb.block _ (iA.1 uX.o).1).trans uX.o;refine⟨?_,?_,?_⟩<;>simp[World.cell?,h1,h2,opC]
  clear hg hr hq0 hq2 hq3 hq4 hfb;obtain⟨pb,hpb⟩:∃pb,pb=kU f.b x.at_ x.n:=⟨_,rfl⟩;obtain⟨pe,hpe⟩:∃pe,pe=oP x.at_ x.n:=⟨_,rfl⟩;rw[←hpb,←hpe]at HPA;rw[←hpb,←hpe]at HRR;clear hpb hpe;go_wp2_with fail;refine yG ((fun w'=>w'.cell? ⟨q,2,none⟩=some (.slice fa f.b.length fc)∧w'.cell? ⟨w.heap.size,4,none⟩=some (.int .i64 x.at_)∧w'.cell? ⟨w.heap.size,5,none⟩=some (.int .i64 x.n))) ?_ fun hS=> ?_
  ·exact HK.o _ acD.drew
  refine aP 0 hS ?_;refine aP 1 hS ?_;refine aP 2 hS ?_;refine aP 3 hS ?_;refine aP 4 hS ?_;refine aP 5 hS ?_;refine aP 6 hS ?_;refine aP 7 hS ?_;refine qh 8 fun K hK=> ?_;go_simp;refine HPA.o.mono ?_;rintro e w4 ⟨a4,n4,c4,rfl,hn4,hr4,hb4⟩;have hl4:pb.length=n4:=by have:=hr4.length;simpa using this
  subst hl4;have Xu:Below w3.heap.size w3 w4:=acD.drew.trans hb4;have dY:=acA (HB2.o.trans (Xu.mono HB2.o.size));have HB43:=acA Xu;have HR4:=acA ((Xu.block _ (iA.1 sU.o).1).trans sU.o);have Z8:=acA hn4;have iL:=acA hr4;clear hn4 hr4 hb4 Xu;go_wp2_with fail;refine pW hK (HK.o _ HB43.o) fun hS=> ?_;clear hK K;refine aP 9 hS ?_;refine aP 10 hS ?_;refine aP 11 hS ?_;refine aP 12 hS ?_;refine aP 13 hS ?_;refine xW ?_;clear hS;go_wp2_with (refine ak (by rfl) 41 _ _ (by rfl) (w.heap.size+1) (eu ⟨pe,pb.length,pb,[],none⟩ a4 none c4 0) (by rfl) (by rfl) _ HR4.o bH rfl (bI _ _ _ _ _) ?_;intro w5 hs5;have dB:=acA hs5;clear hs5);refine bX rfl rfl rfl dB.o.1 ⟨⟨_,rfl,?_⟩,dB.o.below dY.o (by omega)⟩;rw[HRR.o];have hs3:=HB2.o.size;have hlt:=(iA.1 sU.o).1;refine⟨a4,none,c4,0,rfl,Z8.o,Nat.le_refl _,?_,jO _ _⟩;refine iL.o.move (by rw[dB.o.2.2];exact Nat.le_refl _) fun b hb hbw=>⟨⟨aaj fun h0=> ?_,by rw[dB.o.2.2];exact hb.2⟩,dB.o.2.1.block b hbw (fun e:b=w.heap.size+1=> ?_)⟩
  ·have:=(HM.o.new b h0).2;have h3:w3.heap.size≤b:=hb.1;omega
  ·have h3:w3.heap.size≤b:=hb.1;omega
end
structure Mk(i j k l:Nat):Prop where
 ne:i≠0∧j≠0∧k≠0∧l≠0∧i≠j∧i≠k∧i≠l∧j≠k∧j≠l∧k≠l
theorem jo.step{o:Mark}{l:Nat}{w4 w5:World}{g:Nat}{cs:Array Value}{t:TypeId}{W:World}(hM:Marks W o w4)(hs:jo w4 g cs t w5)(hg:o g=l):Step o (fun m=>m=l) w4 o w5:=by
 obtain⟨_,h2,h3⟩:=hs;refine⟨fun _ _=>rfl,fun b hb hn=>absurd (hM.new b hn).2 (by omega),h2.mono fun x _ (hx:x=g)=>by rw[hx];exact hg⟩
section
variable{W w:World}{o:Mark}{i j k l p:Nat}{M:dS}
theorem bZ.tree{o':Mark}{w':World}{t s:Nat}{v:Nat→Value}{T':aL}(hk:Mk i j k l)(h1:w.heap[p]? =some (.cells (Ew t s M.now v) 57 (0,0)))(h2:iF o i w s M.s)(h4:∀n,n<8→zi o w (v n) (M.fds n))(hown:o p=k)(hlow:p<w.heap.size)(hs:Step o (fun m=>m=j) w o' w')(hT:fO o' j w' t T'):bZ o' i j k w' p {M with t:=T'}:=by
 obtain⟨n1,n2,n3,n4,n5,n6,n7,n8,n9,n10⟩:=hk.ne;have h0:¬(fun m=>m=j) 0:=fun e=>n2 e.symm;exact⟨⟨t,s,v,(hs.block hlow (by rw[hown];exact fun e=>n8 e.symm)).trans h1,h2.step h0 n5 hs,hT,fun n hn=>(h4 n hn).step h0 hs⟩,(hs.old p hlow).trans hown,Pd hlow hs.keep.size⟩
def FL(o:Mark)(i j k l:Nat)(w:World)(p:Nat)(q:rZ×dS)(e:Ending)(w':World):Prop:=
 ∃o',xZ o' q.1 e w'∧Step o (fun m=>m=i∨m=j∨m=k∨m=l) w o' w'∧bZ o' i j k w' p q.2
def jA(M:dS)(x:jD):rZ×dS:=match jV M x.fd true with
 |none=>(bR 26,M)
 |some f=>if 600<x.data.length then(bR 3,M)else
  (if (dw M.t f.id x.data).1≠0 then bR (dw M.t f.id x.data).1 else⟨0,x.data.length,[],[],none⟩,{M with t:=(dw M.t f.id x.data).2})
theorem Me{S:Nat→Prop}(hS:bZ o i j k w p M)(hM:Marks W o w)(hk:Mk i j k l)(hok:dG M.t)(x:jD)(hx:lY x)(hfi:∀n f,M.fds n=some f→(Lit.int .i64 f.id).wf=true)(da:Option Addr)(dc:Nat)(hda:ah S w da x.data.length (x.data.map bv)):
  Calls Tryz.prog 75 #[ptr p,.agg (opC x da dc)] w (FL o i j k l w p (jA M x)):=by
 have HKK:=acA hk;have iM:=acA hok;have HX:=acA hx;have HM:=acA hM;have HS:=acA hS;have HFI:=acA hfi;have jE:=acA hda;clear hS hM hk hok hx hfi hda;unfold opC;go_enter Tryz.func75,Tryz.ntmps75;go_wp2_with fail;obtain⟨w2,hw2⟩:∃w2,w2=(w.alloc (.cells (opC x da dc) 30)).alloc (.cells (eu (bR 0) none none 0 0) 41):=⟨_,rfl⟩;have hb2:Below w.heap.size w w2:=by rw[hw2];exact(wall w _).trans ((wall _ _).mono (by simp))
 have hop:w2.heap[w.heap.size]? =some (.cells (opC x da dc) 30 (0,0)):=by
  rw[hw2];exact((wall _ _).block _ (by simp)).trans (MapKept.heap_alloc w _).1
 have hre:w2.heap[w.heap.size+1]? =some (.cells (eu (bR 0) none none 0 0) 41 (0,0)):=by
  rw[hw2];have:=(MapKept.heap_alloc (w.alloc (.cells (opC x da dc) 30)) (.cells (eu (bR 0) none none 0 0) 41)).1;rw[aad]at this;exact this
 obtain⟨n1,n2,n3,n4,n5,n6,n7,n8,n9,n10⟩:=HKK.o.ne;obtain⟨o1,hs1,hl1,hl2⟩:=gW HM.o l (fun b=>b=w.heap.size+1) (w':=w2) (fun b hb=>by subst hb;exact⟨by omega,(iA.1 hre).1⟩) hb2;have hS1:bZ o1 i j k w2 p M:=HS.o.step (fun e=>n4 e.symm) n7 n9 n10 hs1;have hM1:Marks W o1 w2:=HM.o.step (fun e=>n4 e.symm) hs1;have Bo:acB (Calls Tryz.prog 145 #[ptr p,.int .i64 x.fd,.bool true] ((w.alloc (.cells (opC x da dc) 30)).alloc (.cells (eu (bR 0) none none 0 0) 41)) fun e w''=>w''=w2∧JH o1 w2 M x.fd true e):=by rw[←hw2];exact acA (GN hS1 x.fd true)
 unfold opC eu bR at Bo;dsimp only[List.length_nil]at Bo;have uX:=acA hop;have sU:=acA hre;have HB2:=acA hb2;have jI:=acA hS1;have pz:=acA hM1;have zm:=acA (hl1 _ rfl);have Ww:acB (o1 w.heap.size=0):=acA ((hl2 w.heap.size (by omega)).trans (aaj fun h9=>by have:=(HM.o.new _ h9).2;omega));have w_:=acA hs1;clear hop hre hb2 hw2 hS1 hM1 hl1 hl2 hs1;refine Bo.o.mono ?_;rintro e w3 ⟨rfl,qz⟩;clear Bo;have nD:acB (∀(z:rZ) (w4 w5:World),Below w3.heap.size w3 w4→jo w4 (w.heap.size+1) (eu z none none 0 0) 41 w5→z.data=[]→z.names=[]→FL o i j k l w p (z,M) (.returned (.agg (eu z none none 0 0))) w5):=fun z w4 w5 hb hs hz1 hz2=>by
  have xC:=pz.o.step (I:=fun _=>False) (fun e=>e) (Step.grow pz.o hb);have hst:=hs.step xC zm.o;have oh:=(jI.o.grow pz.o hb).step (fun e=>n4 e.symm) n7 n9 n10 hst;refine⟨o1,⟨_,rfl,none,none,0,0,rfl,by rw[hz1];exact Nat.le_refl _,by rw[hz2];exact Nat.le_refl _,by rw[hz1];exact ah.nil _ _ _,by rw[hz2];exact jO _ _⟩,((w_.o.trans (Step.grow pz.o hb)).trans hst).mono fun m hm=> .inr (.inr (.inr hm)),oh⟩
 rcases qz with⟨hg,rfl⟩|⟨f,fv,hg,rfl,Zh⟩
 ·have hr:jA M x=(bR 26,M):=by unfold jA;rw[hg]
  have HRR:=acA hr;clear hg hr;go_wp2_with fail;refine(iZ _ _).mono ?_;rintro e w4 ⟨rfl,hb4⟩;unfold mG;have dY:=acA hb4;have HR4:=acA ((hb4.block _ (iA.1 sU.o).1).trans sU.o);clear hb4;go_wp2_with (refine ak (by rfl) 41 _ _ (by rfl) (w.heap.size+1) (eu (bR 26) none none 0 0) (by rfl) (by rfl) _ HR4.o bH rfl (bI _ _ _ _ _) ?_;intro w5 hs5;have dB:=acA hs5;clear hs5);exact bX rfl rfl rfl dB.o.1 (by rw[HRR.o];exact nD.o _ _ _ dY.o dB.o rfl rfl)
 ·by_cases Xv:600<x.data.length
  ·have hr:jA M x=(bR 3,M):=by unfold jA;rw[hg];simp only[if_pos Xv]
   have HRR:=acA hr;have hd:decide ((600:Int)<(x.data.length:Int))=true:=by simp;omega
   have c8:w3.cell? ⟨w.heap.size,8,none⟩=some (.slice da x.data.length dc):=by simp[World.cell?,uX.o,opC]
   clear hg hr Zh Xv;go_wp2_with fail;refine(iZ _ _).mono ?_;rintro e w4 ⟨rfl,hb4⟩;unfold mG;have dY:=acA hb4;have HR4:=acA ((hb4.block _ (iA.1 sU.o).1).trans sU.o);clear hb4;go_wp2_with (refine ak (by rfl) 41 _ _ (by rfl) (w.heap.size+1) (eu (bR 3) none none 0 0) (by rfl) (by rfl) _ HR4.o bH rfl (bI _ _ _ _ _) ?_;intro w5 hs5;have dB:=acA hs5;clear hs5);exact bX rfl rfl rfl dB.o.1 (by rw[HRR.o];exact nD.o _ _ _ dY.o dB.o rfl rfl)
  ·have hd:decide ((600:Int)<(x.data.length:Int))=false:=by simp;omega
   have hr:jA M x=(if (dw M.t f.id x.data).1≠0 then bR (dw M.t f.id x.data).1 else⟨0,x.data.length,[],[],none⟩,{M with t:=(dw M.t f.id x.data).2}):=by unfold jA;rw[hg];simp only[if_neg Xv]
   have HRR:=acA hr;have TT:(Lit.int .i64 f.id).wf=true:=by
    unfold jV at hg;split at hg
    ·split at hg
     ·split at hg
      ·cases hg;exact HFI.o _ _ (by assumption)
      ·cases hg
     ·cases hg
    ·cases hg
   obtain⟨q,fa,fc,rfl,hq0,hq1,hq2,hq3,hq4⟩:=Zh;obtain⟨t,s,v,h1,h2,h3,h4⟩:=(jI.o.grow pz.o acD.drew).at_;have h1':w3.heap[p]? =some (.cells (Ew t s M.now v) 57 (0,0)):=h1;obtain⟨z0,z1,z2,z3,z4⟩:=gF h1';have y1:w3.cell? ⟨q,1,none⟩=some (.int .i64 f.id):=by simp[World.cell?,hq2]
   have c8:w3.cell? ⟨w.heap.size,8,none⟩=some (.slice da x.data.length dc):=by simp[World.cell?,uX.o,opC]
   have hqd:w3.drew.heap[q]? =some (.cells #[.bool f.wr,.int .i64 f.id,.slice fa f.b.length fc] 186 (0,0)):=hq2;have hod:w3.drew.heap[w.heap.size]? =some (.cells (opC x da dc) 30 (0,0)):=uX.o;have tZ:=pz.o.step (I:=fun _=>False) (fun e=>e) (Step.grow pz.o acD.drew);have HAP:=acA (OX h3 tZ n2 iM.o f.id da x.data.length dc x.data TT (jE.o.below (HB2.o.trans acD.drew) acC) HX.o.wd);have HC:acB (∀w':World,w'.heap[w.heap.size]? =some (.cells (opC x da dc) 30 (0,0))→w'.heap[q]? =some (.cells #[.bool f.wr,.int .i64 f.id,.slice fa f.b.length fc] 186 (0,0))→w'.heap[p]? =some (.cells (Ew t s M.now v) 57 (0,0))→w'.cell? ⟨p,0,none⟩=some (ptr t)∧w'.cell? ⟨q,1,none⟩=some (.int .i64 f.id)∧w'.cell? ⟨w.heap.size,8,none⟩=some (.slice da x.data.length dc)):=fun w' e1 e2 e3=>by
    refine⟨?_,?_,?_⟩<;>simp[World.cell?,e1,e2,e3,opC,Ew]
   have HQ:=acA (And.intro hq0 (And.intro hq1 hqd));have PV:=acA h1;have HH2:=acA h2;have HH4:=acA h4;have Zi:=acA hod;have Zj:=acA tZ;have hsz:=HB2.o.size;have hgs:=(iA.1 sU.o).1;have HGS:=acA hgs;have hps:=jI.o.low;clear hg hr Xv hq0 hq2 hq3 hq4 h1 h1' h2 h3 h4 hqd hod tZ TT z0 z1 z2 z3 z4 y1;obtain⟨ae,hae⟩:∃ae,ae=(dw M.t f.id x.data).1:=⟨_,rfl⟩;rw[←hae]at HAP HRR;clear hae;go_wp2_with fail;refine yG ((fun w'=>w'.cell? ⟨p,0,none⟩=some (ptr t)∧w'.cell? ⟨q,1,none⟩=some (.int .i64 f.id)∧w'.cell? ⟨w.heap.size,8,none⟩=some (.slice da x.data.length dc))) ?_ fun hS=> ?_
   ·exact HC.o _ Zi.o HQ.o.2.2 PV.o
   refine aP 0 hS ?_;refine aP 1 hS ?_;refine aP 2 hS ?_;refine aP 3 hS ?_;refine aP 4 hS ?_;refine aP 5 hS ?_;refine aP 6 hS ?_;refine aP 7 hS ?_;refine aP 8 hS ?_;refine aP 9 hS ?_;refine qh 10 fun K hK=> ?_;go_simp;refine HAP.o.mono ?_;rintro e w4 ⟨rfl,o4,hs4,kV⟩;have Xw:¬(fun m=>m=j) 0:=fun e=>n2 e.symm;have hq4:=(hs4.block HQ.o.2.1 (by rw[HQ.o.1];exact Xw)).trans HQ.o.2.2;have t_:=(hs4.block hps (by rw[jI.o.own];exact fun e=>n8 e.symm)).trans PV.o;have hgo:=Ww.o;have uP:=(hs4.block (b:=w.heap.size) (Nat.lt_trans (Nat.lt_succ_self _) HGS.o) (by rw[hgo];exact Xw)).trans Zi.o;have hr4:=(hs4.block (b:=w.heap.size+1) HGS.o (by rw[zm.o];exact fun e=>n9 e.symm)).trans sU.o;have oh:=bZ.tree (M:=M) HKK.o PV.o HH2.o HH4.o jI.o.own hps hs4 kV;have xC:=Zj.o.step Xw hs4;have jk:=acA oh;have z_:=acA xC;have HS4S:=acA hs4;have HL4:=acA ((hs4.old _ HGS.o).trans zm.o);have HR4:=acA hr4;have Ez:=acA (HC.o _ uP hq4 t_);have c8':=(HC.o _ uP hq4 t_).2.2;clear hq4 t_ hgo uP hr4 oh xC hs4 kV;go_wp2_with fail;refine pW hK (Ez.o) fun hS=> ?_;clear hK K;refine aP 11 hS ?_;refine xW ?_;clear hS;have Zk:acB (∀(z:rZ) (w5 w6:World),Below w4.heap.size w4 w5→jo w5 (w.heap.size+1) (eu z none none 0 0) 41 w6→z.data=[]→z.names=[]→FL o i j k l w p (z,{M with t:=(dw M.t f.id x.data).2}) (.returned (.agg (eu z none none 0 0))) w6):=fun z w5 w6 hb hs hz1 hz2=>by
    have YZ:=z_.o.step (I:=fun _=>False) (fun e=>e) (Step.grow z_.o hb);have hst:=hs.step YZ HL4.o;have hS5:=(jk.o.grow z_.o hb).step (fun e=>n4 e.symm) n7 n9 n10 hst;have Mf:Step o1 (fun m=>m=i∨m=j∨m=k∨m=l) w3 o4 w6:=((Step.behind pz.o acD.drew (HS4S.o.mono fun m hm=> .inr (.inl hm))).trans (Step.grow z_.o hb)).trans (hst.mono fun m hm=> .inr (.inr (.inr hm)));refine⟨o4,⟨_,rfl,none,none,0,0,rfl,by rw[hz1];exact Nat.le_refl _,by rw[hz2];exact Nat.le_refl _,by rw[hz1];exact ah.nil _ _ _,by rw[hz2];exact jO _ _⟩,(w_.o.mono fun m hm=> .inr (.inr (.inr hm))).trans Mf,hS5⟩
   by_cases hz:ae=0
   ·have HZ:=acA hz;have hz2:(ae !=0)=false:=by simpa using hz
    clear hz;go_wp2_with (refine ak (by rfl) 41 _ _ (by rfl) (w.heap.size+1) (eu ⟨0,x.data.length,[],[],none⟩ none none 0 0) (by rfl) (by rfl) _ HR4.o bH rfl (bI _ _ _ _ _) ?_;intro w5 hs5;have dB:=acA hs5;clear hs5);exact bX rfl rfl rfl dB.o.1 (by rw[HRR.o,if_neg (fun h=>h HZ.o)];exact Zk.o _ _ _ acD dB.o rfl rfl)
   ·have HZ:=acA hz;have hz2:(ae !=0)=true:=by simpa using hz
    clear hz;go_wp2_with fail;refine(iZ _ _).mono ?_;rintro e w5 ⟨rfl,hb5⟩;unfold mG;have fH:=acA hb5;have mP:=acA ((hb5.block _ (iA.1 HR4.o).1).trans HR4.o);clear hb5;go_wp2_with ((refine ak (by rfl) 41 _ _ (by rfl) (w.heap.size+1) (eu (bR ae) none none 0 0) (by rfl) (by rfl) _ mP.o bH rfl (bI _ _ _ _ _) ?_);intro w6 hs6;have lg:=acA hs6;clear hs6);exact bX rfl rfl rfl lg.o.1 (by rw[HRR.o,if_pos HZ.o];exact Zk.o _ _ _ fH.o lg.o rfl rfl)
end
end Go.Proofs.YtjnhnlabpccgjaaGreatDoor
