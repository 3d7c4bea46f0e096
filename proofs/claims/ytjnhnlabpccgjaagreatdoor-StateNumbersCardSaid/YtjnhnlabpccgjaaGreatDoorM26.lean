/- package -/
import Derived.Test.YtjnhnlabpccgjaaGreatDoorM25
import Derived.Test.YtjnhnlabpccgjaaGreatDoorM15
import Derived.Test.YtjnhnlabpccgjaaGreatDoorM18
set_option maxRecDepth 100000
set_option maxHeartbeats 64000000
set_option linter.all false
namespace Go.Proofs.YtjnhnlabpccgjaaGreatDoor
open Go.ChangeShapes Go.WideShapes Go.ChangeAt Go.RowKit
theorem Dr{M:dS}{n:Int}{b:Bool}{f:EL}(h:jV M n b=some f):∃m:Nat,n=m∧m<8∧M.fds m=some f∧f.wr=b:=by
 unfold jV at h;split at h
 ·rename_i hn;split at h
  ·rename_i g hg;split at h
   ·rename_i hw;cases h;exact⟨n.toNat,by omega,by omega,hg,hw⟩
   ·cases h
  ·cases h
 ·cases h
def dS.put(M:dS)(n:Nat)(f:Option EL):dS:={M with fds:=fun m=>if m=n then f else M.fds m}
section
variable{W w:World}{o:Mark}{i j k l p:Nat}{M:dS}
theorem bZ.put(h:bZ o i j k w p M)(hM:Marks W o w)(hk:Mk i j k l)(n:Nat)(hn:n<8)(v:Value)(f:Option EL)(hf:zi o w v f):Step o (fun m=>m=k) w o (w.setCell ⟨p,3+n,none⟩ v)∧bZ o i j k (w.setCell ⟨p,3+n,none⟩ v) p (M.put n f):=by
 obtain⟨n1,n2,n3,n4,n5,n6,n7,n8,n9,n10⟩:=hk.ne;obtain⟨t,s,vv,h1,h2,h3,h4⟩:=h.at_;have hz:=size_set w ⟨p,3+n,none⟩ v;have hst:Step o (fun m=>m=k) w o (w.setCell ⟨p,3+n,none⟩ v):=⟨fun _ _=>rfl,fun b hb hn=>absurd (hM.new b hn).2 (by omega),(Keeps.f_ w ⟨p,3+n,none⟩ v).mono fun x _ hx=>by
  have hx:x=p:=hx;rw[hx];exact h.own⟩
 have h0:¬(fun m=>m=k) 0:=fun e=>n3 e.symm;refine⟨hst,⟨t,s,fun m=>if m=n then v else vv m,?_,h2.step h0 n6 hst,h3.step h0 n8 hst,fun m hm=> ?_⟩,h.own,by have:=h.low;omega⟩
 ·have:=aI (i:=3+n) (v:=v) h1;rw[st_put t s M.now vv n hn v]at this;exact this
 ·show zi o _ (if m=n then v else vv m) (if m=n then f else M.fds m);by_cases hmn:m=n
  ·rw[if_pos hmn,if_pos hmn];exact hf.step h0 hst
  ·rw[if_neg hmn,if_neg hmn];exact(h4 m hm).step h0 hst
def JQ(o:Mark)(i j k l:Nat)(w:World)(p:Nat)(q:Int×dS)(e:Ending)(w':World):Prop:=
 e= .returned (.int .i64 q.1)∧∃o',Step o (fun m=>m=i∨m=j∨m=k∨m=l) w o' w'∧bZ o' i j k w' p q.2
def jB(M:dS)(x:jD):Int×dS:=match jV M x.fd true with
 |some f=>if (eF M.t f.id x.aA).1≠0 then((eF M.t f.id x.aA).1,{M with t:=(eF M.t f.id x.aA).2})else(0,dS.put {M with t:=(eF M.t f.id x.aA).2} x.fd.toNat none)
 |none=>match jV M x.fd false with
  |none=>(26,M)
  |some _=>(0,M.put x.fd.toNat none)
theorem Mg(hS:bZ o i j k w p M)(hM:Marks W o w)(hk:Mk i j k l)(x:jD)(hx:lY x)(hfi:∀n f,M.fds n=some f→(Lit.int .i64 f.id).wf=true)(da:Option Addr)(dc:Nat):
  Calls Tryz.prog 76 #[ptr p,.agg (opC x da dc)] w (JQ o i j k l w p (jB M x)):=by
 have HKK:=acA hk;have HX:=acA hx;have HM:=acA hM;have HFI:=acA hfi;have hb1:Below w.heap.size w (w.alloc (.cells (opC x da dc) 30)):=wall w _;have hM1:=hM.step (I:=fun _=>False) (fun e=>e) (Step.grow hM hb1);have hS1:=hS.grow hM hb1;have hop:(w.alloc (.cells (opC x da dc) 30)).heap[w.heap.size]? =some (.cells (opC x da dc) 30 (0,0)):=(MapKept.heap_alloc w _).1;obtain⟨w1,hw1⟩:∃w1,w1=w.alloc (.cells (opC x da dc) 30):=⟨_,rfl⟩;have HF1:acB (Calls Tryz.prog 145 #[ptr p,.int .i64 x.fd,.bool true] (w.alloc (.cells (opC x da dc) 30)) fun e w''=>w''=w1∧JH o w1 M x.fd true e):=by rw[←hw1]at hS1⊢;exact acA (GN hS1 x.fd true)
 rw[←hw1]at hb1 hM1 hS1 hop;unfold opC at HF1;have uX:=acA hop;have HB1:=acA hb1;have jI:=acA hS1;have pz:=acA hM1;clear hS hM hk hx hfi hw1 hb1 hM1 hS1 hop;unfold opC;go_enter Tryz.func76,Tryz.ntmps76;go_wp2_with fail;refine HF1.o.mono ?_;rintro e w2 ⟨rfl,qz⟩;clear HF1;obtain⟨n1,n2,n3,n4,n5,n6,n7,n8,n9,n10⟩:=HKK.o.ne;have w_:acB (Step o (fun m=>m=i∨m=j∨m=k∨m=l) w o w2):=acA (Step.grow HM.o HB1.o);have c3:w2.cell? ⟨w.heap.size,3,none⟩=some (.int .i64 x.fd):=by simp[World.cell?,uX.o,opC]
 rcases qz with⟨hg,rfl⟩|⟨f,fv,hg,rfl,Zh⟩
 ·have HG:=acA hg;have HF2:=acA (GN jI.o x.fd false);clear hg;go_wp2_with fail;refine HF2.o.mono ?_;rintro e w3 ⟨rfl,hfd2⟩;rcases hfd2 with⟨hg2,rfl⟩|⟨f,fv,hg2,rfl,Zh⟩
  ·have hr:jB M x=(26,M):=by unfold jB;rw[HG.o,hg2]
   have HRR:=acA hr;clear hr hg2;go_wp2_with fail;go_ret;rw[HRR.o];exact⟨rfl,o,w_.o,jI.o⟩
  ·obtain⟨m,hm,Gw,hfm,hfw⟩:=Dr hg2;have hr:jB M x=(0,M.put x.fd.toNat none):=by unfold jB;rw[HG.o,hg2]
   rw[hm]at hr;have HRR:=acA hr;have Zj:=acA (pz.o.step (I:=fun _=>False) (fun e=>e) (Step.grow pz.o acD.drew));have qm:=acA ((jI.o.grow pz.o acD.drew).put Zj.o HKK.o m Gw (.pointer none) none rfl);obtain⟨t,s,v,h1,h2,h3,h4⟩:=jI.o.at_;obtain⟨z0,z1,z2,z3,z4⟩:=gF h1;have hzm:=z3 m Gw;have hzf:=z4 (3+m);rw[hm]at c3;have i0:(0:Int)≤m:=by omega
   have i1:(m:Int)<8:=by omega
   clear hr hg2 hm hfm hfw Zh h1 h2 h3 h4 z0 z1 z2 z3 z4;go_wp2_with fail;refine qA 6 ((fun w'=>w'.cell? ⟨w.heap.size,3,none⟩=some (.int .i64 m)∧w'.cell? ⟨p,3+m,none⟩=some (v m)∧w'.frozen? ⟨p,3+m,none⟩=false)) ?_ fun hS=> ?_
   ·exact⟨c3,hzm,hzf⟩
   refine au 0 hS ?_;refine au 1 hS ?_;refine au 2 hS ?_;refine au 3 hS ?_;refine au 4 hS ?_;refine au 5 hS ?_;refine bB 6 fun K hK=> ?_;go_simp;refine kX hK ?_;clear hS hK K;go_wp2_with fail;go_ret;rw[HRR.o];exact⟨rfl,o,((w_.o.trans (Step.grow pz.o acD.drew)).trans (qm.o.1.mono fun m hm=> .inr (.inr (.inl hm)))),qm.o.2⟩
 ·obtain⟨m,hm,Gw,hfm,hfw⟩:=Dr hg;have hr:jB M x=if (eF M.t f.id x.aA).1≠0 then((eF M.t f.id x.aA).1,{M with t:=(eF M.t f.id x.aA).2})else(0,dS.put {M with t:=(eF M.t f.id x.aA).2} x.fd.toNat none):=by unfold jB;rw[hg]
  rw[hm]at hr;have TT:=HFI.o _ _ hfm;obtain⟨q,fa,fc,rfl,hq0,hq1,hq2,hq3,hq4⟩:=Zh;obtain⟨t,s,v,h1,h2,h3,h4⟩:=(jI.o.grow pz.o acD.drew).at_;have hqd:w2.drew.heap[q]? =some (.cells #[.bool f.wr,.int .i64 f.id,.slice fa f.b.length fc] 186 (0,0)):=hq2;have hod:w2.drew.heap[w.heap.size]? =some (.cells (opC x da dc) 30 (0,0)):=uX.o;have tZ:=pz.o.step (I:=fun _=>False) (fun e=>e) (Step.grow pz.o acD.drew);have II:=acA (Xf h3 tZ n2 f.id x.aA TT HX.o.wt.1 HX.o.wt.2);have HC:acB (∀w':World,w'.heap[w.heap.size]? =some (.cells (opC x da dc) 30 (0,0))→w'.heap[q]? =some (.cells #[.bool f.wr,.int .i64 f.id,.slice fa f.b.length fc] 186 (0,0))→w'.heap[p]? =some (.cells (Ew t s M.now v) 57 (0,0))→w'.cell? ⟨p,0,none⟩=some (ptr t)∧w'.cell? ⟨q,1,none⟩=some (.int .i64 f.id)∧w'.cell? ⟨w.heap.size,6,none⟩=some (.int .u64 x.aA)):=fun w' e1 e2 e3=>by
   refine⟨?_,?_,?_⟩<;>simp[World.cell?,e1,e2,e3,opC,Ew]
  have HQ:=acA (And.intro hq0 (And.intro hq1 hqd));have PV:=acA h1;have HH2:=acA h2;have HH4:=acA h4;have Zi:=acA hod;have Zj:=acA tZ;have hps:=jI.o.low;have hos:=(iA.1 uX.o).1;have hgo:o w.heap.size=0:=aaj fun h9=>by have:=(HM.o.new _ h9).2;omega
  have Wm:=acA hgo;have HRR:=acA hr;have HMI:=acA hm;obtain⟨T2,OW⟩:∃T2,T2=(eF M.t f.id x.aA).2:=⟨_,rfl⟩;obtain⟨ae,hae⟩:∃ae,ae=(eF M.t f.id x.aA).1:=⟨_,rfl⟩;rw[←hae,←OW]at II HRR;have i0:(0:Int)≤m:=by omega
  have i1:(m:Int)<8:=by omega
  clear hg hr hm hfm hfw TT hq0 hq2 hq3 hq4 h1 h2 h3 h4 hqd hod tZ hae OW hgo;go_wp2_with fail;refine yG ((fun w'=>w'.cell? ⟨p,0,none⟩=some (ptr t)∧w'.cell? ⟨q,1,none⟩=some (.int .i64 f.id)∧w'.cell? ⟨w.heap.size,6,none⟩=some (.int .u64 x.aA))) ?_ fun hS=> ?_
  ·exact HC.o _ Zi.o HQ.o.2.2 PV.o
  refine aP 0 hS ?_;refine aP 1 hS ?_;refine aP 2 hS ?_;refine aP 3 hS ?_;refine aP 4 hS ?_;refine aP 5 hS ?_;refine aP 6 hS ?_;refine aP 7 hS ?_;refine aP 8 hS ?_;refine aP 9 hS ?_;refine qh 10 fun K hK=> ?_;go_simp;refine II.o.mono ?_;rintro e w4 ⟨rfl,o4,hs4,kV⟩;have Xw:¬(fun m=>m=j) 0:=fun e=>n2 e.symm;have hq4:=(hs4.block HQ.o.2.1 (by rw[HQ.o.1];exact Xw)).trans HQ.o.2.2;have t_:=(hs4.block hps (by rw[jI.o.own];exact fun e=>n8 e.symm)).trans PV.o;have uP:=(hs4.block (b:=w.heap.size) hos (by rw[Wm.o];exact Xw)).trans Zi.o;have oh:=bZ.tree (M:=M) HKK.o PV.o HH2.o HH4.o jI.o.own hps hs4 kV;have xC:=Zj.o.step Xw hs4;have jk:=acA oh;have z_:=acA xC;have JR:=acA (w_.o.trans (Step.behind pz.o acD.drew (hs4.mono (J:=fun m=>m=i∨m=j∨m=k∨m=l) fun m hm=> .inr (.inl hm))));have Ez:=acA (HC.o _ uP hq4 t_);have HMD4:=acA (xC.step (I:=fun _=>False) (fun e=>e) (Step.grow xC acD.drew));have qm:=acA ((oh.grow xC acD.drew).put HMD4.o HKK.o m Gw (.pointer none) none rfl);obtain⟨t',s',v',k1,k2,k3,k4⟩:=oh.at_;obtain⟨z0,z1,z2,z3,z4⟩:=gF k1;have hzm:=z3 m Gw;have hzf:=z4 (3+m);have c3':w4.cell? ⟨w.heap.size,3,none⟩=some (.int .i64 m):=by rw[←HMI.o];simp[World.cell?,uP,opC]
  clear hq4 t_ uP oh xC hs4 kV k1 k2 k3 k4 z0 z1 z2 z3 z4;go_wp2_with fail;refine pW hK (Ez.o) fun hS=> ?_;clear hK K;refine aP 11 hS ?_;refine xW ?_;clear hS c3;by_cases hz:ae=0
  ·have HZ:=acA hz;have hz2:(ae !=0)=false:=by simpa using hz
   clear hz;go_wp2_with fail;refine qA 6 ((fun w'=>w'.cell? ⟨w.heap.size,3,none⟩=some (.int .i64 m)∧w'.cell? ⟨p,3+m,none⟩=some (v' m)∧w'.frozen? ⟨p,3+m,none⟩=false)) ?_ fun hS=> ?_
   ·exact⟨c3',hzm,hzf⟩
   refine au 0 hS ?_;refine au 1 hS ?_;refine au 2 hS ?_;refine au 3 hS ?_;refine au 4 hS ?_;refine au 5 hS ?_;refine bB 6 fun K hK=> ?_;go_simp;refine kX hK ?_;clear hS hK K;go_wp2_with fail;go_ret;rw[HRR.o,if_neg (fun h=>h HZ.o)];exact⟨rfl,o4,((JR.o.trans (Step.grow z_.o acD.drew)).trans (qm.o.1.mono fun m hm=> .inr (.inr (.inl hm)))),qm.o.2⟩
  ·have HZ:=acA hz;have hz2:(ae !=0)=true:=by simpa using hz
   clear hz;go_wp2_with fail;go_ret;rw[HRR.o,if_pos HZ.o];exact⟨rfl,o4,JR.o,jk.o⟩
end
def nT(M:dS):Int:=match (List.range 8).find? (fun n=>(M.fds n).isNone)with|some n=>n|none=> -1
theorem JG.eq{M:dS}{v:Int}(h:JG M v):v=nT M:=by
 unfold nT;rcases h with⟨rfl,h⟩|⟨n,hn,rfl,h1,h2⟩
 ·have:(List.range 8).find? (fun n=>(M.fds n).isNone)=none:=by
   rw[abC];intro n hn;rw[ab6]at hn;have:=h n hn;cases hf:M.fds n with
   |none=>exact absurd hf this
   |some f=>simp
  rw[this]
 ·have:(List.range 8).find? (fun n=>(M.fds n).isNone)=some n:=by
   have e:List.range 8=List.range n++n::(List.range (8-(n+1))).map (· +(n+1)):=by
    rcases (show n=0∨n=1∨n=2∨n=3∨n=4∨n=5∨n=6∨n=7 by omega)with rfl|rfl|rfl|rfl|rfl|rfl|rfl|rfl<;>rfl
   rw[e,List.find?_append];have e1:(List.range n).find? (fun n=>(M.fds n).isNone)=none:=by
    rw[abC];intro m hm;rw[ab6]at hm;have:=h2 m hm;cases hf:M.fds m with
    |none=>exact absurd hf this
    |some f=>simp
   rw[e1,List.find?_cons_of_pos (by rw[h1];rfl)];rfl
  rw[this]
def jP(M:dS)(ls:List Nm):rZ×dS:=
 if nT M<0 then(bR 25,M)else
 if (b_ M.t ls 1).1.2≠0 then(bR (b_ M.t ls 1).1.2,{M with t:=(b_ M.t ls 1).2})else
 (⟨0,nT M,[],[],none⟩,dS.put {M with t:=(b_ M.t ls 1).2} (nT M).toNat (some ⟨true,(b_ M.t ls 1).1.1,[]⟩))
section
variable{W w:World}{o:Mark}{i j k l p:Nat}{M:dS}
theorem JU{S:Nat→Prop}(hS:bZ o i j k w p M)(hM:Marks W o w)(hk:Mk i j k l)(hok:dG M.t)(a:Option Addr)(n c:Nat)(ls:List Nm)(hls:aK S w a n (ls.map strOf))(hnc:n≤c)(lF:n≤1000000):
  Calls Tryz.prog 71 #[ptr p,.slice a n c] w (FL o i j k l w p (jP M ls)):=by
 have HKK:=acA hk;have iM:=acA hok;have HM:=acA hM;have HS:=acA hS;have K5:=acA hls;obtain⟨w2,hw2⟩:∃w2,w2=w.alloc (.cells (eu (bR 0) none none 0 0) 41):=⟨_,rfl⟩;have hb2:Below w.heap.size w w2:=by rw[hw2];exact wall w _
 have hre:w2.heap[w.heap.size]? =some (.cells (eu (bR 0) none none 0 0) 41 (0,0)):=by rw[hw2];exact(MapKept.heap_alloc w _).1
 obtain⟨n1,n2,n3,n4,n5,n6,n7,n8,n9,n10⟩:=hk.ne;obtain⟨o1,hs1,hl1,hl2⟩:=gW HM.o l (fun b=>b=w.heap.size) (w':=w2) (fun b hb=>by subst hb;exact⟨Nat.le_refl _,(iA.1 hre).1⟩) hb2;have hS1:bZ o1 i j k w2 p M:=HS.o.step (fun e=>n4 e.symm) n7 n9 n10 hs1;have hM1:Marks W o1 w2:=HM.o.step (fun e=>n4 e.symm) hs1;have Bo:acB (Calls Tryz.prog 138 #[ptr p] (w.alloc (.cells (eu (bR 0) none none 0 0) 41)) fun e w''=>∃v,e= .returned (.int .i64 v)∧JG M v∧w''=w2):=by rw[←hw2];exact acA (JO hS1)
 unfold eu bR at Bo;dsimp only[List.length_nil]at Bo;have sU:=acA hre;have HB2:=acA hb2;have jI:=acA hS1;have pz:=acA hM1;have zm:=acA (hl1 _ rfl);have w_:=acA hs1;clear hS hM hk hok hls hre hb2 hw2 hS1 hM1 hl1 hl2 hs1;go_enter Tryz.func71,Tryz.ntmps71;go_wp2_with fail;refine Bo.o.mono ?_;rintro e w3 ⟨v,rfl,hfr,rfl⟩;have hv:=hfr.eq;clear Bo;rcases hfr with⟨rfl,hfull⟩|⟨m,Gw,rfl,hfm,hfl⟩
 ·have hr:jP M ls=(bR 25,M):=by unfold jP;rw[←hv,if_pos (by omega)]
  have HRR:=acA hr;clear hr hv hfull;go_wp2_with fail;refine(iZ _ _).mono ?_;rintro e w4 ⟨rfl,hb4⟩;unfold mG;have dY:=acA hb4;have HR4:=acA ((hb4.block _ (iA.1 sU.o).1).trans sU.o);clear hb4;go_wp2_with (refine ak (by rfl) 41 _ _ (by rfl) w.heap.size (eu (bR 25) none none 0 0) (by rfl) (by rfl) _ HR4.o bH rfl (bI _ _ _ _ _) ?_;intro w5 hs5;have dB:=acA hs5;clear hs5);refine bX rfl rfl rfl dB.o.1 ?_;rw[HRR.o];have xC:=pz.o.step (I:=fun _=>False) (fun e=>e) (Step.grow pz.o dY.o);have hst:=dB.o.step xC zm.o;exact⟨o1,⟨_,rfl,oL.no_ _ _ _⟩,((w_.o.trans (Step.grow pz.o dY.o)).trans hst).mono fun m hm=> .inr (.inr (.inr hm)),(jI.o.grow pz.o dY.o).step (fun e=>n4 e.symm) n7 n9 n10 hst⟩
 ·have hneg:¬((m:Int)<0):=by omega
  have hdn:decide ((m:Int)<0)=false:=by simp
  obtain⟨t,s,vv,h1,h2,h3,h4⟩:=jI.o.at_;obtain⟨z0,z1,z2,z3,z4⟩:=gF h1;have TU:=acA (NH h3 pz.o n2 iM.o a n c ls 1 (K5.o.below HB2.o acC) hnc lF);have hr:jP M ls=if (b_ M.t ls 1).1.2≠0 then(bR (b_ M.t ls 1).1.2,{M with t:=(b_ M.t ls 1).2})else(⟨0,m,[],[],none⟩,dS.put {M with t:=(b_ M.t ls 1).2} m (some ⟨true,(b_ M.t ls 1).1.1,[]⟩)):=by
   unfold jP;rw[←hv,if_neg hneg];rfl
  have HRR:=acA hr;obtain⟨T2,OW⟩:∃T2,T2=(b_ M.t ls 1).2:=⟨_,rfl⟩;obtain⟨ae,hae⟩:∃ae,ae=(b_ M.t ls 1).1.2:=⟨_,rfl⟩;obtain⟨ai,hai⟩:∃ai,ai=(b_ M.t ls 1).1.1:=⟨_,rfl⟩;rw[←hae,←OW,←hai]at TU HRR;have PV:=acA h1;have HH2:=acA h2;have HH4:=acA h4;have hps:=jI.o.low;have hgs:=(iA.1 sU.o).1;have HGS:=acA hgs;clear hr hv hfm hfl OW hae hai h1 h2 h3 h4 z1 z2 z3 z4;go_wp2_with fail;refine TU.o.mono ?_;rintro e w4 ⟨rfl,o4,hs4,kV⟩;have Xw:¬(fun m=>m=j) 0:=fun e=>n2 e.symm;have hr4:=(hs4.block (b:=w.heap.size) HGS.o (by rw[zm.o];exact fun e=>n9 e.symm)).trans sU.o;have oh:=bZ.tree (M:=M) HKK.o PV.o HH2.o HH4.o jI.o.own hps hs4 kV;have xC:=pz.o.step Xw hs4;have jk:=acA oh;have z_:=acA xC;have HL4:=acA ((hs4.old _ HGS.o).trans zm.o);have HR4:=acA hr4;have JR:=acA ((w_.o.mono (J:=fun m=>m=i∨m=j∨m=k∨m=l) fun m hm=> .inr (.inr (.inr hm))).trans (hs4.mono fun m hm=> .inr (.inl hm)));by_cases hz:ae=0
  ·have HZ:=acA hz;have hz2:(ae !=0)=false:=by simpa using hz
   clear hz hr4 xC hs4 kV z0 hneg hdn;obtain⟨t',s',v',k1,k2,k3,k4⟩:=oh.at_;have EO:Below w4.heap.size w4 (w4.alloc (.cells #[.bool true,.int .i64 ai,.slice none 0 0] 186)):=wall w4 _;have HM5:=acA (z_.o.step (I:=fun _=>False) (fun e=>e) (Step.grow z_.o EO));have hS5:=jk.o.grow z_.o EO;have hfree:o4 w4.heap.size=0:=aaj fun h9=>by have:=(z_.o.new _ h9).2;omega
   have qm:=acA (hS5.put HM5.o HKK.o m Gw (ptr w4.heap.size) (some ⟨true,ai,[]⟩) ⟨w4.heap.size,none,0,rfl,hfree,by simp,(MapKept.heap_alloc w4 _).1,Nat.le_refl _,ah.nil _ _ _⟩);have k1':=(EO.block p jk.o.low).trans k1;obtain⟨y0,y1,y2,y3,y4⟩:=gF k1';have hzm:=y3 m Gw;have hzf:=y4 (3+m);have mP:acB (((w4.alloc (.cells #[.bool true,.int .i64 ai,.slice none 0 0] 186)).setCell ⟨p,3+m,none⟩ (ptr w4.heap.size)).heap[w.heap.size]? =some (.cells (eu (bR 0) none none 0 0) 41 (0,0))):=acA ((qm.o.1.block (b:=w.heap.size) (Pd (iA.1 HR4.o).1 EO.size) (by rw[HL4.o];exact fun e=>n10 e.symm)).trans ((EO.block _ (iA.1 HR4.o).1).trans HR4.o));have i0:(0:Int)≤m:=by omega
   have i1:(m:Int)<8:=by omega
   have HBO:=acA EO;clear k1 k2 k3 k4 hS5 hfree k1' y0 y1 y2 y3 y4 oh EO;go_wp2_with (refine ak (by rfl) 41 _ _ (by rfl) w.heap.size (eu ⟨0,m,[],[],none⟩ none none 0 0) (by rfl) (by rfl) _ mP.o bH rfl (bI _ _ _ _ _) ?_;intro w6 hs6;have lg:=acA hs6;clear hs6);refine bX rfl rfl rfl lg.o.1 ?_;rw[HRR.o,if_neg (fun h=>h HZ.o)];have Pg:=HM5.o.step (I:=fun m=>m=k) (fun e=>n3 e.symm) qm.o.1;have hst:=lg.o.step Pg HL4.o;refine⟨o4,⟨_,rfl,none,none,0,0,rfl,Nat.le_refl _,Nat.le_refl _,ah.nil _ _ _,jO _ _⟩,((JR.o.trans (Step.grow z_.o HBO.o)).trans (qm.o.1.mono fun m hm=> .inr (.inr (.inl hm)))).trans (hst.mono fun m hm=> .inr (.inr (.inr hm))),qm.o.2.step (fun e=>n4 e.symm) n7 n9 n10 hst⟩
  ·have HZ:=acA hz;have hz2:(ae !=0)=true:=by simpa using hz
   clear hz hr4 xC hs4 kV z0 oh;go_wp2_with fail;refine(iZ _ _).mono ?_;rintro e w5 ⟨rfl,hb5⟩;unfold mG;have fH:=acA hb5;have mP:=acA ((hb5.block _ (iA.1 HR4.o).1).trans HR4.o);clear hb5;go_wp2_with (refine ak (by rfl) 41 _ _ (by rfl) w.heap.size (eu (bR ae) none none 0 0) (by rfl) (by rfl) _ mP.o bH rfl (bI _ _ _ _ _) ?_;intro w6 hs6;have lg:=acA hs6;clear hs6);refine bX rfl rfl rfl lg.o.1 ?_;rw[HRR.o,if_pos HZ.o];have YZ:=z_.o.step (I:=fun _=>False) (fun e=>e) (Step.grow z_.o fH.o);have hst:=lg.o.step YZ HL4.o;exact⟨o4,⟨_,rfl,oL.no_ _ _ _⟩,(JR.o.trans (Step.grow z_.o fH.o)).trans (hst.mono fun m hm=> .inr (.inr (.inr hm))),(jk.o.grow z_.o fH.o).step (fun e=>n4 e.symm) n7 n9 n10 hst⟩
end
def jc(M:dS)(id:Int):Option aL:=if id=0 then some M.t else(Bn M.s id).map (·.t)
def AtRet(o:Mark)(j:Nat)(w:World)(M:dS)(id:Int)(e:Ending)(w':World):Prop:=
 Below w.heap.size w w'∧((jc M id=none∧e= .returned (.tuple #[.pointer none,.int .i64 29]))∨∃T q,jc M id=some T∧e= .returned (.tuple #[ptr q,.int .i64 0])∧(∃m,fO o m w' q T)∧dG T)
section
variable{W w:World}{o:Mark}{i j k l p:Nat}{M:dS}
theorem TV(hS:bZ o i j k w p M)(hM:Marks W o w)(hok:dG M.t)(uW:M.s.l.length≤1000)(id:Int):Calls Tryz.prog 141 #[ptr p,.int .i64 id] w (AtRet o j w M id):=by
 obtain⟨t,s,v,h1,h2,h3,h4⟩:=hS.at_;obtain⟨z0,z1,z2,z3,z4⟩:=gF h1;by_cases h0:id=0
 ·subst h0;have HT:=acA h3;have iM:=acA hok;clear hS hM hok uW h1 h2 h3 h4 z1 z2 z3 z4;go_enter Tryz.func141,Tryz.ntmps141;go_wp2_with fail
  go_ret2
  exact⟨Below.refl _ _,.inr ⟨M.t,t,if_pos rfl,rfl,⟨j,HT.o⟩,iM.o⟩⟩
 ·have hd:(id==0)=false:=by simpa using h0
  have HG:=acA (Xt h2 hM uW id);have H0:=acA h0;clear hS hM hok uW h1 h2 h3 h4 z0 z2 z3 z4 h0;go_enter Tryz.func141,Tryz.ntmps141;go_wp2_with fail;refine HG.o.mono ?_;rintro e w1 ⟨hb1,hg⟩;have HB1:=acA hb1;clear hb1;rcases hg with⟨hf,rfl⟩|⟨x,q,hf,rfl,hT,TW⟩
  ·have hr:jc M id=none:=by unfold jc;rw[if_neg H0.o,hf];rfl
   have HRR:=acA hr;clear hf hr;go_wp2_with fail
   go_ret2
   exact⟨HB1.o,.inl ⟨HRR.o,rfl⟩⟩
  ·have hr:jc M id=some x.t:=by unfold jc;rw[if_neg H0.o,hf];rfl
   have HRR:=acA hr;have HT:=acA hT;have iM:=acA TW;clear hf hr hT TW;go_wp2_with fail
   go_ret2
   exact⟨HB1.o,.inr ⟨x.t,q,HRR.o,rfl,⟨0,HT.o⟩,iM.o⟩⟩
end
def yc(k:Int)(x:bP):Array Value:= #[.int .i64 k,.int .i64 x.kind,.int .i64 x.links,.int .i64 x.b.length,.int .u64 x.aA,.bool x.closed]
def wO(T:aL)(ls:List Nm):Array Value×Int:=if (aQ T ls).2≠0 then(oV,(aQ T ls).2)else match aj (aQ T ls).1 T with|some x=>(yc (aQ T ls).1 x,0)|none=>(oV,0)
section
variable{W w:World}{o:Mark}{i j k l p:Nat}{M:dS}
theorem FM{S:Nat→Prop}(hS:bZ o i j k w p M)(hM:Marks W o w)(hok:dG M.t)(a:Option Addr)(n c:Nat)(ls:List Nm)(hls:aK S w a n (ls.map strOf))(hid:(Lit.int .i64 (aQ M.t ls).1).wf=true):
  Calls Tryz.prog 150 #[ptr p,.slice a n c] w fun e w'=>e= .returned (.tuple #[.agg (wO M.t ls).1,.int .i64 (wO M.t ls).2])∧Below w.heap.size w w':=by
 obtain⟨t,s,v,h1,h2,h3,h4⟩:=hS.at_;obtain⟨z0,z1,z2,z3,z4⟩:=gF h1;have hlow:=hS.low;obtain⟨w2,hw2⟩:∃w2,w2=w.alloc (.cells oV 39):=⟨_,rfl⟩;have hb2:Below w.heap.size w w2:=by rw[hw2];exact wall w _
 have hre:w2.heap[w.heap.size]? =some (.cells oV 39 (0,0)):=by rw[hw2];exact(MapKept.heap_alloc w _).1
 obtain⟨g,D,mb,ib,nb,hA,hg,hD⟩:=h3.grow hb2;have mg:acB (Calls Tryz.prog 142 #[ptr t,.slice a n c] (w.alloc (.cells oV 39)) fun e w'=>e= .returned (.tuple #[.int .i64 (aQ M.t ls).1,.int .i64 (aQ M.t ls).2])∧Below w2.heap.size w2 w'):=by
  rw[←hw2];exact acA (Gz a n c ls w2 hA hok (hls.below hb2 acC))
 unfold oV at mg;have uT:acB (∀w',Below w2.heap.size w2 w'→Calls Tryz.prog 143 #[ptr t,.int .i64 (aQ M.t ls).1] w' fun e w''=>e= .returned (.tuple #[gq M.t (aQ M.t ls).1,.bool (aj (aQ M.t ls).1 M.t).isSome])∧Below w'.heap.size w' w''):=fun w' hb=>yO _ w' (hA.below hb acC) hid;have HP:acB (∀w',Below w2.heap.size w2 w'→w'.cell? ⟨p,0,none⟩=some (ptr t)):=fun w' hb=>((hb2.trans (hb.mono hb2.size)).cell (p:=⟨p,0,none⟩) hlow).trans z0;have sU:=acA hre;have HB2:=acA hb2;have hgs:=(iA.1 hre).1;clear hS hM hok hls hid h1 h2 h3 h4 z1 z2 z3 z4 hw2 hb2 hre hA hg hD;obtain⟨ki,hki⟩:∃ki,ki=(aQ M.t ls).1:=⟨_,rfl⟩;obtain⟨ke,hke⟩:∃ke,ke=(aQ M.t ls).2:=⟨_,rfl⟩;rw[←hki,←hke]at mg;rw[←hki]at uT;have HR:acB (wO M.t ls=if ke≠0 then(oV,ke)else match aj ki M.t with|some x=>(yc ki x,0)|none=>(oV,0)):=by
  unfold wO;rw[←hki,←hke];exact acA rfl
 clear hki hke;go_enter Tryz.func150,Tryz.ntmps150;go_wp2_with fail;refine mg.o.mono ?_;rintro e w3 ⟨rfl,hb3⟩;have HB3:=acA hb3;have HR3:=acA ((hb3.block _ hgs).trans sU.o);have q0:=HP.o _ hb3;by_cases hz:ke=0
 ·have HZ:=acA hz;have hz2:(ke !=0)=false:=by simpa using hz
  have HN:=acA (uT.o _ hb3);clear hz hb3;cases ha:aj ki M.t with
  |none=>
   have hnm:gq M.t ki= .agg #[.int .i64 0,.int .i64 0,.int .i64 0,.int .i64 0,.int .u64 0,.bool false]:=by unfold gq;rw[ha]
   rw[hnm]at HN;have HA:=acA ha;clear ha hnm;go_wp2_with fail;refine HN.o.mono ?_;rintro e w4 ⟨rfl,hb4⟩;have dY:=acA hb4;have fH:acB (Below w3.heap.size w3 (w4.alloc (.cells (oV) 39))):=acA (hb4.trans ((wall _ _).mono hb4.size));have mP:acB ((w4.alloc (.cells (oV) 39)).heap[w.heap.size]? =some (.cells oV 39 (0,0))):=acA ((fH.o.block _ (iA.1 HR3.o).1).trans HR3.o);clear hb4;go_wp2_with (refine ak (by rfl) 39 _ _ (by rfl) w.heap.size (oV) (by rfl) (by rfl) _ mP.o zl rfl (by simp[oV,yc,Value.oneCell']) ?_;intro w6 hs6;have lg:=acA hs6;clear hs6);refine Dq rfl rfl rfl rfl lg.o.1 rfl ?_;rw[HR.o,if_neg (fun h=>h HZ.o),HA.o];exact⟨rfl,lg.o.below (HB2.o.trans ((HB3.o.trans (fH.o.mono HB3.o.size)).mono HB2.o.size)) acC⟩
  |some x=>
   have hnm:gq M.t ki= .agg #[.int .i64 ki,.int .i64 x.kind,.int .i64 x.links,.int .i64 x.b.length,.int .u64 x.aA,.bool x.closed]:=by unfold gq;rw[ha];rfl
   rw[hnm]at HN;have HA:=acA ha;clear ha hnm;go_wp2_with fail;refine HN.o.mono ?_;rintro e w4 ⟨rfl,hb4⟩;have dY:=acA hb4;have fH:acB (Below w3.heap.size w3 (w4.alloc (.cells (yc ki x) 39))):=acA (hb4.trans ((wall _ _).mono hb4.size));have mP:acB ((w4.alloc (.cells (yc ki x) 39)).heap[w.heap.size]? =some (.cells oV 39 (0,0))):=acA ((fH.o.block _ (iA.1 HR3.o).1).trans HR3.o);clear hb4;go_wp2_with (refine ak (by rfl) 39 _ _ (by rfl) w.heap.size (yc ki x) (by rfl) (by rfl) _ mP.o zl rfl (by simp[oV,yc,Value.oneCell']) ?_;intro w6 hs6;have lg:=acA hs6;clear hs6);refine Dq rfl rfl rfl rfl lg.o.1 rfl ?_;rw[HR.o,if_neg (fun h=>h HZ.o),HA.o];exact⟨rfl,lg.o.below (HB2.o.trans ((HB3.o.trans (fH.o.mono HB3.o.size)).mono HB2.o.size)) acC⟩
 ·have HZ:=acA hz;have hz2:(ke !=0)=true:=by simpa using hz
  clear hz hb3;go_wp2_with (refine ak (by rfl) 39 _ _ (by rfl) w.heap.size oV (by rfl) (by rfl) _ HR3.o zl rfl (by simp[oV,Value.oneCell']) ?_;intro w5 hs5;have dB:=acA hs5;clear hs5);refine Dq rfl rfl rfl rfl dB.o.1 rfl ?_;rw[HR.o,if_pos HZ.o];exact⟨rfl,dB.o.below (HB2.o.trans (HB3.o.mono HB2.o.size)) acC⟩
end
def JV(T:aL)(kind:Int)(ls:List Nm):rZ:=
 if (aQ T ls).2≠0 then bR (aQ T ls).2 else
 if kind=12 then⟨0,0,[],[],(aj (aQ T ls).1 T).map fun x=>((aQ T ls).1,x)⟩else⟨(mE T (aQ T ls).1).2,(mE T (aQ T ls).1).1.length,[],(mE T (aQ T ls).1).1,none⟩
def oq(M:dS)(x:jD)(ls:List Nm):rZ:=match jc M x.snap with
 |none=>bR 29
 |some T=>JV T x.kind ls
section
variable{W w:World}{o:Mark}{i j k l p:Nat}{M:dS}
theorem FN{S:Nat→Prop}(hS:bZ o i j k w p M)(hM:Marks W o w)(hok:dG M.t)(uW:M.s.l.length≤1000)(x:jD)(da:Option Addr)(dc:Nat)(a:Option Addr)(n c:Nat)(ls:List Nm)(hls:aK S w a n (ls.map strOf))(hid:∀T,jc M x.snap=some T→(Lit.int .i64 (aQ T ls).1).wf=true):
  Calls Tryz.prog 81 #[ptr p,.agg (opC x da dc),.slice a n c] w fun e w'=>xZ o (oq M x ls) e w'∧Below w.heap.size w w':=by
 obtain⟨w2,hw2⟩:∃w2,w2=(w.alloc (.cells (opC x da dc) 30)).alloc (.cells (eu (bR 0) none none 0 0) 41):=⟨_,rfl⟩;have hb2:Below w.heap.size w w2:=by rw[hw2];exact(wall w _).trans ((wall _ _).mono (by simp))
 have hop:w2.heap[w.heap.size]? =some (.cells (opC x da dc) 30 (0,0)):=by
  rw[hw2];exact((wall _ _).block _ (by simp)).trans (MapKept.heap_alloc w _).1
 have hre:w2.heap[w.heap.size+1]? =some (.cells (eu (bR 0) none none 0 0) 41 (0,0)):=by
  rw[hw2];have:=(MapKept.heap_alloc (w.alloc (.cells (opC x da dc) 30)) (.cells (eu (bR 0) none none 0 0) 41)).1;rw[aad]at this;exact this
 have hM2:=hM.step (I:=fun _=>False) (fun e=>e) (Step.grow hM hb2);have HAT:acB (Calls Tryz.prog 141 #[ptr p,.int .i64 x.snap] ((w.alloc (.cells (opC x da dc) 30)).alloc (.cells (eu (bR 0) none none 0 0) 41)) (AtRet o j w2 M x.snap)):=by
  rw[←hw2];exact acA (TV (hS.grow hM hb2) hM2 hok uW x.snap)
 unfold opC eu bR at HAT;dsimp only[List.length_nil]at HAT;have K5:=acA (hls.below hb2 acC);have uX:=acA hop;have sU:=acA hre;have HB2:=acA hb2;have Di:=acA hid;have Gt:=acA hM2;have hop0:acB (∀w',Below w2.heap.size w2 w'→w'.cell? ⟨w.heap.size,0,none⟩=some (.int .i64 x.kind)):=fun w' hb=>by
  have:=(hb.block _ (iA.1 hop).1).trans hop;simp[World.cell?,this,opC]
 clear hS hM hok uW hls hid hw2 hb2 hop hre hM2;unfold opC;go_enter Tryz.func81,Tryz.ntmps81;go_wp2_with fail;refine HAT.o.mono ?_;rintro e w3 ⟨hb3,hat⟩;have HB3:=acA hb3;have HR3:=acA ((hb3.block _ (iA.1 sU.o).1).trans sU.o);rcases hat with⟨hT,rfl⟩|⟨T,q,hT,rfl,⟨m,hTr⟩,TW⟩
 ·have hr:oq M x ls=bR 29:=by unfold oq;rw[hT]
  have HRR:=acA hr;clear hr hT hb3;go_wp2_with fail;refine(iZ _ _).mono ?_;rintro e w4 ⟨rfl,hb4⟩;unfold mG;have dY:=acA (HB2.o.trans ((HB3.o.trans (hb4.mono HB3.o.size)).mono HB2.o.size));have HR4:=acA ((hb4.block _ (iA.1 HR3.o).1).trans HR3.o);clear hb4;go_wp2_with (refine ak (by rfl) 41 _ _ (by rfl) (w.heap.size+1) (eu (bR 29) none none 0 0) (by rfl) (by rfl) _ HR4.o bH rfl (bI _ _ _ _ _) ?_;intro w5 hs5;have dB:=acA hs5;clear hs5);refine bX rfl rfl rfl dB.o.1 ⟨⟨_,rfl,?_⟩,dB.o.below dY.o (by omega)⟩;rw[HRR.o];exact oL.no_ _ _ _
 ·obtain⟨g,D,mb,ib,nb,hA,-,-⟩:=hTr;have hid:=Di.o T hT;have mg:=acA (Gz a n c ls w3 hA TW (K5.o.below hb3 acC));have uT:acB (∀w',Below w3.heap.size w3 w'→Calls Tryz.prog 143 #[ptr q,.int .i64 (aQ T ls).1] w' fun e w''=>e= .returned (.tuple #[gq T (aQ T ls).1,.bool (aj (aQ T ls).1 T).isSome])∧Below w'.heap.size w' w''):=fun w' hb=>yO _ w' (hA.below hb acC) hid;have Dt:acB (∀w',Below w3.heap.size w3 w'→Calls Tryz.prog 155 #[ptr q,.int .i64 (aQ T ls).1] w' (za w' (mE T (aQ T ls).1))):=fun w' hb=>WW _ w' (hA.below hb acC) TW hid;have hr:oq M x ls=JV T x.kind ls:=by unfold oq;rw[hT]
  unfold JV at hr;have HRR:=acA hr;have Xx:=acA hb3;clear hr hT hA TW hid hb3;obtain⟨ki,hki⟩:∃ki,ki=(aQ T ls).1:=⟨_,rfl⟩;obtain⟨ke,hke⟩:∃ke,ke=(aQ T ls).2:=⟨_,rfl⟩;rw[←hki,←hke]at mg HRR;rw[←hki]at uT Dt;clear hki hke;go_wp2_with fail;refine mg.o.mono ?_;rintro e w4 ⟨rfl,hb4⟩;have G5:=acA hb4;have dY:=acA (HB2.o.trans ((HB3.o.trans (hb4.mono HB3.o.size)).mono HB2.o.size));have HR4:=acA ((hb4.block _ (iA.1 HR3.o).1).trans HR3.o);have c0:=hop0.o _ (Xx.o.trans (hb4.mono Xx.o.size));clear hb4;by_cases hz:ke=0
  ·have HZ:=acA hz;have hz2:(ke !=0)=false:=by simpa using hz
   clear hz;by_cases hk:x.kind=12
   ·have HK:=acA hk;have hk2:(x.kind==12)=true:=by simpa using hk
    clear hk;have HN:=acA (uT.o _ G5.o);cases ha:aj ki T with
    |none=>
     have hnm:gq T ki= .agg #[.int .i64 0,.int .i64 0,.int .i64 0,.int .i64 0,.int .u64 0,.bool false]:=by unfold gq;rw[ha]
     rw[hnm]at HN;have HA:=acA ha;clear ha hnm;go_wp2_with fail;refine HN.o.mono ?_;rintro e w5 ⟨rfl,hb5⟩;have fH:acB (Below w.heap.size w (w5.alloc (.cells #[.int .i64 0,.int .i64 0,.int .i64 0,.int .i64 0,.int .u64 0,.bool false] 39))):=acA (dY.o.trans ((hb5.trans ((wall w5 (.cells #[.int .i64 0,.int .i64 0,.int .i64 0,.int .i64 0,.int .u64 0,.bool false] 39)).mono hb5.size)).mono dY.o.size));have mP:acB ((w5.alloc (.cells #[.int .i64 0,.int .i64 0,.int .i64 0,.int .i64 0,.int .u64 0,.bool false] 39)).heap[w.heap.size+1]? =some (.cells (eu (bR 0) none none 0 0) 41 (0,0))):=acA (((hb5.trans ((wall w5 (.cells #[.int .i64 0,.int .i64 0,.int .i64 0,.int .i64 0,.int .u64 0,.bool false] 39)).mono hb5.size)).block _ (iA.1 HR4.o).1).trans HR4.o);clear hb5;go_wp2_with (refine ak (by rfl) 41 _ _ (by rfl) (w.heap.size+1) (eu ⟨0,0,[],[],none⟩ none none 0 0) (by rfl) (by rfl) _ mP.o bH rfl (bI _ _ _ _ _) ?_;intro w6 hs6;have lg:=acA hs6;clear hs6);refine bX rfl rfl rfl lg.o.1 ⟨⟨_,rfl,?_⟩,lg.o.below fH.o (by omega)⟩;rw[HRR.o,if_neg (fun h=>h HZ.o),if_pos HK.o,HA.o];exact⟨none,none,0,0,rfl,Nat.le_refl _,Nat.le_refl _,ah.nil _ _ _,jO _ _⟩
    |some y=>
     have hnm:gq T ki= .agg #[.int .i64 ki,.int .i64 y.kind,.int .i64 y.links,.int .i64 y.b.length,.int .u64 y.aA,.bool y.closed]:=by unfold gq;rw[ha];rfl
     rw[hnm]at HN;have HA:=acA ha;clear ha hnm;go_wp2_with fail;refine HN.o.mono ?_;rintro e w5 ⟨rfl,hb5⟩;have fH:acB (Below w.heap.size w (w5.alloc (.cells #[.int .i64 ki,.int .i64 y.kind,.int .i64 y.links,.int .i64 y.b.length,.int .u64 y.aA,.bool y.closed] 39))):=acA (dY.o.trans ((hb5.trans ((wall w5 (.cells #[.int .i64 ki,.int .i64 y.kind,.int .i64 y.links,.int .i64 y.b.length,.int .u64 y.aA,.bool y.closed] 39)).mono hb5.size)).mono dY.o.size));have mP:acB ((w5.alloc (.cells #[.int .i64 ki,.int .i64 y.kind,.int .i64 y.links,.int .i64 y.b.length,.int .u64 y.aA,.bool y.closed] 39)).heap[w.heap.size+1]? =some (.cells (eu (bR 0) none none 0 0) 41 (0,0))):=acA (((hb5.trans ((wall w5 (.cells #[.int .i64 ki,.int .i64 y.kind,.int .i64 y.links,.int .i64 y.b.length,.int .u64 y.aA,.bool y.closed] 39)).mono hb5.size)).block _ (iA.1 HR4.o).1).trans HR4.o);clear hb5;go_wp2_with (refine ak (by rfl) 41 _ _ (by rfl) (w.heap.size+1) (eu ⟨0,0,[],[],some (ki,y)⟩ none none 0 0) (by rfl) (by rfl) _ mP.o bH rfl (bI _ _ _ _ _) ?_;intro w6 hs6;have lg:=acA hs6;clear hs6);refine bX rfl rfl rfl lg.o.1 ⟨⟨_,rfl,?_⟩,lg.o.below fH.o (by omega)⟩;rw[HRR.o,if_neg (fun h=>h HZ.o),if_pos HK.o,HA.o];exact⟨none,none,0,0,rfl,Nat.le_refl _,Nat.le_refl _,ah.nil _ _ _,jO _ _⟩
   ·have HK:=acA hk;have hk2:(x.kind==12)=false:=by simpa using hk
    clear hk;have HL:=acA (Dt.o _ G5.o);obtain⟨lm,hlm⟩:∃lm,lm=mE T ki:=⟨_,rfl⟩;rw[←hlm]at HL HRR;clear hlm;obtain⟨ln,le⟩:=lm;go_wp2_with fail;refine HL.o.mono ?_;rintro e w5 ⟨la,lc,rfl,hlc,hst,hb5⟩;have fH:=acA (dY.o.trans (hb5.mono dY.o.size));have mP:=acA ((hb5.block _ (iA.1 HR4.o).1).trans HR4.o);have HB45:=acA hb5;have Ma:=acA hlc;have HST:=acA hst;clear hb5 hlc hst;dsimp only;go_wp2_with (refine ak (by rfl) 41 _ _ (by rfl) (w.heap.size+1) (eu ⟨le,ln.length,[],ln,none⟩ none la 0 lc) (by rfl) (by rfl) _ mP.o bH rfl (bI _ _ _ _ _) ?_;intro w6 hs6;have lg:=acA hs6;clear hs6);refine bX rfl rfl rfl lg.o.1 ⟨⟨_,rfl,?_⟩,lg.o.below fH.o (by omega)⟩;rw[HRR.o,if_neg (fun h=>h HZ.o),if_neg HK.o];refine⟨none,la,0,lc,rfl,Nat.le_refl _,Ma.o,ah.nil _ _ _,?_⟩;have h2:=HB2.o.size;have h3:=Xx.o.size;have h34:=G5.o.size;have hlt:=(iA.1 HR4.o).1;refine⟨HST.o.row.move (by rw[lg.o.2.2];exact Nat.le_refl _) fun b hb hbw=>⟨⟨aaj fun h0=> ?_,by rw[lg.o.2.2];exact hb.2⟩,lg.o.2.1.block b hbw (fun e:b=w.heap.size+1=> ?_)⟩,HST.o.short⟩
    ·have:=(Gt.o.new b h0).2;have:=hb.1;omega
    ·have:=hb.1;omega
  ·have HZ:=acA hz;have hz2:(ke !=0)=true:=by simpa using hz
   clear hz;go_wp2_with fail;refine(iZ _ _).mono ?_;rintro e w5 ⟨rfl,hb5⟩;unfold mG;have fH:=acA (dY.o.trans (hb5.mono dY.o.size));have mP:=acA ((hb5.block _ (iA.1 HR4.o).1).trans HR4.o);clear hb5;go_wp2_with (refine ak (by rfl) 41 _ _ (by rfl) (w.heap.size+1) (eu (bR ke) none none 0 0) (by rfl) (by rfl) _ mP.o bH rfl (bI _ _ _ _ _) ?_;intro w6 hs6;have lg:=acA hs6;clear hs6);refine bX rfl rfl rfl lg.o.1 ⟨⟨_,rfl,?_⟩,lg.o.below fH.o (by omega)⟩;rw[HRR.o,if_pos HZ.o];exact oL.no_ _ _ _
end
end Go.Proofs.YtjnhnlabpccgjaaGreatDoor
