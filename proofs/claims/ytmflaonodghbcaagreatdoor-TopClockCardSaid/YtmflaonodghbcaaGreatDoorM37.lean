/- package -/
import Derived.Test.YtmflaonodghbcaaGreatDoorM36
import Derived.Test.YtmflaonodghbcaaGreatDoorM14
import Derived.Test.YtmflaonodghbcaaGreatDoorM17
import Derived.Test.YtmflaonodghbcaaGreatDoorM01
set_option maxRecDepth 100000
set_option maxHeartbeats 64000000
set_option linter.all false
namespace Go.Proofs.YtmflaonodghbcaaGreatDoor
open Go.ChangeShapes Go.WideShapes Go.ChangeAt Go.RowKit
theorem Fp{M:dN}{n:Int}{b:Bool}{f:M4}(h:iZ M n b=some f):∃m:Nat,n=m∧m<8∧M.fds m=some f∧f.wr=b:=by
 unfold iZ at h;split at h
 ·rename_i hn;split at h
  ·rename_i g hg;split at h
   ·rename_i hw;cases h;exact⟨n.toNat,by omega,by omega,hg,hw⟩
   ·cases h
  ·cases h
 ·cases h
def dN.put(M:dN)(n:Nat)(f:Option M4):dN:={M with fds:=fun m=>if m=n then f else M.fds m}
section
variable{W w:World}{o:Mark}{i j k l p:Nat}{M:dN}
theorem bT.put(h:bT o i j k w p M)(hM:Marks W o w)(hk:Mk i j k l)(n:Nat)(hn:n<8)(v:Value)(f:Option M4)(hf:Bv o w v f):Step o (fun m=>m=k) w o (w.setCell ⟨p,3+n,none⟩ v)∧bT o i j k (w.setCell ⟨p,3+n,none⟩ v) p (M.put n f):=by
 obtain⟨n1,n2,n3,n4,n5,n6,n7,n8,n9,n10⟩:=hk.ne;obtain⟨t,s,vv,h1,h2,h3,h4⟩:=h.at_;have hz:=size_set w ⟨p,3+n,none⟩ v;have hst:Step o (fun m=>m=k) w o (w.setCell ⟨p,3+n,none⟩ v):=⟨fun _ _=>rfl,fun b hb hn=>absurd (hM.new b hn).2 (by omega),(Keeps.kX w ⟨p,3+n,none⟩ v).mono fun x _ hx=>by
  have hx:x=p:=hx;rw[hx];exact h.own⟩
 have h0:¬(fun m=>m=k) 0:=fun e=>n3 e.symm;refine⟨hst,⟨t,s,fun m=>if m=n then v else vv m,?_,h2.step h0 n6 hst,h3.step h0 n8 hst,fun m hm=> ?_⟩,h.own,by have:=h.low;omega⟩
 ·have:=aK (i:=3+n) (v:=v) h1;rw[st_put t s M.now vv n hn v]at this;exact this
 ·show Bv o _ (if m=n then v else vv m) (if m=n then f else M.fds m);by_cases hmn:m=n
  ·rw[if_pos hmn,if_pos hmn];exact hf.step h0 hst
  ·rw[if_neg hmn,if_neg hmn];exact(h4 m hm).step h0 hst
def Xv(o:Mark)(i j k l:Nat)(w:World)(p:Nat)(q:Int×dN)(e:Ending)(w':World):Prop:=
 e= .returned (.int .i64 q.1)∧∃o',Step o (fun m=>m=i∨m=j∨m=k∨m=l) w o' w'∧bT o' i j k w' p q.2
def kV(M:dN)(x:lN):Int×dN:=match iZ M x.fd true with
 |some f=>if (fZ M.t f.id x.aT).1≠0 then((fZ M.t f.id x.aT).1,{M with t:=(fZ M.t f.id x.aT).2})else(0,dN.put {M with t:=(fZ M.t f.id x.aT).2} x.fd.toNat none)
 |none=>match iZ M x.fd false with
  |none=>(26,M)
  |some _=>(0,M.put x.fd.toNat none)
theorem O6(hS:bT o i j k w p M)(hM:Marks W o w)(hk:Mk i j k l)(x:lN)(hx:wU x)(hfi:∀n f,M.fds n=some f→(Lit.int .i64 f.id).wf=true)(da:Option Addr)(dc:Nat):
  Calls Tryz.prog 53 #[ptr p,.agg (opC x da dc)] w (Xv o i j k l w p (kV M x)):=by
 have HKK:=ab9 hk;have HX:=ab9 hx;have HM:=ab9 hM;have HFI:=ab9 hfi;have hb1:Below w.heap.size w (w.alloc (.cells (opC x da dc) 40)):=wall w _;have hM1:=hM.step (I:=fun _=>False) (fun e=>e) (Step.grow hM hb1);have hS1:=hS.grow hM hb1;have hop:(w.alloc (.cells (opC x da dc) 40)).heap[w.heap.size]? =some (.cells (opC x da dc) 40 (0,0)):=(MapKept.heap_alloc w _).1;obtain⟨w1,hw1⟩:∃w1,w1=w.alloc (.cells (opC x da dc) 40):=⟨_,rfl⟩;have HF1:acd (Calls Tryz.prog 45 #[ptr p,.int .i64 x.fd,.bool true] (w.alloc (.cells (opC x da dc) 40)) fun e w''=>w''=w1∧Xq o w1 M x.fd true e):=by rw[←hw1]at hS1⊢;exact ab9 (JI hS1 x.fd true)
 rw[←hw1]at hb1 hM1 hS1 hop;unfold opC at HF1;have Fj:=ab9 hop;have HB1:=ab9 hb1;have nH:=ab9 hS1;have kr:=ab9 hM1;clear hS hM hk hx hfi hw1 hb1 hM1 hS1 hop;unfold opC;go_enter Tryz.func53,Tryz.ntmps53;go_wp2_with fail;refine HF1.o.mono ?_;rintro e w2 ⟨rfl,uj⟩;clear HF1;obtain⟨n1,n2,n3,n4,n5,n6,n7,n8,n9,n10⟩:=HKK.o.ne;have qH:acd (Step o (fun m=>m=i∨m=j∨m=k∨m=l) w o w2):=ab9 (Step.grow HM.o HB1.o);have c3:w2.cell? ⟨w.heap.size,3,none⟩=some (.int .i64 x.fd):=by simp[World.cell?,Fj.o,opC]
 rcases uj with⟨hg,rfl⟩|⟨f,fv,hg,rfl,hfv⟩
 ·have HG:=ab9 hg;have HF2:=ab9 (JI nH.o x.fd false);clear hg;go_wp2_with fail;refine HF2.o.mono ?_;rintro e w3 ⟨rfl,hfd2⟩;rcases hfd2 with⟨hg2,rfl⟩|⟨f,fv,hg2,rfl,hfv⟩
  ·have hr:kV M x=(26,M):=by unfold kV;rw[HG.o,hg2]
   have HRR:=ab9 hr;clear hr hg2;go_wp2_with fail;go_ret;rw[HRR.o];exact⟨rfl,o,qH.o,nH.o⟩
  ·obtain⟨m,hm,Qs,hfm,hfw⟩:=Fp hg2;have hr:kV M x=(0,M.put x.fd.toNat none):=by unfold kV;rw[HG.o,hg2]
   rw[hm]at hr;have HRR:=ab9 hr;have TI:=ab9 (kr.o.step (I:=fun _=>False) (fun e=>e) (Step.grow kr.o acf.drew));have iQ:=ab9 ((nH.o.grow kr.o acf.drew).put TI.o HKK.o m Qs (.pointer none) none rfl);obtain⟨t,s,v,h1,h2,h3,h4⟩:=nH.o.at_;obtain⟨z0,z1,z2,z3,z4⟩:=iG h1;have hzm:=z3 m Qs;have hzf:=z4 (3+m);rw[hm]at c3;have i0:(0:Int)≤m:=by omega
   have i1:(m:Int)<8:=by omega
   clear hr hg2 hm hfm hfw hfv h1 h2 h3 h4 z0 z1 z2 z3 z4;go_wp2_with fail;refine Cv 6 ((fun w'=>w'.cell? ⟨w.heap.size,3,none⟩=some (.int .i64 m)∧w'.cell? ⟨p,3+m,none⟩=some (v m)∧w'.frozen? ⟨p,3+m,none⟩=false)) ?_ fun hS=> ?_
   ·exact⟨c3,hzm,hzf⟩
   refine aY 0 hS ?_;refine aY 1 hS ?_;refine aY 2 hS ?_;refine aY 3 hS ?_;refine aY 4 hS ?_;refine aY 5 hS ?_;refine dW 6 fun K hK=> ?_;go_simp;refine sN hK ?_;clear hS hK K;go_wp2_with fail;go_ret;rw[HRR.o];exact⟨rfl,o,((qH.o.trans (Step.grow kr.o acf.drew)).trans (iQ.o.1.mono fun m hm=> .inr (.inr (.inl hm)))),iQ.o.2⟩
 ·obtain⟨m,hm,Qs,hfm,hfw⟩:=Fp hg;have hr:kV M x=if (fZ M.t f.id x.aT).1≠0 then((fZ M.t f.id x.aT).1,{M with t:=(fZ M.t f.id x.aT).2})else(0,dN.put {M with t:=(fZ M.t f.id x.aT).2} x.fd.toNat none):=by unfold kV;rw[hg]
  rw[hm]at hr;have Xt:=HFI.o _ _ hfm;obtain⟨q,fa,fc,rfl,hq0,hq1,hq2,hq3,hq4⟩:=hfv;obtain⟨t,s,v,h1,h2,h3,h4⟩:=(nH.o.grow kr.o acf.drew).at_;have hqd:w2.drew.heap[q]? =some (.cells #[.bool f.wr,.int .i64 f.id,.slice fa f.b.length fc] 201 (0,0)):=hq2;have hod:w2.drew.heap[w.heap.size]? =some (.cells (opC x da dc) 40 (0,0)):=Fj.o;have O4:=kr.o.step (I:=fun _=>False) (fun e=>e) (Step.grow kr.o acf.drew);have Gh:=ab9 (ZY h3 O4 n2 f.id x.aT Xt HX.o.wt.1 HX.o.wt.2);have HC:acd (∀w':World,w'.heap[w.heap.size]? =some (.cells (opC x da dc) 40 (0,0))→w'.heap[q]? =some (.cells #[.bool f.wr,.int .i64 f.id,.slice fa f.b.length fc] 201 (0,0))→w'.heap[p]? =some (.cells (Dl t s M.now v) 104 (0,0))→w'.cell? ⟨p,0,none⟩=some (ptr t)∧w'.cell? ⟨q,1,none⟩=some (.int .i64 f.id)∧w'.cell? ⟨w.heap.size,6,none⟩=some (.int .u64 x.aT)):=fun w' e1 e2 e3=>by
   refine⟨?_,?_,?_⟩<;>simp[World.cell?,e1,e2,e3,opC,Dl]
  have HQ:=ab9 (And.intro hq0 (And.intro hq1 hqd));have Xu:=ab9 h1;have HH2:=ab9 h2;have HH4:=ab9 h4;have HOD:=ab9 hod;have TI:=ab9 O4;have hps:=nH.o.low;have hos:=(uh.1 Fj.o).1;have hgo:o w.heap.size=0:=Vh fun h9=>by have:=(HM.o.new _ h9).2;omega
  have WK:=ab9 hgo;have HRR:=ab9 hr;have HMI:=ab9 hm;obtain⟨T2,BM⟩:∃T2,T2=(fZ M.t f.id x.aT).2:=⟨_,rfl⟩;obtain⟨ae,hae⟩:∃ae,ae=(fZ M.t f.id x.aT).1:=⟨_,rfl⟩;rw[←hae,←BM]at Gh HRR;have i0:(0:Int)≤m:=by omega
  have i1:(m:Int)<8:=by omega
  clear hg hr hm hfm hfw Xt hq0 hq2 hq3 hq4 h1 h2 h3 h4 hqd hod O4 hae BM hgo;go_wp2_with fail;refine xG ((fun w'=>w'.cell? ⟨p,0,none⟩=some (ptr t)∧w'.cell? ⟨q,1,none⟩=some (.int .i64 f.id)∧w'.cell? ⟨w.heap.size,6,none⟩=some (.int .u64 x.aT))) ?_ fun hS=> ?_
  ·exact HC.o _ HOD.o HQ.o.2.2 Xu.o
  refine aR 0 hS ?_;refine aR 1 hS ?_;refine aR 2 hS ?_;refine aR 3 hS ?_;refine aR 4 hS ?_;refine aR 5 hS ?_;refine aR 6 hS ?_;refine aR 7 hS ?_;refine aR 8 hS ?_;refine aR 9 hS ?_;refine nK 10 fun K hK=> ?_;go_simp;refine Gh.o.mono ?_;rintro e w4 ⟨rfl,o4,hs4,sH⟩;have h0j:¬(fun m=>m=j) 0:=fun e=>n2 e.symm;have hq4:=(hs4.block HQ.o.2.1 (by rw[HQ.o.1];exact h0j)).trans HQ.o.2.2;have hp4:=(hs4.block hps (by rw[nH.o.own];exact fun e=>n8 e.symm)).trans Xu.o;have sJ:=(hs4.block (b:=w.heap.size) hos (by rw[WK.o];exact h0j)).trans HOD.o;have uO:=bT.tree (M:=M) HKK.o Xu.o HH2.o HH4.o nH.o.own hps hs4 sH;have qK:=TI.o.step h0j hs4;have pV:=ab9 uO;have mo:=ab9 qK;have oV:=ab9 (qH.o.trans (Step.behind kr.o acf.drew (hs4.mono (J:=fun m=>m=i∨m=j∨m=k∨m=l) fun m hm=> .inr (.inl hm))));have Uq:=ab9 (HC.o _ sJ hq4 hp4);have HMD4:=ab9 (qK.step (I:=fun _=>False) (fun e=>e) (Step.grow qK acf.drew));have iQ:=ab9 ((uO.grow qK acf.drew).put HMD4.o HKK.o m Qs (.pointer none) none rfl);obtain⟨t',s',v',k1,k2,k3,k4⟩:=uO.at_;obtain⟨z0,z1,z2,z3,z4⟩:=iG k1;have hzm:=z3 m Qs;have hzf:=z4 (3+m);have c3':w4.cell? ⟨w.heap.size,3,none⟩=some (.int .i64 m):=by rw[←HMI.o];simp[World.cell?,sJ,opC]
  clear hq4 hp4 sJ uO qK hs4 sH k1 k2 k3 k4 z0 z1 z2 z3 z4;go_wp2_with fail;refine mQ hK (Uq.o) fun hS=> ?_;clear hK K;refine aR 11 hS ?_;refine wQ ?_;clear hS c3;by_cases hz:ae=0
  ·have HZ:=ab9 hz;have hz2:(ae !=0)=false:=by simpa using hz
   clear hz;go_wp2_with fail;refine Cv 6 ((fun w'=>w'.cell? ⟨w.heap.size,3,none⟩=some (.int .i64 m)∧w'.cell? ⟨p,3+m,none⟩=some (v' m)∧w'.frozen? ⟨p,3+m,none⟩=false)) ?_ fun hS=> ?_
   ·exact⟨c3',hzm,hzf⟩
   refine aY 0 hS ?_;refine aY 1 hS ?_;refine aY 2 hS ?_;refine aY 3 hS ?_;refine aY 4 hS ?_;refine aY 5 hS ?_;refine dW 6 fun K hK=> ?_;go_simp;refine sN hK ?_;clear hS hK K;go_wp2_with fail;go_ret;rw[HRR.o,if_neg (fun h=>h HZ.o)];exact⟨rfl,o4,((oV.o.trans (Step.grow mo.o acf.drew)).trans (iQ.o.1.mono fun m hm=> .inr (.inr (.inl hm)))),iQ.o.2⟩
  ·have HZ:=ab9 hz;have hz2:(ae !=0)=true:=by simpa using hz
   clear hz;go_wp2_with fail;go_ret;rw[HRR.o,if_pos HZ.o];exact⟨rfl,o4,oV.o,pV.o⟩
end
def oo(M:dN):Int:=match (List.range 8).find? (fun n=>(M.fds n).isNone)with|some n=>n|none=> -1
theorem Q6.eq{M:dN}{v:Int}(h:Q6 M v):v=oo M:=by
 unfold oo;rcases h with⟨rfl,h⟩|⟨n,hn,rfl,h1,h2⟩
 ·have:(List.range 8).find? (fun n=>(M.fds n).isNone)=none:=by
   rw[abm];intro n hn;rw[abg]at hn;have:=h n hn;cases hf:M.fds n with
   |none=>exact absurd hf this
   |some f=>simp
  rw[this]
 ·have:(List.range 8).find? (fun n=>(M.fds n).isNone)=some n:=by
   have e:List.range 8=List.range n++n::(List.range (8-(n+1))).map (· +(n+1)):=by
    rcases (show n=0∨n=1∨n=2∨n=3∨n=4∨n=5∨n=6∨n=7 by omega)with rfl|rfl|rfl|rfl|rfl|rfl|rfl|rfl<;>rfl
   rw[e,List.find?_append];have e1:(List.range n).find? (fun n=>(M.fds n).isNone)=none:=by
    rw[abm];intro m hm;rw[abg]at hm;have:=h2 m hm;cases hf:M.fds m with
    |none=>exact absurd hf this
    |some f=>simp
   rw[e1,List.find?_cons_of_pos (by rw[h1];rfl)];rfl
  rw[this]
def kL(M:dN)(ls:List Nm):wK×dN:=
 if oo M<0 then(iw 25,M)else
 if (dF M.t ls 1).1.2≠0 then(iw (dF M.t ls 1).1.2,{M with t:=(dF M.t ls 1).2})else
 (⟨0,oo M,[],[],none⟩,dN.put {M with t:=(dF M.t ls 1).2} (oo M).toNat (some ⟨true,(dF M.t ls 1).1.1,[]⟩))
section
variable{W w:World}{o:Mark}{i j k l p:Nat}{M:dN}
theorem L_{S:Nat→Prop}(hS:bT o i j k w p M)(hM:Marks W o w)(hk:Mk i j k l)(hok:fu M.t)(a:Option Addr)(n c:Nat)(ls:List Nm)(hls:bH S w a n (ls.map strOf))(hnc:n≤c)(vY:n≤1000000):
  Calls Tryz.prog 48 #[ptr p,.slice a n c] w (Q8 o i j k l w p (kL M ls)):=by
 have HKK:=ab9 hk;have iM:=ab9 hok;have HM:=ab9 hM;have HS:=ab9 hS;have HLS:=ab9 hls;obtain⟨w2,hw2⟩:∃w2,w2=w.alloc (.cells (gZ (iw 0) none none 0 0) 37):=⟨_,rfl⟩;have hb2:Below w.heap.size w w2:=by rw[hw2];exact wall w _
 have hre:w2.heap[w.heap.size]? =some (.cells (gZ (iw 0) none none 0 0) 37 (0,0)):=by rw[hw2];exact(MapKept.heap_alloc w _).1
 obtain⟨n1,n2,n3,n4,n5,n6,n7,n8,n9,n10⟩:=hk.ne;obtain⟨o1,hs1,hl1,hl2⟩:=dI HM.o l (fun b=>b=w.heap.size) (w':=w2) (fun b hb=>by subst hb;exact⟨Nat.le_refl _,(uh.1 hre).1⟩) hb2;have hS1:bT o1 i j k w2 p M:=HS.o.step (fun e=>n4 e.symm) n7 n9 n10 hs1;have hM1:Marks W o1 w2:=HM.o.step (fun e=>n4 e.symm) hs1;have sI:acd (Calls Tryz.prog 115 #[ptr p] (w.alloc (.cells (gZ (iw 0) none none 0 0) 37)) fun e w''=>∃v,e= .returned (.int .i64 v)∧Q6 M v∧w''=w2):=by rw[←hw2];exact ab9 (Xr hS1)
 unfold gZ iw at sI;dsimp only[List.length_nil]at sI;have rG:=ab9 hre;have HB2:=ab9 hb2;have nH:=ab9 hS1;have kr:=ab9 hM1;have LJ:=ab9 (hl1 _ rfl);have qH:=ab9 hs1;clear hS hM hk hok hls hre hb2 hw2 hS1 hM1 hl1 hl2 hs1;go_enter Tryz.func48,Tryz.ntmps48;go_wp2_with fail;refine sI.o.mono ?_;rintro e w3 ⟨v,rfl,hfr,rfl⟩;have hv:=hfr.eq;clear sI;rcases hfr with⟨rfl,hfull⟩|⟨m,Qs,rfl,hfm,hfl⟩
 ·have hr:kL M ls=(iw 25,M):=by unfold kL;rw[←hv,if_pos (by omega)]
  have HRR:=ab9 hr;clear hr hv hfull;go_wp2_with fail;refine(rE _ _).mono ?_;rintro e w4 ⟨rfl,hb4⟩;unfold Q7;have dh:=ab9 hb4;have HR4:=ab9 ((hb4.block _ (uh.1 rG.o).1).trans rG.o);clear hb4;go_wp2_with (refine au (by rfl) 37 _ _ (by rfl) w.heap.size (gZ (iw 25) none none 0 0) (by rfl) (by rfl) _ HR4.o bZ rfl (cO _ _ _ _ _) ?_;intro w5 hs5;have jV:=ab9 hs5;clear hs5);refine eD rfl rfl rfl jV.o.1 ?_;rw[HRR.o];have qK:=kr.o.step (I:=fun _=>False) (fun e=>e) (Step.grow kr.o dh.o);have hst:=jV.o.step qK LJ.o;exact⟨o1,⟨_,rfl,oU.no_ _ _ _⟩,((qH.o.trans (Step.grow kr.o dh.o)).trans hst).mono fun m hm=> .inr (.inr (.inr hm)),(nH.o.grow kr.o dh.o).step (fun e=>n4 e.symm) n7 n9 n10 hst⟩
 ·have hneg:¬((m:Int)<0):=by omega
  have hdn:decide ((m:Int)<0)=false:=by simp
  obtain⟨t,s,vv,h1,h2,h3,h4⟩:=nH.o.at_;obtain⟨z0,z1,z2,z3,z4⟩:=iG h1;have HMK:=ab9 (ZO h3 kr.o n2 iM.o a n c ls 1 (HLS.o.below HB2.o ace) hnc vY);have hr:kL M ls=if (dF M.t ls 1).1.2≠0 then(iw (dF M.t ls 1).1.2,{M with t:=(dF M.t ls 1).2})else(⟨0,m,[],[],none⟩,dN.put {M with t:=(dF M.t ls 1).2} m (some ⟨true,(dF M.t ls 1).1.1,[]⟩)):=by
   unfold kL;rw[←hv,if_neg hneg];rfl
  have HRR:=ab9 hr;obtain⟨T2,BM⟩:∃T2,T2=(dF M.t ls 1).2:=⟨_,rfl⟩;obtain⟨ae,hae⟩:∃ae,ae=(dF M.t ls 1).1.2:=⟨_,rfl⟩;obtain⟨ai,hai⟩:∃ai,ai=(dF M.t ls 1).1.1:=⟨_,rfl⟩;rw[←hae,←BM,←hai]at HMK HRR;have Xu:=ab9 h1;have HH2:=ab9 h2;have HH4:=ab9 h4;have hps:=nH.o.low;have hgs:=(uh.1 rG.o).1;have HGS:=ab9 hgs;clear hr hv hfm hfl BM hae hai h1 h2 h3 h4 z1 z2 z3 z4;go_wp2_with fail;refine HMK.o.mono ?_;rintro e w4 ⟨rfl,o4,hs4,sH⟩;have h0j:¬(fun m=>m=j) 0:=fun e=>n2 e.symm;have hr4:=(hs4.block (b:=w.heap.size) HGS.o (by rw[LJ.o];exact fun e=>n9 e.symm)).trans rG.o;have uO:=bT.tree (M:=M) HKK.o Xu.o HH2.o HH4.o nH.o.own hps hs4 sH;have qK:=kr.o.step h0j hs4;have pV:=ab9 uO;have mo:=ab9 qK;have HL4:=ab9 ((hs4.old _ HGS.o).trans LJ.o);have HR4:=ab9 hr4;have oV:=ab9 ((qH.o.mono (J:=fun m=>m=i∨m=j∨m=k∨m=l) fun m hm=> .inr (.inr (.inr hm))).trans (hs4.mono fun m hm=> .inr (.inl hm)));by_cases hz:ae=0
  ·have HZ:=ab9 hz;have hz2:(ae !=0)=false:=by simpa using hz
   clear hz hr4 qK hs4 sH z0 hneg hdn;obtain⟨t',s',v',k1,k2,k3,k4⟩:=uO.at_;have M5:Below w4.heap.size w4 (w4.alloc (.cells #[.bool true,.int .i64 ai,.slice none 0 0] 201)):=wall w4 _;have vI:=ab9 (mo.o.step (I:=fun _=>False) (fun e=>e) (Step.grow mo.o M5));have hS5:=pV.o.grow mo.o M5;have hfree:o4 w4.heap.size=0:=Vh fun h9=>by have:=(mo.o.new _ h9).2;omega
   have iQ:=ab9 (hS5.put vI.o HKK.o m Qs (ptr w4.heap.size) (some ⟨true,ai,[]⟩) ⟨w4.heap.size,none,0,rfl,hfree,by simp,(MapKept.heap_alloc w4 _).1,Nat.le_refl _,ah.nil _ _ _⟩);have k1':=(M5.block p pV.o.low).trans k1;obtain⟨y0,y1,y2,y3,y4⟩:=iG k1';have hzm:=y3 m Qs;have hzf:=y4 (3+m);have sZ:acd (((w4.alloc (.cells #[.bool true,.int .i64 ai,.slice none 0 0] 201)).setCell ⟨p,3+m,none⟩ (ptr w4.heap.size)).heap[w.heap.size]? =some (.cells (gZ (iw 0) none none 0 0) 37 (0,0))):=ab9 ((iQ.o.1.block (b:=w.heap.size) (Nat.lt_of_lt_of_le (uh.1 HR4.o).1 M5.size) (by rw[HL4.o];exact fun e=>n10 e.symm)).trans ((M5.block _ (uh.1 HR4.o).1).trans HR4.o));have i0:(0:Int)≤m:=by omega
   have i1:(m:Int)<8:=by omega
   have HBO:=ab9 M5;clear k1 k2 k3 k4 hS5 hfree k1' y0 y1 y2 y3 y4 uO M5;go_wp2_with (refine au (by rfl) 37 _ _ (by rfl) w.heap.size (gZ ⟨0,m,[],[],none⟩ none none 0 0) (by rfl) (by rfl) _ sZ.o bZ rfl (cO _ _ _ _ _) ?_;intro w6 hs6;have mK:=ab9 hs6;clear hs6);refine eD rfl rfl rfl mK.o.1 ?_;rw[HRR.o,if_neg (fun h=>h HZ.o)];have ZT:=vI.o.step (I:=fun m=>m=k) (fun e=>n3 e.symm) iQ.o.1;have hst:=mK.o.step ZT HL4.o;refine⟨o4,⟨_,rfl,none,none,0,0,rfl,Nat.le_refl _,Nat.le_refl _,ah.nil _ _ _,oh _ _⟩,((oV.o.trans (Step.grow mo.o HBO.o)).trans (iQ.o.1.mono fun m hm=> .inr (.inr (.inl hm)))).trans (hst.mono fun m hm=> .inr (.inr (.inr hm))),iQ.o.2.step (fun e=>n4 e.symm) n7 n9 n10 hst⟩
  ·have HZ:=ab9 hz;have hz2:(ae !=0)=true:=by simpa using hz
   clear hz hr4 qK hs4 sH z0 uO;go_wp2_with fail;refine(rE _ _).mono ?_;rintro e w5 ⟨rfl,hb5⟩;unfold Q7;have dX:=ab9 hb5;have sZ:=ab9 ((hb5.block _ (uh.1 HR4.o).1).trans HR4.o);clear hb5;go_wp2_with (refine au (by rfl) 37 _ _ (by rfl) w.heap.size (gZ (iw ae) none none 0 0) (by rfl) (by rfl) _ sZ.o bZ rfl (cO _ _ _ _ _) ?_;intro w6 hs6;have mK:=ab9 hs6;clear hs6);refine eD rfl rfl rfl mK.o.1 ?_;rw[HRR.o,if_pos HZ.o];have Ni:=mo.o.step (I:=fun _=>False) (fun e=>e) (Step.grow mo.o dX.o);have hst:=mK.o.step Ni HL4.o;exact⟨o4,⟨_,rfl,oU.no_ _ _ _⟩,(oV.o.trans (Step.grow mo.o dX.o)).trans (hst.mono fun m hm=> .inr (.inr (.inr hm))),(pV.o.grow mo.o dX.o).step (fun e=>n4 e.symm) n7 n9 n10 hst⟩
end
def kW(M:dN)(id:Int):Option aI:=if id=0 then some M.t else(Ir M.s id).map (·.t)
def AtRet(o:Mark)(j:Nat)(w:World)(M:dN)(id:Int)(e:Ending)(w':World):Prop:=
 Below w.heap.size w w'∧((kW M id=none∧e= .returned (.tuple #[.pointer none,.int .i64 29]))∨∃T q,kW M id=some T∧e= .returned (.tuple #[ptr q,.int .i64 0])∧(∃m,eX o m w' q T)∧fu T)
section
variable{W w:World}{o:Mark}{i j k l p:Nat}{M:dN}
theorem at_any(hS:bT o i j k w p M)(hM:Marks W o w)(hok:fu M.t)(I_:M.s.l.length≤1000)(id:Int):Calls Tryz.prog 119 #[ptr p,.int .i64 id] w (AtRet o j w M id):=by
 obtain⟨t,s,v,h1,h2,h3,h4⟩:=hS.at_;obtain⟨z0,z1,z2,z3,z4⟩:=iG h1;by_cases h0:id=0
 ·subst h0;have HT:=ab9 h3;have iM:=ab9 hok;clear hS hM hok I_ h1 h2 h3 h4 z1 z2 z3 z4;go_enter Tryz.func119,Tryz.ntmps119;go_wp2_with fail
  go_ret2
  exact⟨Below.refl _ _,.inr ⟨M.t,t,if_pos rfl,rfl,⟨j,HT.o⟩,iM.o⟩⟩
 ·have hd:(id==0)=false:=by simpa using h0
  have HG:=ab9 (get_any h2 hM I_ id);have H0:=ab9 h0;clear hS hM hok I_ h1 h2 h3 h4 z0 z2 z3 z4 h0;go_enter Tryz.func119,Tryz.ntmps119;go_wp2_with fail;refine HG.o.mono ?_;rintro e w1 ⟨hb1,hg⟩;have HB1:=ab9 hb1;clear hb1;rcases hg with⟨hf,rfl⟩|⟨x,q,hf,rfl,hT,hOk⟩
  ·have hr:kW M id=none:=by unfold kW;rw[if_neg H0.o,hf];rfl
   have HRR:=ab9 hr;clear hf hr;go_wp2_with fail
   go_ret2
   exact⟨HB1.o,.inl ⟨HRR.o,rfl⟩⟩
  ·have hr:kW M id=some x.t:=by unfold kW;rw[if_neg H0.o,hf];rfl
   have HRR:=ab9 hr;have HT:=ab9 hT;have iM:=ab9 hOk;clear hf hr hT hOk;go_wp2_with fail
   go_ret2
   exact⟨HB1.o,.inr ⟨x.t,q,HRR.o,rfl,⟨0,HT.o⟩,iM.o⟩⟩
end
def yC(k:Int)(x:eG):Array Value:= #[.int .i64 k,.int .i64 x.kind,.int .i64 x.links,.int .i64 x.b.length,.int .u64 x.aT,.bool x.closed]
def wM(T:aI)(ls:List Nm):Array Value×Int:=if (bU T ls).2≠0 then(jO,(bU T ls).2)else match aj (bU T ls).1 T with|some x=>(yC (bU T ls).1 x,0)|none=>(jO,0)
section
variable{W w:World}{o:Mark}{i j k l p:Nat}{M:dN}
theorem TJ{S:Nat→Prop}(hS:bT o i j k w p M)(hM:Marks W o w)(hok:fu M.t)(a:Option Addr)(n c:Nat)(ls:List Nm)(hls:bH S w a n (ls.map strOf))(hid:(Lit.int .i64 (bU M.t ls).1).wf=true):
  Calls Tryz.prog 127 #[ptr p,.slice a n c] w fun e w'=>e= .returned (.tuple #[.agg (wM M.t ls).1,.int .i64 (wM M.t ls).2])∧Below w.heap.size w w':=by
 obtain⟨t,s,v,h1,h2,h3,h4⟩:=hS.at_;obtain⟨z0,z1,z2,z3,z4⟩:=iG h1;have hlow:=hS.low;obtain⟨w2,hw2⟩:∃w2,w2=w.alloc (.cells jO 35):=⟨_,rfl⟩;have hb2:Below w.heap.size w w2:=by rw[hw2];exact wall w _
 have hre:w2.heap[w.heap.size]? =some (.cells jO 35 (0,0)):=by rw[hw2];exact(MapKept.heap_alloc w _).1
 obtain⟨g,D,mb,ib,nb,hA,hg,hD⟩:=h3.grow hb2;have yO:acd (Calls Tryz.prog 120 #[ptr t,.slice a n c] (w.alloc (.cells jO 35)) fun e w'=>e= .returned (.tuple #[.int .i64 (bU M.t ls).1,.int .i64 (bU M.t ls).2])∧Below w2.heap.size w2 w'):=by
  rw[←hw2];exact ab9 (Qu a n c ls w2 hA hok (hls.below hb2 ace))
 unfold jO at yO;have YA:acd (∀w',Below w2.heap.size w2 w'→Calls Tryz.prog 121 #[ptr t,.int .i64 (bU M.t ls).1] w' fun e w''=>e= .returned (.tuple #[um M.t (bU M.t ls).1,.bool (aj (bU M.t ls).1 M.t).isSome])∧Below w'.heap.size w' w''):=fun w' hb=>KE _ w' (hA.below hb ace) hid;have HP:acd (∀w',Below w2.heap.size w2 w'→w'.cell? ⟨p,0,none⟩=some (ptr t)):=fun w' hb=>((hb2.trans (hb.mono hb2.size)).cell (p:=⟨p,0,none⟩) hlow).trans z0;have rG:=ab9 hre;have HB2:=ab9 hb2;have hgs:=(uh.1 hre).1;clear hS hM hok hls hid h1 h2 h3 h4 z1 z2 z3 z4 hw2 hb2 hre hA hg hD;obtain⟨ki,hki⟩:∃ki,ki=(bU M.t ls).1:=⟨_,rfl⟩;obtain⟨ke,hke⟩:∃ke,ke=(bU M.t ls).2:=⟨_,rfl⟩;rw[←hki,←hke]at yO;rw[←hki]at YA;have HR:acd (wM M.t ls=if ke≠0 then(jO,ke)else match aj ki M.t with|some x=>(yC ki x,0)|none=>(jO,0)):=by
  unfold wM;rw[←hki,←hke];exact ab9 rfl
 clear hki hke;go_enter Tryz.func127,Tryz.ntmps127;go_wp2_with fail;refine yO.o.mono ?_;rintro e w3 ⟨rfl,hb3⟩;have HB3:=ab9 hb3;have HR3:=ab9 ((hb3.block _ hgs).trans rG.o);have q0:=HP.o _ hb3;by_cases hz:ke=0
 ·have HZ:=ab9 hz;have hz2:(ke !=0)=false:=by simpa using hz
  have HN:=ab9 (YA.o _ hb3);clear hz hb3;cases ha:aj ki M.t with
  |none=>
   have hnm:um M.t ki= .agg #[.int .i64 0,.int .i64 0,.int .i64 0,.int .i64 0,.int .u64 0,.bool false]:=by unfold um;rw[ha]
   rw[hnm]at HN;have HA:=ab9 ha;clear ha hnm;go_wp2_with fail;refine HN.o.mono ?_;rintro e w4 ⟨rfl,hb4⟩;have dh:=ab9 hb4;have dX:acd (Below w3.heap.size w3 (w4.alloc (.cells (jO) 35))):=ab9 (hb4.trans ((wall _ _).mono hb4.size));have sZ:acd ((w4.alloc (.cells (jO) 35)).heap[w.heap.size]? =some (.cells jO 35 (0,0))):=ab9 ((dX.o.block _ (uh.1 HR3.o).1).trans HR3.o);clear hb4;go_wp2_with (refine au (by rfl) 35 _ _ (by rfl) w.heap.size (jO) (by rfl) (by rfl) _ sZ.o qb rfl (by simp[jO,yC,Value.oneCell']) ?_;intro w6 hs6;have mK:=ab9 hs6;clear hs6);refine rU rfl rfl rfl rfl mK.o.1 rfl ?_;rw[HR.o,if_neg (fun h=>h HZ.o),HA.o];exact⟨rfl,mK.o.below (HB2.o.trans ((HB3.o.trans (dX.o.mono HB3.o.size)).mono HB2.o.size)) ace⟩
  |some x=>
   have hnm:um M.t ki= .agg #[.int .i64 ki,.int .i64 x.kind,.int .i64 x.links,.int .i64 x.b.length,.int .u64 x.aT,.bool x.closed]:=by unfold um;rw[ha];rfl
   rw[hnm]at HN;have HA:=ab9 ha;clear ha hnm;go_wp2_with fail;refine HN.o.mono ?_;rintro e w4 ⟨rfl,hb4⟩;have dh:=ab9 hb4;have dX:acd (Below w3.heap.size w3 (w4.alloc (.cells (yC ki x) 35))):=ab9 (hb4.trans ((wall _ _).mono hb4.size));have sZ:acd ((w4.alloc (.cells (yC ki x) 35)).heap[w.heap.size]? =some (.cells jO 35 (0,0))):=ab9 ((dX.o.block _ (uh.1 HR3.o).1).trans HR3.o);clear hb4;go_wp2_with (refine au (by rfl) 35 _ _ (by rfl) w.heap.size (yC ki x) (by rfl) (by rfl) _ sZ.o qb rfl (by simp[jO,yC,Value.oneCell']) ?_;intro w6 hs6;have mK:=ab9 hs6;clear hs6);refine rU rfl rfl rfl rfl mK.o.1 rfl ?_;rw[HR.o,if_neg (fun h=>h HZ.o),HA.o];exact⟨rfl,mK.o.below (HB2.o.trans ((HB3.o.trans (dX.o.mono HB3.o.size)).mono HB2.o.size)) ace⟩
 ·have HZ:=ab9 hz;have hz2:(ke !=0)=true:=by simpa using hz
  clear hz hb3;go_wp2_with (refine au (by rfl) 35 _ _ (by rfl) w.heap.size jO (by rfl) (by rfl) _ HR3.o qb rfl (by simp[jO,Value.oneCell']) ?_;intro w5 hs5;have jV:=ab9 hs5;clear hs5);refine rU rfl rfl rfl rfl jV.o.1 rfl ?_;rw[HR.o,if_pos HZ.o];exact⟨rfl,jV.o.below (HB2.o.trans (HB3.o.mono HB2.o.size)) ace⟩
end
def Xw(T:aI)(kind:Int)(ls:List Nm):wK:=
 if (bU T ls).2≠0 then iw (bU T ls).2 else
 if kind=12 then⟨0,0,[],[],(aj (bU T ls).1 T).map fun x=>((bU T ls).1,x)⟩else⟨(uq T (bU T ls).1).2,(uq T (bU T ls).1).1.length,[],(uq T (bU T ls).1).1,none⟩
def rF(M:dN)(x:lN)(ls:List Nm):wK:=match kW M x.snap with
 |none=>iw 29
 |some T=>Xw T x.kind ls
section
variable{W w:World}{o:Mark}{i j k l p:Nat}{M:dN}
theorem Iu{S:Nat→Prop}(hS:bT o i j k w p M)(hM:Marks W o w)(hok:fu M.t)(I_:M.s.l.length≤1000)(x:lN)(da:Option Addr)(dc:Nat)(a:Option Addr)(n c:Nat)(ls:List Nm)(hls:bH S w a n (ls.map strOf))(hid:∀T,kW M x.snap=some T→(Lit.int .i64 (bU T ls).1).wf=true):
  Calls Tryz.prog 58 #[ptr p,.agg (opC x da dc),.slice a n c] w fun e w'=>Fh o (rF M x ls) e w'∧Below w.heap.size w w':=by
 obtain⟨w2,hw2⟩:∃w2,w2=(w.alloc (.cells (opC x da dc) 40)).alloc (.cells (gZ (iw 0) none none 0 0) 37):=⟨_,rfl⟩;have hb2:Below w.heap.size w w2:=by rw[hw2];exact(wall w _).trans ((wall _ _).mono (by simp))
 have hop:w2.heap[w.heap.size]? =some (.cells (opC x da dc) 40 (0,0)):=by
  rw[hw2];exact((wall _ _).block _ (by simp)).trans (MapKept.heap_alloc w _).1
 have hre:w2.heap[w.heap.size+1]? =some (.cells (gZ (iw 0) none none 0 0) 37 (0,0)):=by
  rw[hw2];have:=(MapKept.heap_alloc (w.alloc (.cells (opC x da dc) 40)) (.cells (gZ (iw 0) none none 0 0) 37)).1;rw[Pd]at this;exact this
 have hM2:=hM.step (I:=fun _=>False) (fun e=>e) (Step.grow hM hb2);have HAT:acd (Calls Tryz.prog 119 #[ptr p,.int .i64 x.snap] ((w.alloc (.cells (opC x da dc) 40)).alloc (.cells (gZ (iw 0) none none 0 0) 37)) (AtRet o j w2 M x.snap)):=by
  rw[←hw2];exact ab9 (at_any (hS.grow hM hb2) hM2 hok I_ x.snap)
 unfold opC gZ iw at HAT;dsimp only[List.length_nil]at HAT;have HLS:=ab9 (hls.below hb2 ace);have Fj:=ab9 hop;have rG:=ab9 hre;have HB2:=ab9 hb2;have Ka:=ab9 hid;have pX:=ab9 hM2;have hop0:acd (∀w',Below w2.heap.size w2 w'→w'.cell? ⟨w.heap.size,0,none⟩=some (.int .i64 x.kind)):=fun w' hb=>by
  have:=(hb.block _ (uh.1 hop).1).trans hop;simp[World.cell?,this,opC]
 clear hS hM hok I_ hls hid hw2 hb2 hop hre hM2;unfold opC;go_enter Tryz.func58,Tryz.ntmps58;go_wp2_with fail;refine HAT.o.mono ?_;rintro e w3 ⟨hb3,hat⟩;have HB3:=ab9 hb3;have HR3:=ab9 ((hb3.block _ (uh.1 rG.o).1).trans rG.o);rcases hat with⟨hT,rfl⟩|⟨T,q,hT,rfl,⟨m,hTr⟩,hOk⟩
 ·have hr:rF M x ls=iw 29:=by unfold rF;rw[hT]
  have HRR:=ab9 hr;clear hr hT hb3;go_wp2_with fail;refine(rE _ _).mono ?_;rintro e w4 ⟨rfl,hb4⟩;unfold Q7;have dh:=ab9 (HB2.o.trans ((HB3.o.trans (hb4.mono HB3.o.size)).mono HB2.o.size));have HR4:=ab9 ((hb4.block _ (uh.1 HR3.o).1).trans HR3.o);clear hb4;go_wp2_with (refine au (by rfl) 37 _ _ (by rfl) (w.heap.size+1) (gZ (iw 29) none none 0 0) (by rfl) (by rfl) _ HR4.o bZ rfl (cO _ _ _ _ _) ?_;intro w5 hs5;have jV:=ab9 hs5;clear hs5);refine eD rfl rfl rfl jV.o.1 ⟨⟨_,rfl,?_⟩,jV.o.below dh.o (by omega)⟩;rw[HRR.o];exact oU.no_ _ _ _
 ·obtain⟨g,D,mb,ib,nb,hA,-,-⟩:=hTr;have hid:=Ka.o T hT;have yO:=ab9 (Qu a n c ls w3 hA hOk (HLS.o.below hb3 ace));have YA:acd (∀w',Below w3.heap.size w3 w'→Calls Tryz.prog 121 #[ptr q,.int .i64 (bU T ls).1] w' fun e w''=>e= .returned (.tuple #[um T (bU T ls).1,.bool (aj (bU T ls).1 T).isSome])∧Below w'.heap.size w' w''):=fun w' hb=>KE _ w' (hA.below hb ace) hid;have HLI:acd (∀w',Below w3.heap.size w3 w'→Calls Tryz.prog 132 #[ptr q,.int .i64 (bU T ls).1] w' (Qx w' (uq T (bU T ls).1))):=fun w' hb=>Zj _ w' (hA.below hb ace) hOk hid;have hr:rF M x ls=Xw T x.kind ls:=by unfold rF;rw[hT]
  unfold Xw at hr;have HRR:=ab9 hr;have HB33:=ab9 hb3;clear hr hT hA hOk hid hb3;obtain⟨ki,hki⟩:∃ki,ki=(bU T ls).1:=⟨_,rfl⟩;obtain⟨ke,hke⟩:∃ke,ke=(bU T ls).2:=⟨_,rfl⟩;rw[←hki,←hke]at yO HRR;rw[←hki]at YA HLI;clear hki hke;go_wp2_with fail;refine yO.o.mono ?_;rintro e w4 ⟨rfl,hb4⟩;have HB34:=ab9 hb4;have dh:=ab9 (HB2.o.trans ((HB3.o.trans (hb4.mono HB3.o.size)).mono HB2.o.size));have HR4:=ab9 ((hb4.block _ (uh.1 HR3.o).1).trans HR3.o);have c0:=hop0.o _ (HB33.o.trans (hb4.mono HB33.o.size));clear hb4;by_cases hz:ke=0
  ·have HZ:=ab9 hz;have hz2:(ke !=0)=false:=by simpa using hz
   clear hz;by_cases hk:x.kind=12
   ·have HK:=ab9 hk;have hk2:(x.kind==12)=true:=by simpa using hk
    clear hk;have HN:=ab9 (YA.o _ HB34.o);cases ha:aj ki T with
    |none=>
     have hnm:um T ki= .agg #[.int .i64 0,.int .i64 0,.int .i64 0,.int .i64 0,.int .u64 0,.bool false]:=by unfold um;rw[ha]
     rw[hnm]at HN;have HA:=ab9 ha;clear ha hnm;go_wp2_with fail;refine HN.o.mono ?_;rintro e w5 ⟨rfl,hb5⟩;have dX:acd (Below w.heap.size w (w5.alloc (.cells #[.int .i64 0,.int .i64 0,.int .i64 0,.int .i64 0,.int .u64 0,.bool false] 35))):=ab9 (dh.o.trans ((hb5.trans ((wall w5 (.cells #[.int .i64 0,.int .i64 0,.int .i64 0,.int .i64 0,.int .u64 0,.bool false] 35)).mono hb5.size)).mono dh.o.size));have sZ:acd ((w5.alloc (.cells #[.int .i64 0,.int .i64 0,.int .i64 0,.int .i64 0,.int .u64 0,.bool false] 35)).heap[w.heap.size+1]? =some (.cells (gZ (iw 0) none none 0 0) 37 (0,0))):=ab9 (((hb5.trans ((wall w5 (.cells #[.int .i64 0,.int .i64 0,.int .i64 0,.int .i64 0,.int .u64 0,.bool false] 35)).mono hb5.size)).block _ (uh.1 HR4.o).1).trans HR4.o);clear hb5;go_wp2_with (refine au (by rfl) 37 _ _ (by rfl) (w.heap.size+1) (gZ ⟨0,0,[],[],none⟩ none none 0 0) (by rfl) (by rfl) _ sZ.o bZ rfl (cO _ _ _ _ _) ?_;intro w6 hs6;have mK:=ab9 hs6;clear hs6);refine eD rfl rfl rfl mK.o.1 ⟨⟨_,rfl,?_⟩,mK.o.below dX.o (by omega)⟩;rw[HRR.o,if_neg (fun h=>h HZ.o),if_pos HK.o,HA.o];exact⟨none,none,0,0,rfl,Nat.le_refl _,Nat.le_refl _,ah.nil _ _ _,oh _ _⟩
    |some y=>
     have hnm:um T ki= .agg #[.int .i64 ki,.int .i64 y.kind,.int .i64 y.links,.int .i64 y.b.length,.int .u64 y.aT,.bool y.closed]:=by unfold um;rw[ha];rfl
     rw[hnm]at HN;have HA:=ab9 ha;clear ha hnm;go_wp2_with fail;refine HN.o.mono ?_;rintro e w5 ⟨rfl,hb5⟩;have dX:acd (Below w.heap.size w (w5.alloc (.cells #[.int .i64 ki,.int .i64 y.kind,.int .i64 y.links,.int .i64 y.b.length,.int .u64 y.aT,.bool y.closed] 35))):=ab9 (dh.o.trans ((hb5.trans ((wall w5 (.cells #[.int .i64 ki,.int .i64 y.kind,.int .i64 y.links,.int .i64 y.b.length,.int .u64 y.aT,.bool y.closed] 35)).mono hb5.size)).mono dh.o.size));have sZ:acd ((w5.alloc (.cells #[.int .i64 ki,.int .i64 y.kind,.int .i64 y.links,.int .i64 y.b.length,.int .u64 y.aT,.bool y.closed] 35)).heap[w.heap.size+1]? =some (.cells (gZ (iw 0) none none 0 0) 37 (0,0))):=ab9 (((hb5.trans ((wall w5 (.cells #[.int .i64 ki,.int .i64 y.kind,.int .i64 y.links,.int .i64 y.b.length,.int .u64 y.aT,.bool y.closed] 35)).mono hb5.size)).block _ (uh.1 HR4.o).1).trans HR4.o);clear hb5;go_wp2_with (refine au (by rfl) 37 _ _ (by rfl) (w.heap.size+1) (gZ ⟨0,0,[],[],some (ki,y)⟩ none none 0 0) (by rfl) (by rfl) _ sZ.o bZ rfl (cO _ _ _ _ _) ?_;intro w6 hs6;have mK:=ab9 hs6;clear hs6);refine eD rfl rfl rfl mK.o.1 ⟨⟨_,rfl,?_⟩,mK.o.below dX.o (by omega)⟩;rw[HRR.o,if_neg (fun h=>h HZ.o),if_pos HK.o,HA.o];exact⟨none,none,0,0,rfl,Nat.le_refl _,Nat.le_refl _,ah.nil _ _ _,oh _ _⟩
   ·have HK:=ab9 hk;have hk2:(x.kind==12)=false:=by simpa using hk
    clear hk;have HL:=ab9 (HLI.o _ HB34.o);obtain⟨lm,hlm⟩:∃lm,lm=uq T ki:=⟨_,rfl⟩;rw[←hlm]at HL HRR;clear hlm;obtain⟨ln,le⟩:=lm;go_wp2_with fail;refine HL.o.mono ?_;rintro e w5 ⟨la,lc,rfl,hlc,hst,hb5⟩;have dX:=ab9 (dh.o.trans (hb5.mono dh.o.size));have sZ:=ab9 ((hb5.block _ (uh.1 HR4.o).1).trans HR4.o);have Sz:=ab9 hb5;have Z5:=ab9 hlc;have HST:=ab9 hst;clear hb5 hlc hst;dsimp only;go_wp2_with (refine au (by rfl) 37 _ _ (by rfl) (w.heap.size+1) (gZ ⟨le,ln.length,[],ln,none⟩ none la 0 lc) (by rfl) (by rfl) _ sZ.o bZ rfl (cO _ _ _ _ _) ?_;intro w6 hs6;have mK:=ab9 hs6;clear hs6);refine eD rfl rfl rfl mK.o.1 ⟨⟨_,rfl,?_⟩,mK.o.below dX.o (by omega)⟩;rw[HRR.o,if_neg (fun h=>h HZ.o),if_neg HK.o];refine⟨none,la,0,lc,rfl,Nat.le_refl _,Z5.o,ah.nil _ _ _,?_⟩;have h2:=HB2.o.size;have h3:=HB33.o.size;have h34:=HB34.o.size;have hlt:=(uh.1 HR4.o).1;refine⟨HST.o.row.move (by rw[mK.o.2.2];exact Nat.le_refl _) fun b hb hbw=>⟨⟨Vh fun h0=> ?_,by rw[mK.o.2.2];exact hb.2⟩,mK.o.2.1.block b hbw (fun e:b=w.heap.size+1=> ?_)⟩,HST.o.short⟩
    ·have:=(pX.o.new b h0).2;have:=hb.1;omega
    ·have:=hb.1;omega
  ·have HZ:=ab9 hz;have hz2:(ke !=0)=true:=by simpa using hz
   clear hz;go_wp2_with fail;refine(rE _ _).mono ?_;rintro e w5 ⟨rfl,hb5⟩;unfold Q7;have dX:=ab9 (dh.o.trans (hb5.mono dh.o.size));have sZ:=ab9 ((hb5.block _ (uh.1 HR4.o).1).trans HR4.o);clear hb5;go_wp2_with (refine au (by rfl) 37 _ _ (by rfl) (w.heap.size+1) (gZ (iw ke) none none 0 0) (by rfl) (by rfl) _ sZ.o bZ rfl (cO _ _ _ _ _) ?_;intro w6 hs6;have mK:=ab9 hs6;clear hs6);refine eD rfl rfl rfl mK.o.1 ⟨⟨_,rfl,?_⟩,mK.o.below dX.o (by omega)⟩;rw[HRR.o,if_pos HZ.o];exact oU.no_ _ _ _
end
def openT(M:dN)(T:aI)(ls:List Nm):wK×dN:=
 if (bU T ls).2≠0 then(iw (bU T ls).2,M)else
 match aj (bU T ls).1 T with
 |none=>(iw 25,M)
 |some y=>if y.kind=2 then(iw 22,M)else if y.closed=false then(iw 25,M)else
  (⟨0,oo M,[],[],none⟩,M.put (oo M).toNat (some ⟨false,0,Qk T (bU T ls).1 0 y.b.length⟩))
def O7(M:dN)(ls:List Nm)(id:Int):wK×dN:=match kW M id with
 |none=>(iw 29,M)
 |some T=>if oo M<0 then(iw 25,M)else openT M T ls
section
variable{W w:World}{o:Mark}{i j k l p:Nat}{M:dN}
end
def dueB(a b:Int):Bool:=decide (b≤a)
def Fq(now tick:Int):Int:=if tick≤1099511627776 then max now tick else now
theorem TK(t:Int)(w:World):
  Calls Tryz.prog 138 #[.int .u64 t] w fun e w'=>e= .returned (.bool (decide (t≤1099511627776)))∧w=w':=by
 go_enter Tryz.func138,Tryz.ntmps138;go_wp2;go_ret;exact⟨rfl,rfl⟩
theorem z_(a b:Int)(w:World):
  Calls Tryz.prog 193 #[.int .u64 a,.int .u64 b] w fun e w'=>e= .returned (.bool (dueB a b))∧w=w':=by
 go_enter Tryz.func193,Tryz.ntmps193;go_wp2;go_ret;exact⟨rfl,rfl⟩
theorem Xx(a b:Int)(w:World):
  Calls Tryz.prog 62 #[.int .u64 a,.int .u64 b] w fun e w'=>e= .returned (.int .u64 (Fq a b))∧w=w':=by
 by_cases h:b≤1099511627776
 ·go_enter Tryz.func62,Tryz.ntmps62;go_wp2
  all_goals
   go_ret;exact⟨gW (by unfold Fq;split<;>omega),rfl⟩
 ·go_enter Tryz.func62,Tryz.ntmps62;go_wp2
  all_goals
   go_ret;exact⟨gW (by unfold Fq;split<;>omega),rfl⟩
def kindOf(k:Int):Int:=if k=1 then 0 else if k=2 then 22 else 30
def kN(k l u:Int)(c:Bool)(now:Int):Int:=if k=1∧c=true∧l≤1∧now<u then 28 else kindOf k
def Xy(k u:Int)(c:Bool)(till:Int):Int:=
 if k=1 then(if c=false then 25 else if till<u then 28 else if 1099511627776<till then 1 else 0)else kindOf k
theorem r_(i k l s u:Int)(c:Bool)(w:World):
  Calls Tryz.prog 192 #[.agg #[.int .i64 i,.int .i64 k,.int .i64 l,.int .i64 s,.int .u64 u,.bool c]] w fun e w'=>e= .returned (.int .i64 (kindOf k))∧w.alloc (.cells #[.int .i64 i,.int .i64 k,.int .i64 l,.int .i64 s,.int .u64 u,.bool c] 35)=w':=by
 by_cases h1:k=1
 ·subst h1;go_enter Tryz.func192,Tryz.ntmps192;go_wp2;go_ret;exact⟨rfl,rfl⟩
 ·by_cases h2:k=2
  ·subst h2;go_enter Tryz.func192,Tryz.ntmps192;go_wp2;go_ret;exact⟨rfl,rfl⟩
  ·have e1:(k==1)=false:=by simp[h1]
   have e2:(k==2)=false:=by simp[h2]
   go_enter Tryz.func192,Tryz.ntmps192;go_wp2;go_ret;exact⟨gW (by simp[kindOf,h1,h2]),rfl⟩
theorem t_:kindOf 1=0:=rfl
theorem TL(k:Int)(h:k≠1):(kindOf k==0)=false∧(kindOf k !=0)=true:=by
 unfold kindOf;rw[if_neg h];split<;>decide
theorem Ma(i k l s u:Int)(c:Bool)(now:Int)(w:World):
  Calls Tryz.prog 128 #[.agg #[.int .i64 i,.int .i64 k,.int .i64 l,.int .i64 s,.int .u64 u,.bool c],.int .u64 now] w fun e w'=>e= .returned (.int .i64 (kN k l u c now))∧Below w.heap.size w w':=by
 by_cases h1:k=1
 ·subst h1;cases c
  ·go_enter Tryz.func128,Tryz.ntmps128;go_wp2_with (first|(go_at_call 192;refine(r_ _ _ _ _ _ _ _).mono ?_;rintro e w' ⟨rfl,rfl⟩;rw[t_])|(go_at_call 193;refine(z_ _ _ _).mono ?_;rintro e w' ⟨rfl,rfl⟩));go_ret;exact⟨gW (by simp[kN,kindOf]),by repeat (first|exact Below.refl _ _|refine Below.alloc ?_ (by simp) _)⟩
  ·by_cases h2:l≤1
   ·cases h3:dueB now u
    ·have h4:now<u:=by simp[dueB]at h3;omega
     have H:=ab9 h4;clear h4;go_enter Tryz.func128,Tryz.ntmps128;go_wp2_with (first|(go_at_call 192;refine(r_ _ _ _ _ _ _ _).mono ?_;rintro e w' ⟨rfl,rfl⟩;rw[t_])|(go_at_call 193;refine(z_ _ _ _).mono ?_;rintro e w' ⟨rfl,rfl⟩));go_ret;exact⟨gW (by have:=H.o;simp[kN, *]),by repeat (first|exact Below.refl _ _|refine Below.alloc ?_ (by simp) _)⟩
    ·have h4:¬now<u:=by simp[dueB]at h3;omega
     have H:=ab9 h4;clear h4;go_enter Tryz.func128,Tryz.ntmps128;go_wp2_with (first|(go_at_call 192;refine(r_ _ _ _ _ _ _ _).mono ?_;rintro e w' ⟨rfl,rfl⟩;rw[t_])|(go_at_call 193;refine(z_ _ _ _).mono ?_;rintro e w' ⟨rfl,rfl⟩));go_ret;exact⟨gW (by have:=H.o;simp[kN,kindOf, *]),by repeat (first|exact Below.refl _ _|refine Below.alloc ?_ (by simp) _)⟩
   ·go_enter Tryz.func128,Tryz.ntmps128;go_wp2_with (first|(go_at_call 192;refine(r_ _ _ _ _ _ _ _).mono ?_;rintro e w' ⟨rfl,rfl⟩;rw[t_])|(go_at_call 193;refine(z_ _ _ _).mono ?_;rintro e w' ⟨rfl,rfl⟩));go_ret
    exact⟨gW (by have:¬l≤1:=by omega
                 simp[kN,kindOf,this]),by repeat (first|exact Below.refl _ _|refine Below.alloc ?_ (by simp) _)⟩
 ·have e1:=(TL k h1).1;go_enter Tryz.func128,Tryz.ntmps128;go_wp2_with (first|(go_at_call 192;refine(r_ _ _ _ _ _ _ _).mono ?_;rintro e w' ⟨rfl,rfl⟩)|(go_at_call 193;refine(z_ _ _ _).mono ?_;rintro e w' ⟨rfl,rfl⟩));go_ret;exact⟨gW (by simp[kN,h1]),by repeat (first|exact Below.refl _ _|refine Below.alloc ?_ (by simp) _)⟩
structure Q9 where
 i:Int
 k:Int
 l:Int
 s:Int
 u:Int
 c:Bool
 er:Int
def dz(T:aI)(ls:List Nm):Q9:=if (bU T ls).2≠0 then⟨0,0,0,0,0,false,(bU T ls).2⟩else match aj (bU T ls).1 T with|some x=>⟨(bU T ls).1,x.kind,x.links,x.b.length,x.aT,x.closed,0⟩|none=>⟨0,0,0,0,0,false,0⟩
def Q9.cells(x:Q9):Array Value:= #[.int .i64 x.i,.int .i64 x.k,.int .i64 x.l,.int .i64 x.s,.int .u64 x.u,.bool x.c]
theorem O8(T:aI)(ls:List Nm):wM T ls=((dz T ls).cells,(dz T ls).er):=by
 unfold wM dz;by_cases h:(bU T ls).2≠0
 ·rw[if_pos h,if_pos h];rfl
 ·rw[if_neg h,if_neg h];cases aj (bU T ls).1 T<;>rfl
def jA(M:dN)(ls:List Nm):Int×dN:=
 if (dz M.t ls).er≠0 then((dz M.t ls).er,M)else
 if kN (dz M.t ls).k (dz M.t ls).l (dz M.t ls).u (dz M.t ls).c M.now≠0 then(kN (dz M.t ls).k (dz M.t ls).l (dz M.t ls).u (dz M.t ls).c M.now,M)else
 ((dR M.t ls).1,{M with t:=(dR M.t ls).2})
section
variable{W w:World}{o:Mark}{i j k l p:Nat}{M:dN}
theorem Mc{S:Nat→Prop}(hS:bT o i j k w p M)(hM:Marks W o w)(hk:Mk i j k l)(hok:fu M.t)(a:Option Addr)(n c:Nat)(ls:List Nm)(hls:bH S w a n (ls.map strOf))(hnc:n≤c)(vY:n≤1000000)(hid:(Lit.int .i64 (bU M.t ls).1).wf=true):
  Calls Tryz.prog 55 #[ptr p,.slice a n c] w (Xv o i j k l w p (jA M ls)):=by
 have HN:=ab9 (TJ hS hM hok a n c ls hls hid);rw[O8]at HN;have HKK:=ab9 hk;have iM:=ab9 hok;have HM:=ab9 hM;have HS:=ab9 hS;have HLS:=ab9 hls;have hr:jA M ls=jA M ls:=rfl
 conv at hr=>rhs;unfold jA
 have HR:=ab9 hr;clear hS hM hk hok hls hid hr;generalize dz M.t ls=X at HN HR;obtain⟨xi,xk,xl,xs,xu,xc,xe⟩:=X;unfold Q9.cells at HN;go_enter Tryz.func55,Tryz.ntmps55;go_wp2_with fail;refine HN.o.mono ?_;rintro e w1 ⟨rfl,hb1⟩;have HB1:=ab9 hb1;have HB2:acd (Below w.heap.size w (w1.alloc (.cells #[.int .i64 xi,.int .i64 xk,.int .i64 xl,.int .i64 xs,.int .u64 xu,.bool xc] 35))):=ab9 (hb1.trans ((wall _ _).mono hb1.size));obtain⟨n1,n2,n3,n4,n5,n6,n7,n8,n9,n10⟩:=HKK.o.ne;clear hb1 HN;by_cases hz:xe=0
 ·have HZ:=ab9 hz;have hz2:(xe==0)=true:=by simpa using hz
  clear hz;obtain⟨w2,hw2⟩:∃w2,w2=w1.alloc (.cells #[.int .i64 xi,.int .i64 xk,.int .i64 xl,.int .i64 xs,.int .u64 xu,.bool xc] 35):=⟨_,rfl⟩;have hnd:w2.heap[w1.heap.size]? =some (.cells #[.int .i64 xi,.int .i64 xk,.int .i64 xl,.int .i64 xs,.int .u64 xu,.bool xc] 35 (0,0)):=by rw[hw2];exact(MapKept.heap_alloc w1 _).1
  rw[←hw2]at HB2;have hS2:=HS.o.grow HM.o HB2.o;have hM2:=HM.o.step (I:=fun _=>False) (fun e=>e) (Step.grow HM.o HB2.o);obtain⟨t,s,v,h1,h2,h3,h4⟩:=hS2.at_;have hps:=hS2.low;have HC:acd (∀w',Below w2.heap.size w2 w'→w'.cell? ⟨w1.heap.size,0,none⟩=some (.int .i64 xi)∧w'.cell? ⟨w1.heap.size,1,none⟩=some (.int .i64 xk)∧w'.cell? ⟨w1.heap.size,2,none⟩=some (.int .i64 xl)∧w'.cell? ⟨w1.heap.size,3,none⟩=some (.int .i64 xs)∧w'.cell? ⟨w1.heap.size,4,none⟩=some (.int .u64 xu)∧w'.cell? ⟨w1.heap.size,5,none⟩=some (.bool xc)∧w'.cell? ⟨p,2,none⟩=some (.int .u64 M.now)∧w'.cell? ⟨p,0,none⟩=some (ptr t)):=fun w' hb=>by
   have e1:=(hb.block _ (uh.1 hnd).1).trans hnd;have e2:=(hb.block _ hps).trans h1;refine⟨?_,?_,?_,?_,?_,?_,?_,?_⟩<;>simp[World.cell?,e1,e2,Dl]
  have HUN:acd (∀w',Below w2.heap.size w2 w'→Calls Tryz.prog 129 #[ptr t,.slice a n c] w' (Xv o i j k l w p ((dR M.t ls).1,{M with t:=(dR M.t ls).2}))):=fun w' hb=>by
   have Ny:=hM2.step (I:=fun _=>False) (fun e=>e) (Step.grow hM2 hb);have SA:=hS2.grow hM2 hb;have hst:Step o (fun m=>m=i∨m=j∨m=k∨m=l) w o w':=(Step.grow HM.o HB2.o).trans (Step.grow hM2 hb);have g1:=(hb.block p hps).trans h1;have g2:=h2.grow hM2 hb;have g4:∀n,n<8→Bv o w' (v n) (M.fds n):=fun n hn=>(h4 n hn).grow hb;refine(SB (h3.grow hb) Ny n2 iM.o a n c ls (HLS.o.below (HB2.o.trans (hb.mono HB2.o.size)) ace) hnc vY).mono ?_;rintro e w4 ⟨rfl,o4,hs4,sH⟩;exact⟨rfl,o4,hst.trans (hs4.mono fun m hm=> .inr (.inl hm)),bT.tree (M:=M) HKK.o g1 g2 g4 SA.own SA.low hs4 sH⟩
  have hw2':=hw2;clear h1 h2 h3 h4 hnd hS2 hM2 hw2;go_wp2_with fail;rw[←hw2'];clear hw2';refine xG ((fun w'=>w'.cell? ⟨w1.heap.size,0,none⟩=some (.int .i64 xi)∧w'.cell? ⟨w1.heap.size,1,none⟩=some (.int .i64 xk)∧w'.cell? ⟨w1.heap.size,2,none⟩=some (.int .i64 xl)∧w'.cell? ⟨w1.heap.size,3,none⟩=some (.int .i64 xs)∧w'.cell? ⟨w1.heap.size,4,none⟩=some (.int .u64 xu)∧w'.cell? ⟨w1.heap.size,5,none⟩=some (.bool xc)∧w'.cell? ⟨p,2,none⟩=some (.int .u64 M.now)∧w'.cell? ⟨p,0,none⟩=some (ptr t))) ?_ fun hS=> ?_
  ·exact HC.o _ acf.drew
  refine aR 0 hS ?_;refine aR 1 hS ?_;refine aR 2 hS ?_;refine aR 3 hS ?_;refine aR 4 hS ?_;refine nK 5 fun K hK=> ?_;go_simp;refine(Ma xi xk xl xs xu xc M.now _).mono ?_;rintro e w3 ⟨rfl,hb3⟩;have HB3:acd (Below w2.heap.size w2 w3):=ab9 (acf.drew.trans hb3);have Uq:=ab9 (HC.o _ HB3.o);have q0:=(HC.o _ HB3.o).2.2.2.2.2.2.2;have HU3:=ab9 (HUN.o _ HB3.o);obtain⟨re,hre⟩:∃re,re=kN xk xl xu xc M.now:=⟨_,rfl⟩;rw[←hre];have rG:=ab9 hre;clear hre hb3;go_wp2_with fail;refine mQ hK (Uq.o) fun hS=> ?_;clear hK K;refine aR 6 hS ?_;refine wQ ?_;clear hS;by_cases hy:re=0
  ·have HY:=ab9 hy;have hy2:(re !=0)=false:=by simpa using hy
   clear hy;go_wp2_with fail;refine HU3.o.mono ?_;rintro e w4 ⟨rfl,ho⟩;have HO:=ab9 ho;clear ho;go_wp2_with fail;go_ret;have e2:jA M ls=((dR M.t ls).1,{M with t:=(dR M.t ls).2}):=HR.o.trans ((if_neg (fun h=>h HZ.o)).trans (if_neg (fun h=>h (rG.o.symm.trans HY.o))));rw[e2];exact⟨rfl,HO.o⟩
  ·have HY:=ab9 hy;have hy2:(re !=0)=true:=by simpa using hy
   clear hy;go_wp2_with fail;go_ret;have e2:jA M ls=(re,M):=HR.o.trans ((if_neg (fun h=>h HZ.o)).trans ((if_pos (fun h=>HY.o (rG.o.trans h))).trans (by rw[←rG.o])));rw[e2];have hb:=HB2.o.trans (HB3.o.mono HB2.o.size);exact⟨rfl,o,Step.grow HM.o hb,HS.o.grow HM.o hb⟩
 ·have HZ:=ab9 hz;have hz2:(xe==0)=false:=by simpa using hz
  have hz3:(xe !=0)=true:=by simpa using hz
  clear hz;go_wp2_with fail;go_ret;have e2:jA M ls=(xe,M):=HR.o.trans (if_pos HZ.o);rw[e2];exact⟨rfl,o,Step.grow HM.o HB2.o,HS.o.grow HM.o HB2.o⟩
end
def O9(M:dN)(ls:List Nm)(aT:Int):Int×dN:=
 if (dz M.t ls).er≠0 then((dz M.t ls).er,M)else
 if Xy (dz M.t ls).k (dz M.t ls).u (dz M.t ls).c aT≠0 then(Xy (dz M.t ls).k (dz M.t ls).u (dz M.t ls).c aT,M)else
 ((uW M.t (dz M.t ls).i aT).1,{M with t:=(uW M.t (dz M.t ls).i aT).2})
section
variable{W w:World}{o:Mark}{i j k l p:Nat}{M:dN}
end
theorem Iw{T:aI}:∀(p:List Nm) (id:Int),(aG T id p).2≠0→(aG T id p).1=0
 |[],id,h=>absurd rfl h
 |n::r,id,h=>by
  unfold aG at h⊢;split
  ·rfl
  ·rename_i x hx;rw[hx]at h;dsimp only at h;split
   ·rename_i hk;rw[if_pos hk]at h;split
    ·rfl
    ·rename_i k hk2;rw[hk2]at h;exact Iw r k h
   ·rfl
theorem O_{T:aI}(hT:fu T)(ls:List Nm):0≤(bU T ls).1∧(bU T ls).1≤65535:=by
 unfold bU;by_cases hf:bS ls≠0
 ·rw[if_pos hf];simp
 ·rw[if_neg hf];by_cases h2:(aG T 0 ls).2=0
  ·have h3:=D6 (T:=T) (p:=ls) (id:=(aG T 0 ls).1) (abk rfl h2) hT;cases hx:aj (aG T 0 ls).1 T with
   |none=>rw[hx]at h3;cases h3
   |some x=>have:=hT.ids _ x hx;omega
  ·rw[Iw ls 0 h2];simp
theorem JJ{T:aI}(hT:fu T)(ls:List Nm):(Lit.int .i64 (bU T ls).1).wf=true:=by
 have:=O_ hT ls;exact mg (by omega) (by omega)
end Go.Proofs.YtmflaonodghbcaaGreatDoor
