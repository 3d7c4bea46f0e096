/- package state: read. package state: write. package state: close. -/
import Derived.Test.YtmabllemjkcobaaGreatDoorM28
namespace Go.Proofs.YtmabllemjkcobaaGreatDoor
open Go.ChangeShapes Go.WideShapes Go.ChangeAt Go.RowKit
set_option linter.unusedVariables false
set_option linter.unusedSimpArgs false
set_option maxHeartbeats 1000000 in
theorem Nb {S:Nat→Prop} (a:Option Addr) (l c:Nat) (bs:List UInt8) (A N:Nat) (w:World) (hl:l≤1000000000) (hlc:l≤c) (hA:A≤9223372036854775807) (hN:N≤9223372036854775807) (hr:aj S w a l (bs.map bv)):
  Calls Tryz.prog 101 #[.slice a l c, .int .i64 A, .int .i64 N] w (pF w ((bs.drop A).take N) 0):=by
 have z1:(0:Int)≤(A:Int):=by omega
 have z2:(0:Int)≤(N:Int):=by omega
 have z3:decide ((A:Int)<0)=false:=by simp
 have z4:decide ((N:Int)<0)=false:=by simp
 have HR:=Lib.hid hr
 have hL:bs.length=l:=by have:=hr.length;simpa using this
 have HL:=Lib.hid hL
 clear hr hL
 by_cases hcap:c=min A l
 ·subst hcap
  go_enter Tryz.func101,Tryz.ntmps101
  go_wp2_with fail
  (with_reducible refine(jV (S:=S) _ _ _ ((bs.drop A).take N) _ (by omega) (zX _ A N HL.out (by omega) (by omega))).mono ?_)
  rintro e w1 ⟨a1,n1,c1,rfl,hn1,hr1,hb1⟩
  have HR1:=Lib.hid hr1
  have HB1:=Lib.hid hb1
  clear hr1 hb1
  go_wp2_with fail
  go_ret2
  exact⟨a1,n1,c1,rfl,hn1,HR1.out,HB1.out⟩
 ·cases a with
  |none=>
   go_enter Tryz.func101,Tryz.ntmps101
   go_wp2_with fail
   (with_reducible refine(jV (S:=S) _ _ _ ((bs.drop A).take N) _ (by omega) (zW A N HR.out (by omega))).mono ?_)
   rintro e w1 ⟨a1,n1,c1,rfl,hn1,hr1,hb1⟩
   have HR1:=Lib.hid hr1
   have HB1:=Lib.hid hb1
   clear hr1 hb1
   go_wp2_with fail
   go_ret2
   exact⟨a1,n1,c1,rfl,hn1,HR1.out,HB1.out⟩
  |some ad=>
   go_enter Tryz.func101,Tryz.ntmps101
   go_wp2_with fail
   (with_reducible refine(jV (S:=S) _ _ _ ((bs.drop A).take N) _ (by omega) (zV A N HR.out (by omega) (by omega))).mono ?_)
   rintro e w1 ⟨a1,n1,c1,rfl,hn1,hr1,hb1⟩
   have HR1:=Lib.hid hr1
   have HB1:=Lib.hid hb1
   clear hr1 hb1
   go_wp2_with fail
   go_ret2
   exact⟨a1,n1,c1,rfl,hn1,HR1.out,HB1.out⟩
theorem JR {S:Nat→Prop} (a:Option Addr) (l c:Nat) (bs:List UInt8) (at_ n:Int) (w:World) (hl:l≤1000000000) (hlc:l≤c) (hA:(Lit.int .i64 at_).wf=true) (hN:(Lit.int .i64 n).wf=true) (hr:aj S w a l (bs.map bv)):
  Calls Tryz.prog 101 #[.slice a l c, .int .i64 at_, .int .i64 n] w (pF w (nI bs at_ n) (qE at_ n)):=by
 simp only[Lit.wf,IntKind.min,IntKind.max,IntKind.signed,IntKind.bits,Bool.and_eq_true,decide_eq_true_eq]at hA hN
 by_cases h:at_<0∨n<0
 ·unfold nI qE
  rw[if_pos h,if_pos h]
  exact CV a l c at_ n w h
 ·unfold nI qE
  rw[if_neg h,if_neg h]
  have:=Nb (S:=S) a l c bs at_.toNat n.toNat w hl hlc (by simp at hA;omega) (by simp at hN;omega) hr
  rw[show((at_.toNat:Nat):Int)=at_ by omega,show((n.toNat:Nat):Int)=n by omega]at this
  exact this
def qP (M:eF) (x:kQ):rO:=match jK M x.fd false with
 |none=>bW 26
 |some f=>⟨qE x.at_ x.n,(nI f.b x.at_ x.n).length,nI f.b x.at_ x.n,[],none⟩
def vk (o:Mark) (r:rO) (e:Ending) (w':World):Prop:=∃v,e= .returned v∧nR o w' v r
section
variable {W w:World} {o:Mark} {i j k p:Nat} {M:eF}
set_option maxRecDepth 100000 in
set_option maxHeartbeats 4000000 in
theorem JU (h:aU o i j k w p M) (hM:Marks W o w) (x:kQ) (hx:jL x) (hb:∀n f,M.fds n=some f→f.b.length≤1000000000) (da:Option Addr) (dc:Nat):
  Calls Tryz.prog 40 #[ptr p, .agg (opC x da dc)] w fun e w'=>vk o (qP M x) e w'∧Below w.heap.size w w':=by
 have HM:=Lib.hid hM
 have HW:Hid (∀w' b,Below w.heap.size w w'→Calls Tryz.prog 100 #[ptr p, .int .i64 x.fd, .bool b] w' fun e w''=>w''=w'∧Dv o w' M x.fd b e):=fun w' b hb=>Bn (h.grow hM hb) x.fd b
 have HX:=Lib.hid hx
 have HB:=Lib.hid hb
 clear h hM hx hb
 unfold opC
 go_enter Tryz.func40,Tryz.ntmps40
 go_wp2_with fail
 obtain⟨w2,hw2⟩:∃w2,w2=(w.alloc (.cells (opC x da dc) 28)).alloc (.cells (b_ (bW 0) none none 0 0) 36):=⟨_,rfl⟩
 have hb2:Below w.heap.size w w2:=by rw[hw2];exact(wall w _).trans ((wall _ _).mono (by simp))
 have qA:Hid (Calls Tryz.prog 100 #[ptr p, .int .i64 x.fd, .bool false] ((w.alloc (.cells (opC x da dc) 28)).alloc (.cells (b_ (bW 0) none none 0 0) 36)) fun e w''=>w''=w2∧Dv o w2 M x.fd false e):=by rw[←hw2];exact HW.out w2 false hb2
 unfold opC b_ bW at qA
 dsimp only[List.length_nil]at qA
 have hop:w2.heap[w.heap.size]? =some (.cells (opC x da dc) 28 (0,0)):=by
  rw[hw2]
  exact((wall _ _).block _ (by simp)).trans (MapKept.heap_alloc w _).1
 have hre:w2.heap[w.heap.size+1]? =some (.cells (b_ (bW 0) none none 0 0) 36 (0,0)):=by
  rw[hw2]
  have:=(MapKept.heap_alloc (w.alloc (.cells (opC x da dc) 28)) (.cells (b_ (bW 0) none none 0 0) 36)).1
  rw[World.size_alloc]at this
  exact this
 (with_reducible refine qA.out.mono ?_)
 rintro e w3 ⟨rfl,sM⟩
 have wV:=Lib.hid hop
 have mg:=Lib.hid hre
 have HB2:=Lib.hid hb2
 clear hop hre hb2 hw2 qA
 rcases sM with⟨hg,rfl⟩|⟨f,fv,hg,rfl,Sd⟩
 ·have hr:qP M x=bW 26:=by unfold qP;rw[hg]
  have HRR:=Lib.hid hr
  clear hg hr
  go_wp2_with fail
  (with_reducible refine(gu _ _).mono ?_)
  rintro e w4 ⟨rfl,hb4⟩
  unfold uV
  have iq:=Lib.hid (HB2.out.trans (hb4.mono HB2.out.size))
  have HR4:=Lib.hid ((hb4.block _ (Array.getElem?_eq_some_iff.1 mg.out).1).trans mg.out)
  go_wp2_with (refine ak (by rfl) 36 _ _ (by rfl) (w.heap.size+1) (b_ (bW 26) none none 0 0) (by rfl) (by rfl) _ HR4.out bA rfl (bD _ _ _ _ _) ?_;intro w5 hs5;have fQ:=Lib.hid hs5;clear hs5)
  refine bJ rfl rfl rfl fQ.out.1 ⟨⟨_,rfl,?_⟩,fQ.out.below iq.out (by omega)⟩
  rw[HRR.out]
  exact nR.WG _ _ _
 ·have hr:qP M x=⟨qE x.at_ x.n,(nI f.b x.at_ x.n).length,nI f.b x.at_ x.n,[],none⟩:=by unfold qP;rw[hg]
  have HRR:=Lib.hid hr
  have YH:f.b.length≤1000000000:=by
   unfold jK at hg
   split at hg
   ·split at hg
    ·split at hg
     ·cases hg;exact HB.out _ _ (by assumption)
     ·cases hg
    ·cases hg
   ·cases hg
  obtain⟨q,fa,fc,rfl,hq0,hq1,hq2,hq3,hq4⟩:=Sd
  have Qd:=Lib.hid hq2
  have Ud:=Lib.hid (JR fa f.b.length fc f.b x.at_ x.n w3.drew YH hq3 HX.out.wa HX.out.wn (hq4.below (Below.refl _ _).drew (Nat.le_refl _)))
  have HK:Hid (∀w':World,Below w3.heap.size w3 w'→w'.cell? ⟨q,2,none⟩=some (.slice fa f.b.length fc)∧w'.cell? ⟨w.heap.size,4,none⟩=some (.int .i64 x.at_)∧w'.cell? ⟨w.heap.size,5,none⟩=some (.int .i64 x.n)):=fun w' hb=>by
   have h1:=(hb.block q hq1).trans Qd.out
   have h2:=(hb.block _ (Array.getElem?_eq_some_iff.1 wV.out).1).trans wV.out
   refine⟨?_,?_,?_⟩<;>simp[World.cell?,h1,h2,opC]
  clear hg hr hq0 hq2 hq3 hq4 YH
  obtain⟨pb,hpb⟩:∃pb,pb=nI f.b x.at_ x.n:=⟨_,rfl⟩
  obtain⟨pe,hpe⟩:∃pe,pe=qE x.at_ x.n:=⟨_,rfl⟩
  rw[←hpb,←hpe]at Ud
  rw[←hpb,←hpe]at HRR
  clear hpb hpe
  go_wp2_with fail
  refine wp_region_noPanic ?_
  refine wp_region_held_drew (S:=(fun w'=>w'.cell? ⟨q,2,none⟩=some (.slice fa f.b.length fc)∧w'.cell? ⟨w.heap.size,4,none⟩=some (.int .i64 x.at_)∧w'.cell? ⟨w.heap.size,5,none⟩=some (.int .i64 x.n))) (by kernel_rfl) ?_ (fun hS=> ?_)
  ·exact HK.out _ (Below.refl _ _).drew
  refine dz 0 (hS:=hS) (h:= ?_)
  refine dz 1 (hS:=hS) (h:= ?_)
  refine dz 2 (hS:=hS) (h:= ?_)
  refine dz 3 (hS:=hS) (h:= ?_)
  refine dz 4 (hS:=hS) (h:= ?_)
  refine dz 5 (hS:=hS) (h:= ?_)
  refine dz 6 (hS:=hS) (h:= ?_)
  refine dz 7 (hS:=hS) (h:= ?_)
  refine uW 8 (h:=fun K hK=> ?_)
  go_simp
  (with_reducible refine Ud.out.mono ?_)
  rintro e w4 ⟨a4,n4,c4,rfl,Vg,hr4,hb4⟩
  have hl4:pb.length=n4:=by have:=hr4.length;simpa using this
  subst hl4
  have QD:Below w3.heap.size w3 w4:=(Below.refl _ _).drew.trans hb4
  have iq:=Lib.hid (HB2.out.trans (QD.mono HB2.out.size))
  have aaf:=Lib.hid QD
  have HR4:=Lib.hid ((QD.block _ (Array.getElem?_eq_some_iff.1 mg.out).1).trans mg.out)
  have Jq:=Lib.hid Vg
  have dS:=Lib.hid hr4
  clear Vg hr4 hb4 QD
  go_wp2_with fail
  refine hK.out _ _ (HK.out _ aaf.out) (fun hS=> ?_)
  clear hK K
  try simp only[Act.put,List.setIfInBounds_toArray,List.set_cons_zero,List.set_cons_succ]
  refine dz 9 (hS:=hS) (h:= ?_)
  refine dz 10 (hS:=hS) (h:= ?_)
  refine dz 11 (hS:=hS) (h:= ?_)
  refine dz 12 (hS:=hS) (h:= ?_)
  refine dz 13 (hS:=hS) (h:= ?_)
  refine wpAnyH_done (by kernel_rfl) ?_ _
  refine NoPanic.normal ?_
  clear hS
  go_wp2_with (refine ak (by rfl) 36 _ _ (by rfl) (w.heap.size+1) (b_ ⟨pe,pb.length,pb,[],none⟩ a4 none c4 0) (by rfl) (by rfl) _ HR4.out bA rfl (bD _ _ _ _ _) ?_;intro w5 hs5;have fQ:=Lib.hid hs5;clear hs5)
  refine bJ rfl rfl rfl fQ.out.1 ⟨⟨_,rfl,?_⟩,fQ.out.below iq.out (by omega)⟩
  rw[HRR.out]
  have hs3:=HB2.out.size
  have hlt:=(Array.getElem?_eq_some_iff.1 mg.out).1
  refine⟨a4,none,c4,0,rfl,Jq.out,Nat.le_refl _,?_,jM _ _⟩
  refine dS.out.move (by rw[fQ.out.2.2];exact Nat.le_refl _) fun b hb hbw=>⟨⟨Decidable.byContradiction fun h0=> ?_,by rw[fQ.out.2.2];exact hb.2⟩,fQ.out.2.1.block b hbw (fun e:b=w.heap.size+1=> ?_)⟩
  ·have:=(HM.out.new b h0).2
   have h3:w3.heap.size≤b:=hb.1
   omega
  ·have h3:w3.heap.size≤b:=hb.1
   omega
end
structure Mk (i j k l:Nat):Prop where
 ne:i≠0∧j≠0∧k≠0∧l≠0∧i≠j∧i≠k∧i≠l∧j≠k∧j≠l∧k≠l
theorem jC.step {o:Mark} {l:Nat} {w4 w5:World} {g:Nat} {cs:Array Value} {t:TypeId} {W:World} (hM:Marks W o w4) (hs:jC w4 g cs t w5) (hg:o g=l):Step o (fun m=>m=l) w4 o w5:=by
 obtain⟨_,h2,h3⟩:=hs
 refine⟨fun _ _=>rfl,fun b hb hn=>absurd (hM.new b hn).2 (by omega),h2.mono fun x _ (hx:x=g)=>by rw[hx];exact hg⟩
section
variable {W w:World} {o:Mark} {i j k l p:Nat} {M:eF}
theorem aU.tree {o':Mark} {w':World} {t s:Nat} {v:Nat→Value} {T':aK} (hk:Mk i j k l) (h1:w.heap[p]? =some (.cells (wU t s M.now v) 66 (0,0))) (h2:dR o i w s M.s) (h4:∀n,n<8→tT o w (v n) (M.fds n)) (hown:o p=k) (hlow:p<w.heap.size) (hs:Step o (fun m=>m=j) w o' w') (hT:dN o' j w' t T'):aU o' i j k w' p {M with t:=T'}:=by
 obtain⟨n1,n2,n3,n4,n5,n6,n7,n8,n9,n10⟩:=hk.ne
 have h0:¬(fun m=>m=j) 0:=fun e=>n2 e.symm
 exact⟨⟨t,s,v,(hs.block hlow (by rw[hown];exact fun e=>n8 e.symm)).trans h1,h2.step h0 n5 hs,hT,fun n hn=>(h4 n hn).step h0 hs⟩,(hs.old p hlow).trans hown,Nat.lt_of_lt_of_le hlow hs.keep.size⟩
def Ak (o:Mark) (i j k l:Nat) (w:World) (p:Nat) (q:rO×eF) (e:Ending) (w':World):Prop:=
 ∃o',vk o' q.1 e w'∧Step o (fun m=>m=i∨m=j∨m=k∨m=l) w o' w'∧aU o' i j k w' p q.2
def iR (M:eF) (x:kQ):rO×eF:=match jK M x.fd true with
 |none=>(bW 26,M)
 |some f=>if 600<x.data.length then(bW 3,M)else
  (if (dF M.t f.id x.data).1≠0 then bW (dF M.t f.id x.data).1 else⟨0,x.data.length,[],[],none⟩,{M with t:=(dF M.t f.id x.data).2})
set_option maxRecDepth 100000 in
set_option maxHeartbeats 8000000 in
theorem FM {S:Nat→Prop} (hS:aU o i j k w p M) (hM:Marks W o w) (hk:Mk i j k l) (hok:dI M.t) (x:kQ) (hx:jL x) (hfi:∀n f,M.fds n=some f→(Lit.int .i64 f.id).wf=true) (da:Option Addr) (dc:Nat) (hda:aj S w da x.data.length (x.data.map bv)):
  Calls Tryz.prog 41 #[ptr p, .agg (opC x da dc)] w (Ak o i j k l w p (iR M x)):=by
 have HKK:=Lib.hid hk
 have fu:=Lib.hid hok
 have HX:=Lib.hid hx
 have HM:=Lib.hid hM
 have HS:=Lib.hid hS
 have HFI:=Lib.hid hfi
 have j_:=Lib.hid hda
 clear hS hM hk hok hx hfi hda
 unfold opC
 go_enter Tryz.func41,Tryz.ntmps41
 go_wp2_with fail
 obtain⟨w2,hw2⟩:∃w2,w2=(w.alloc (.cells (opC x da dc) 28)).alloc (.cells (b_ (bW 0) none none 0 0) 36):=⟨_,rfl⟩
 have hb2:Below w.heap.size w w2:=by rw[hw2];exact(wall w _).trans ((wall _ _).mono (by simp))
 have hop:w2.heap[w.heap.size]? =some (.cells (opC x da dc) 28 (0,0)):=by
  rw[hw2]
  exact((wall _ _).block _ (by simp)).trans (MapKept.heap_alloc w _).1
 have hre:w2.heap[w.heap.size+1]? =some (.cells (b_ (bW 0) none none 0 0) 36 (0,0)):=by
  rw[hw2]
  have:=(MapKept.heap_alloc (w.alloc (.cells (opC x da dc) 28)) (.cells (b_ (bW 0) none none 0 0) 36)).1
  rw[World.size_alloc]at this
  exact this
 obtain⟨n1,n2,n3,n4,n5,n6,n7,n8,n9,n10⟩:=HKK.out.ne
 obtain⟨o1,hs1,hl1,hl2⟩:=fZ HM.out l (fun b=>b=w.heap.size+1) (w':=w2) (fun b hb=>by subst hb;exact⟨by omega,(Array.getElem?_eq_some_iff.1 hre).1⟩) hb2
 have hS1:aU o1 i j k w2 p M:=HS.out.step (fun e=>n4 e.symm) n7 n9 n10 hs1
 have hM1:Marks W o1 w2:=HM.out.step (fun e=>n4 e.symm) hs1
 have qA:Hid (Calls Tryz.prog 100 #[ptr p, .int .i64 x.fd, .bool true] ((w.alloc (.cells (opC x da dc) 28)).alloc (.cells (b_ (bW 0) none none 0 0) 36)) fun e w''=>w''=w2∧Dv o1 w2 M x.fd true e):=by rw[←hw2];exact Lib.hid (Bn hS1 x.fd true)
 unfold opC b_ bW at qA
 dsimp only[List.length_nil]at qA
 have wV:=Lib.hid hop
 have mg:=Lib.hid hre
 have HB2:=Lib.hid hb2
 have mU:=Lib.hid hS1
 have jB:=Lib.hid hM1
 have ED:=Lib.hid (hl1 _ rfl)
 have Vb:Hid (o1 w.heap.size=0):=Lib.hid ((hl2 w.heap.size (by omega)).trans (Decidable.byContradiction fun h9=>by have:=(HM.out.new _ h9).2;omega))
 have l8:=Lib.hid hs1
 clear hop hre hb2 hw2 hS1 hM1 hl1 hl2 hs1
 (with_reducible refine qA.out.mono ?_)
 rintro e w3 ⟨rfl,sM⟩
 clear qA
 have oQ:Hid (∀(z:rO) (w4 w5:World),Below w3.heap.size w3 w4→jC w4 (w.heap.size+1) (b_ z none none 0 0) 36 w5→z.data=[]→z.names=[]→Ak o i j k l w p (z,M) (.returned (.agg (b_ z none none 0 0))) w5):=fun z w4 w5 hb hs hz1 hz2=>by
  have oG:=jB.out.step (I:=fun _=>False) (fun e=>e) (Step.grow jB.out hb)
  have hst:=hs.step oG ED.out
  have nS:=(mU.out.grow jB.out hb).step (fun e=>n4 e.symm) n7 n9 n10 hst
  refine⟨o1,⟨_,rfl,none,none,0,0,rfl,by rw[hz1];exact Nat.le_refl _,by rw[hz2];exact Nat.le_refl _,by rw[hz1];exact aj.nil _ _ _,by rw[hz2];exact jM _ _⟩,((l8.out.trans (Step.grow jB.out hb)).trans hst).mono fun m hm=> .inr (.inr (.inr hm)),nS⟩
 rcases sM with⟨hg,rfl⟩|⟨f,fv,hg,rfl,Sd⟩
 ·have hr:iR M x=(bW 26,M):=by unfold iR;rw[hg]
  have HRR:=Lib.hid hr
  clear hg hr
  go_wp2_with fail
  (with_reducible refine(gu _ _).mono ?_)
  rintro e w4 ⟨rfl,hb4⟩
  unfold uV
  have iq:=Lib.hid hb4
  have HR4:=Lib.hid ((hb4.block _ (Array.getElem?_eq_some_iff.1 mg.out).1).trans mg.out)
  clear hb4
  go_wp2_with (refine ak (by rfl) 36 _ _ (by rfl) (w.heap.size+1) (b_ (bW 26) none none 0 0) (by rfl) (by rfl) _ HR4.out bA rfl (bD _ _ _ _ _) ?_;intro w5 hs5;have fQ:=Lib.hid hs5;clear hs5)
  exact bJ rfl rfl rfl fQ.out.1 (by rw[HRR.out];exact oQ.out _ _ _ iq.out fQ.out rfl rfl)
 ·by_cases QE:600<x.data.length
  ·have hr:iR M x=(bW 3,M):=by unfold iR;rw[hg];simp only[if_pos QE]
   have HRR:=Lib.hid hr
   have hd:decide ((600:Int)<(x.data.length:Int))=true:=by simp;omega
   have c8:w3.cell? ⟨w.heap.size,8,none⟩=some (.slice da x.data.length dc):=by simp[World.cell?,wV.out,opC]
   clear hg hr Sd QE
   go_wp2_with fail
   (with_reducible refine(gu _ _).mono ?_)
   rintro e w4 ⟨rfl,hb4⟩
   unfold uV
   have iq:=Lib.hid hb4
   have HR4:=Lib.hid ((hb4.block _ (Array.getElem?_eq_some_iff.1 mg.out).1).trans mg.out)
   clear hb4
   go_wp2_with (refine ak (by rfl) 36 _ _ (by rfl) (w.heap.size+1) (b_ (bW 3) none none 0 0) (by rfl) (by rfl) _ HR4.out bA rfl (bD _ _ _ _ _) ?_;intro w5 hs5;have fQ:=Lib.hid hs5;clear hs5)
   exact bJ rfl rfl rfl fQ.out.1 (by rw[HRR.out];exact oQ.out _ _ _ iq.out fQ.out rfl rfl)
  ·have hd:decide ((600:Int)<(x.data.length:Int))=false:=by simp;omega
   have hr:iR M x=(if (dF M.t f.id x.data).1≠0 then bW (dF M.t f.id x.data).1 else⟨0,x.data.length,[],[],none⟩,{M with t:=(dF M.t f.id x.data).2}):=by unfold iR;rw[hg];simp only[if_neg QE]
   have HRR:=Lib.hid hr
   have Nc:(Lit.int .i64 f.id).wf=true:=by
    unfold jK at hg
    split at hg
    ·split at hg
     ·split at hg
      ·cases hg;exact HFI.out _ _ (by assumption)
      ·cases hg
     ·cases hg
    ·cases hg
   obtain⟨q,fa,fc,rfl,hq0,hq1,hq2,hq3,hq4⟩:=Sd
   obtain⟨t,s,v,h1,h2,h3,h4⟩:=(mU.out.grow jB.out (Below.refl _ _).drew).at_
   have h1':w3.heap[p]? =some (.cells (wU t s M.now v) 66 (0,0)):=h1
   obtain⟨z0,z1,z2,z3,z4⟩:=fH h1'
   have y1:w3.cell? ⟨q,1,none⟩=some (.int .i64 f.id):=by simp[World.cell?,hq2]
   have c8:w3.cell? ⟨w.heap.size,8,none⟩=some (.slice da x.data.length dc):=by simp[World.cell?,wV.out,opC]
   have WH:w3.drew.heap[q]? =some (.cells #[.bool f.wr, .int .i64 f.id, .slice fa f.b.length fc] 141 (0,0)):=hq2
   have hod:w3.drew.heap[w.heap.size]? =some (.cells (opC x da dc) 28 (0,0)):=wV.out
   have pR:=jB.out.step (I:=fun _=>False) (fun e=>e) (Step.grow jB.out (Below.refl _ _).drew)
   have Vp:=Lib.hid (Je h3 pR n2 fu.out f.id da x.data.length dc x.data Nc (j_.out.below (HB2.out.trans (Below.refl _ _).drew) (Nat.le_refl _)) HX.out.wd)
   have HC:Hid (∀w':World,w'.heap[w.heap.size]? =some (.cells (opC x da dc) 28 (0,0))→w'.heap[q]? =some (.cells #[.bool f.wr, .int .i64 f.id, .slice fa f.b.length fc] 141 (0,0))→w'.heap[p]? =some (.cells (wU t s M.now v) 66 (0,0))→w'.cell? ⟨p,0,none⟩=some (ptr t)∧w'.cell? ⟨q,1,none⟩=some (.int .i64 f.id)∧w'.cell? ⟨w.heap.size,8,none⟩=some (.slice da x.data.length dc)):=fun w' e1 e2 e3=>by
    refine⟨?_,?_,?_⟩<;>simp[World.cell?,e1,e2,e3,opC,wU]
   have HQ:=Lib.hid (And.intro hq0 (And.intro hq1 WH))
   have Nf:=Lib.hid h1
   have WI:=Lib.hid h2
   have WJ:=Lib.hid h4
   have WK:=Lib.hid hod
   have Sg:=Lib.hid pR
   have hsz:=HB2.out.size
   have hgs:=(Array.getElem?_eq_some_iff.1 mg.out).1
   have Vq:=Lib.hid hgs
   have hps:=mU.out.low
   clear hg hr QE hq0 hq2 hq3 hq4 h1 h1' h2 h3 h4 WH hod pR Nc z0 z1 z2 z3 z4 y1
   obtain⟨ae,hae⟩:∃ae,ae=(dF M.t f.id x.data).1:=⟨_,rfl⟩
   rw[←hae]at Vp HRR
   clear hae
   go_wp2_with fail
   refine wp_region_noPanic ?_
   refine wp_region_held_drew (S:=(fun w'=>w'.cell? ⟨p,0,none⟩=some (ptr t)∧w'.cell? ⟨q,1,none⟩=some (.int .i64 f.id)∧w'.cell? ⟨w.heap.size,8,none⟩=some (.slice da x.data.length dc))) (by kernel_rfl) ?_ (fun hS=> ?_)
   ·exact HC.out _ WK.out HQ.out.2.2 Nf.out
   refine dz 0 (hS:=hS) (h:= ?_)
   refine dz 1 (hS:=hS) (h:= ?_)
   refine dz 2 (hS:=hS) (h:= ?_)
   refine dz 3 (hS:=hS) (h:= ?_)
   refine dz 4 (hS:=hS) (h:= ?_)
   refine dz 5 (hS:=hS) (h:= ?_)
   refine dz 6 (hS:=hS) (h:= ?_)
   refine dz 7 (hS:=hS) (h:= ?_)
   refine dz 8 (hS:=hS) (h:= ?_)
   refine dz 9 (hS:=hS) (h:= ?_)
   refine uW 10 (h:=fun K hK=> ?_)
   go_simp
   (with_reducible refine Vp.out.mono ?_)
   rintro e w4 ⟨rfl,o4,hs4,kN⟩
   have QF:¬(fun m=>m=j) 0:=fun e=>n2 e.symm
   have hq4:=(hs4.block HQ.out.2.1 (by rw[HQ.out.1];exact QF)).trans HQ.out.2.2
   have wW:=(hs4.block hps (by rw[mU.out.own];exact fun e=>n8 e.symm)).trans Nf.out
   have hgo:=Vb.out
   have ou:=(hs4.block (b:=w.heap.size) (Nat.lt_trans (Nat.lt_succ_self _) Vq.out) (by rw[hgo];exact QF)).trans WK.out
   have hr4:=(hs4.block (b:=w.heap.size+1) Vq.out (by rw[ED.out];exact fun e=>n9 e.symm)).trans mg.out
   have nS:=aU.tree (M:=M) HKK.out Nf.out WI.out WJ.out mU.out.own hps hs4 kN
   have oG:=Sg.out.step QF hs4
   have iH:=Lib.hid nS
   have lT:=Lib.hid oG
   have HS4S:=Lib.hid hs4
   have WL:=Lib.hid ((hs4.old _ Vq.out).trans ED.out)
   have HR4:=Lib.hid hr4
   have M7:=Lib.hid (HC.out _ ou hq4 wW)
   have c8':=(HC.out _ ou hq4 wW).2.2
   clear hq4 wW hgo ou hr4 nS oG hs4 kN
   go_wp2_with fail
   refine hK.out _ _ (M7.out) (fun hS=> ?_)
   clear hK K
   try simp only[Act.put,List.setIfInBounds_toArray,List.set_cons_zero,List.set_cons_succ]
   refine dz 11 (hS:=hS) (h:= ?_)
   refine wpAnyH_done (by kernel_rfl) ?_ _
   refine NoPanic.normal ?_
   clear hS
   have Si:Hid (∀(z:rO) (w5 w6:World),Below w4.heap.size w4 w5→jC w5 (w.heap.size+1) (b_ z none none 0 0) 36 w6→z.data=[]→z.names=[]→Ak o i j k l w p (z,{M with t:=(dF M.t f.id x.data).2}) (.returned (.agg (b_ z none none 0 0))) w6):=fun z w5 w6 hb hs hz1 hz2=>by
    have Lu:=lT.out.step (I:=fun _=>False) (fun e=>e) (Step.grow lT.out hb)
    have hst:=hs.step Lu WL.out
    have hS5:=(iH.out.grow lT.out hb).step (fun e=>n4 e.symm) n7 n9 n10 hst
    have hst0:Step o1 (fun m=>m=i∨m=j∨m=k∨m=l) w3 o4 w6:=((Step.behind jB.out (Below.refl _ _).drew (HS4S.out.mono fun m hm=> .inr (.inl hm))).trans (Step.grow lT.out hb)).trans (hst.mono fun m hm=> .inr (.inr (.inr hm)))
    refine⟨o4,⟨_,rfl,none,none,0,0,rfl,by rw[hz1];exact Nat.le_refl _,by rw[hz2];exact Nat.le_refl _,by rw[hz1];exact aj.nil _ _ _,by rw[hz2];exact jM _ _⟩,(l8.out.mono fun m hm=> .inr (.inr (.inr hm))).trans hst0,hS5⟩
   by_cases hz:ae=0
   ·have HZ:=Lib.hid hz
    have hz2:(ae !=0)=false:=by simpa using hz
    clear hz
    go_wp2_with (refine ak (by rfl) 36 _ _ (by rfl) (w.heap.size+1) (b_ ⟨0,x.data.length,[],[],none⟩ none none 0 0) (by rfl) (by rfl) _ HR4.out bA rfl (bD _ _ _ _ _) ?_;intro w5 hs5;have fQ:=Lib.hid hs5;clear hs5)
    exact bJ rfl rfl rfl fQ.out.1 (by rw[HRR.out,if_neg (fun h=>h HZ.out)];exact Si.out _ _ _ (Below.refl _ _) fQ.out rfl rfl)
   ·have HZ:=Lib.hid hz
    have hz2:(ae !=0)=true:=by simpa using hz
    clear hz
    go_wp2_with fail
    (with_reducible refine(gu _ _).mono ?_)
    rintro e w5 ⟨rfl,hb5⟩
    unfold uV
    have jI:=Lib.hid hb5
    have oO:=Lib.hid ((hb5.block _ (Array.getElem?_eq_some_iff.1 HR4.out).1).trans HR4.out)
    clear hb5
    go_wp2_with ((refine ak (by rfl) 36 _ _ (by rfl) (w.heap.size+1) (b_ (bW ae) none none 0 0) (by rfl) (by rfl) _ oO.out bA rfl (bD _ _ _ _ _) ?_);intro w6 hs6;have lg:=Lib.hid hs6;clear hs6)
    exact bJ rfl rfl rfl lg.out.1 (by rw[HRR.out,if_pos HZ.out];exact Si.out _ _ _ jI.out lg.out rfl rfl)
end
theorem yh {M:eF} {n:Int} {b:Bool} {f:EC} (h:jK M n b=some f):∃m:Nat,n=m∧m<8∧M.fds m=some f∧f.wr=b:=by
 unfold jK at h
 split at h
 ·rename_i hn
  split at h
  ·rename_i g hg
   split at h
   ·rename_i hw
    cases h
    exact⟨n.toNat,by omega,by omega,hg,hw⟩
   ·cases h
  ·cases h
 ·cases h
def eF.put (M:eF) (n:Nat) (f:Option EC):eF:={M with fds:=fun m=>if m=n then f else M.fds m}
section
variable {W w:World} {o:Mark} {i j k l p:Nat} {M:eF}
theorem aU.put (h:aU o i j k w p M) (hM:Marks W o w) (hk:Mk i j k l) (n:Nat) (hn:n<8) (v:Value) (f:Option EC) (hf:tT o w v f):Step o (fun m=>m=k) w o (w.setCell ⟨p,3+n,none⟩ v)∧aU o i j k (w.setCell ⟨p,3+n,none⟩ v) p (M.put n f):=by
 obtain⟨n1,n2,n3,n4,n5,n6,n7,n8,n9,n10⟩:=hk.ne
 obtain⟨t,s,vv,h1,h2,h3,h4⟩:=h.at_
 have hz:=size_set w ⟨p,3+n,none⟩ v
 have hst:Step o (fun m=>m=k) w o (w.setCell ⟨p,3+n,none⟩ v):=⟨fun _ _=>rfl,fun b hb hn=>absurd (hM.new b hn).2 (by omega),(Keeps.lN w ⟨p,3+n,none⟩ v).mono fun x _ hx=>by
  have hx:x=p:=hx
  rw[hx];exact h.own⟩
 have h0:¬(fun m=>m=k) 0:=fun e=>n3 e.symm
 refine⟨hst,⟨t,s,fun m=>if m=n then v else vv m,?_,h2.step h0 n6 hst,h3.step h0 n8 hst,fun m hm=> ?_⟩,h.own,by have:=h.low;omega⟩
 ·have:=aX (i:=3+n) (v:=v) h1
  rw[TN t s M.now vv n hn v]at this
  exact this
 ·show tT o _ (if m=n then v else vv m) (if m=n then f else M.fds m)
  by_cases hmn:m=n
  ·rw[if_pos hmn,if_pos hmn];exact hf.step h0 hst
  ·rw[if_neg hmn,if_neg hmn];exact(h4 m hm).step h0 hst
def DJ (o:Mark) (i j k l:Nat) (w:World) (p:Nat) (q:Int×eF) (e:Ending) (w':World):Prop:=
 e= .returned (.int .i64 q.1)∧∃o',Step o (fun m=>m=i∨m=j∨m=k∨m=l) w o' w'∧aU o' i j k w' p q.2
def iT (M:eF) (x:kQ):Int×eF:=match jK M x.fd true with
 |some f=>if (fE M.t f.id x.au).1≠0 then((fE M.t f.id x.au).1,{M with t:=(fE M.t f.id x.au).2})else(0,eF.put {M with t:=(fE M.t f.id x.au).2} x.fd.toNat none)
 |none=>match jK M x.fd false with
  |none=>(26,M)
  |some _=>(0,M.put x.fd.toNat none)
set_option maxRecDepth 100000 in
set_option maxHeartbeats 8000000 in
theorem FN (hS:aU o i j k w p M) (hM:Marks W o w) (hk:Mk i j k l) (x:kQ) (hx:jL x) (hfi:∀n f,M.fds n=some f→(Lit.int .i64 f.id).wf=true) (da:Option Addr) (dc:Nat):
  Calls Tryz.prog 42 #[ptr p, .agg (opC x da dc)] w (DJ o i j k l w p (iT M x)):=by
 have HKK:=Lib.hid hk
 have HX:=Lib.hid hx
 have HM:=Lib.hid hM
 have HFI:=Lib.hid hfi
 have hb1:Below w.heap.size w (w.alloc (.cells (opC x da dc) 28)):=wall w _
 have hM1:=hM.step (I:=fun _=>False) (fun e=>e) (Step.grow hM hb1)
 have hS1:=hS.grow hM hb1
 have hop:(w.alloc (.cells (opC x da dc) 28)).heap[w.heap.size]? =some (.cells (opC x da dc) 28 (0,0)):=(MapKept.heap_alloc w _).1
 obtain⟨w1,hw1⟩:∃w1,w1=w.alloc (.cells (opC x da dc) 28):=⟨_,rfl⟩
 have HF1:Hid (Calls Tryz.prog 100 #[ptr p, .int .i64 x.fd, .bool true] (w.alloc (.cells (opC x da dc) 28)) fun e w''=>w''=w1∧Dv o w1 M x.fd true e):=by rw[←hw1]at hS1⊢;exact Lib.hid (Bn hS1 x.fd true)
 rw[←hw1]at hb1 hM1 hS1 hop
 unfold opC at HF1
 have wV:=Lib.hid hop
 have HB1:=Lib.hid hb1
 have mU:=Lib.hid hS1
 have jB:=Lib.hid hM1
 clear hS hM hk hx hfi hw1 hb1 hM1 hS1 hop
 unfold opC
 go_enter Tryz.func42,Tryz.ntmps42
 go_wp2_with fail
 (with_reducible refine HF1.out.mono ?_)
 rintro e w2 ⟨rfl,sM⟩
 clear HF1
 obtain⟨n1,n2,n3,n4,n5,n6,n7,n8,n9,n10⟩:=HKK.out.ne
 have l8:Hid (Step o (fun m=>m=i∨m=j∨m=k∨m=l) w o w2):=Lib.hid (Step.grow HM.out HB1.out)
 have c3:w2.cell? ⟨w.heap.size,3,none⟩=some (.int .i64 x.fd):=by simp[World.cell?,wV.out,opC]
 rcases sM with⟨hg,rfl⟩|⟨f,fv,hg,rfl,Sd⟩
 ·have HG:=Lib.hid hg
  have HF2:=Lib.hid (Bn mU.out x.fd false)
  clear hg
  go_wp2_with fail
  (with_reducible refine HF2.out.mono ?_)
  rintro e w3 ⟨rfl,hfd2⟩
  rcases hfd2 with⟨hg2,rfl⟩|⟨f,fv,hg2,rfl,Sd⟩
  ·have hr:iT M x=(26,M):=by unfold iT;rw[HG.out,hg2]
   have HRR:=Lib.hid hr
   clear hr hg2
   go_wp2_with fail
   go_ret
   rw[HRR.out]
   exact⟨rfl,o,l8.out,mU.out⟩
  ·obtain⟨m,hm,C_,hfm,hfw⟩:=yh hg2
   have hr:iT M x=(0,M.put x.fd.toNat none):=by unfold iT;rw[HG.out,hg2]
   rw[hm]at hr
   have HRR:=Lib.hid hr
   have Sg:=Lib.hid (jB.out.step (I:=fun _=>False) (fun e=>e) (Step.grow jB.out (Below.refl _ _).drew))
   have nE:=Lib.hid ((mU.out.grow jB.out (Below.refl _ _).drew).put Sg.out HKK.out m C_ (.pointer none) none rfl)
   obtain⟨t,s,v,h1,h2,h3,h4⟩:=mU.out.at_
   obtain⟨z0,z1,z2,z3,z4⟩:=fH h1
   have WM:=z3 m C_
   have WO:=z4 (3+m)
   rw[hm]at c3
   have i0:(0:Int)≤m:=by omega
   have i1:(m:Int)<8:=by omega
   clear hr hg2 hm hfm hfw Sd h1 h2 h3 h4 z0 z1 z2 z3 z4
   go_wp2_with fail
   refine wp_region_noPanic ?_
   refine bH (last:=6) (S:=(fun w'=>w'.cell? ⟨w.heap.size,3,none⟩=some (.int .i64 m)∧w'.cell? ⟨p,3+m,none⟩=some (v m)∧w'.frozen? ⟨p,3+m,none⟩=false)) (by kernel_rfl) ?_ (fun hS=> ?_)
   ·exact⟨c3,WM,WO⟩
   refine bf 0 (hS:=hS) (h:= ?_)
   refine bf 1 (hS:=hS) (h:= ?_)
   refine bf 2 (hS:=hS) (h:= ?_)
   refine bf 3 (hS:=hS) (h:= ?_)
   refine bf 4 (hS:=hS) (h:= ?_)
   refine bf 5 (hS:=hS) (h:= ?_)
   refine jF 6 (h:=fun K hK=> ?_)
   go_simp
   refine hK.out _ _ (fun h=>absurd rfl h) (fun hS=> ?_)
   clear hS hK K
   try simp only[Act.put,List.setIfInBounds_toArray,List.set_cons_zero,List.set_cons_succ]
   refine aT (by kernel_rfl) ?_ _
   refine NoPanic.normal ?_
   go_wp2_with fail
   go_ret
   rw[HRR.out]
   exact⟨rfl,o,((l8.out.trans (Step.grow jB.out (Below.refl _ _).drew)).trans (nE.out.1.mono fun m hm=> .inr (.inr (.inl hm)))),nE.out.2⟩
 ·obtain⟨m,hm,C_,hfm,hfw⟩:=yh hg
  have hr:iT M x=if (fE M.t f.id x.au).1≠0 then((fE M.t f.id x.au).1,{M with t:=(fE M.t f.id x.au).2})else(0,eF.put {M with t:=(fE M.t f.id x.au).2} x.fd.toNat none):=by unfold iT;rw[hg]
  rw[hm]at hr
  have Nc:=HFI.out _ _ hfm
  obtain⟨q,fa,fc,rfl,hq0,hq1,hq2,hq3,hq4⟩:=Sd
  obtain⟨t,s,v,h1,h2,h3,h4⟩:=(mU.out.grow jB.out (Below.refl _ _).drew).at_
  have WH:w2.drew.heap[q]? =some (.cells #[.bool f.wr, .int .i64 f.id, .slice fa f.b.length fc] 141 (0,0)):=hq2
  have hod:w2.drew.heap[w.heap.size]? =some (.cells (opC x da dc) 28 (0,0)):=wV.out
  have pR:=jB.out.step (I:=fun _=>False) (fun e=>e) (Step.grow jB.out (Below.refl _ _).drew)
  have P8:=Lib.hid (Qn h3 pR n2 f.id x.au Nc HX.out.wt.1 HX.out.wt.2)
  have HC:Hid (∀w':World,w'.heap[w.heap.size]? =some (.cells (opC x da dc) 28 (0,0))→w'.heap[q]? =some (.cells #[.bool f.wr, .int .i64 f.id, .slice fa f.b.length fc] 141 (0,0))→w'.heap[p]? =some (.cells (wU t s M.now v) 66 (0,0))→w'.cell? ⟨p,0,none⟩=some (ptr t)∧w'.cell? ⟨q,1,none⟩=some (.int .i64 f.id)∧w'.cell? ⟨w.heap.size,6,none⟩=some (.int .u64 x.au)):=fun w' e1 e2 e3=>by
   refine⟨?_,?_,?_⟩<;>simp[World.cell?,e1,e2,e3,opC,wU]
  have HQ:=Lib.hid (And.intro hq0 (And.intro hq1 WH))
  have Nf:=Lib.hid h1
  have WI:=Lib.hid h2
  have WJ:=Lib.hid h4
  have WK:=Lib.hid hod
  have Sg:=Lib.hid pR
  have hps:=mU.out.low
  have hos:=(Array.getElem?_eq_some_iff.1 wV.out).1
  have hgo:o w.heap.size=0:=Decidable.byContradiction fun h9=>by have:=(HM.out.new _ h9).2;omega
  have Ng:=Lib.hid hgo
  have HRR:=Lib.hid hr
  have HMI:=Lib.hid hm
  obtain⟨T2,LC⟩:∃T2,T2=(fE M.t f.id x.au).2:=⟨_,rfl⟩
  obtain⟨ae,hae⟩:∃ae,ae=(fE M.t f.id x.au).1:=⟨_,rfl⟩
  rw[←hae,←LC]at P8 HRR
  have i0:(0:Int)≤m:=by omega
  have i1:(m:Int)<8:=by omega
  clear hg hr hm hfm hfw Nc hq0 hq2 hq3 hq4 h1 h2 h3 h4 WH hod pR hae LC hgo
  go_wp2_with fail
  refine wp_region_noPanic ?_
  refine wp_region_held_drew (S:=(fun w'=>w'.cell? ⟨p,0,none⟩=some (ptr t)∧w'.cell? ⟨q,1,none⟩=some (.int .i64 f.id)∧w'.cell? ⟨w.heap.size,6,none⟩=some (.int .u64 x.au))) (by kernel_rfl) ?_ (fun hS=> ?_)
  ·exact HC.out _ WK.out HQ.out.2.2 Nf.out
  refine dz 0 (hS:=hS) (h:= ?_)
  refine dz 1 (hS:=hS) (h:= ?_)
  refine dz 2 (hS:=hS) (h:= ?_)
  refine dz 3 (hS:=hS) (h:= ?_)
  refine dz 4 (hS:=hS) (h:= ?_)
  refine dz 5 (hS:=hS) (h:= ?_)
  refine dz 6 (hS:=hS) (h:= ?_)
  refine dz 7 (hS:=hS) (h:= ?_)
  refine dz 8 (hS:=hS) (h:= ?_)
  refine dz 9 (hS:=hS) (h:= ?_)
  refine uW 10 (h:=fun K hK=> ?_)
  go_simp
  (with_reducible refine P8.out.mono ?_)
  rintro e w4 ⟨rfl,o4,hs4,kN⟩
  have QF:¬(fun m=>m=j) 0:=fun e=>n2 e.symm
  have hq4:=(hs4.block HQ.out.2.1 (by rw[HQ.out.1];exact QF)).trans HQ.out.2.2
  have wW:=(hs4.block hps (by rw[mU.out.own];exact fun e=>n8 e.symm)).trans Nf.out
  have ou:=(hs4.block (b:=w.heap.size) hos (by rw[Ng.out];exact QF)).trans WK.out
  have nS:=aU.tree (M:=M) HKK.out Nf.out WI.out WJ.out mU.out.own hps hs4 kN
  have oG:=Sg.out.step QF hs4
  have iH:=Lib.hid nS
  have lT:=Lib.hid oG
  have tX:=Lib.hid (l8.out.trans (Step.behind jB.out (Below.refl _ _).drew (hs4.mono (J:=fun m=>m=i∨m=j∨m=k∨m=l) fun m hm=> .inr (.inl hm))))
  have M7:=Lib.hid (HC.out _ ou hq4 wW)
  have HMD4:=Lib.hid (oG.step (I:=fun _=>False) (fun e=>e) (Step.grow oG (Below.refl _ _).drew))
  have nE:=Lib.hid ((nS.grow oG (Below.refl _ _).drew).put HMD4.out HKK.out m C_ (.pointer none) none rfl)
  obtain⟨t',s',v',k1,k2,k3,k4⟩:=nS.at_
  obtain⟨z0,z1,z2,z3,z4⟩:=fH k1
  have WM:=z3 m C_
  have WO:=z4 (3+m)
  have c3':w4.cell? ⟨w.heap.size,3,none⟩=some (.int .i64 m):=by rw[←HMI.out];simp[World.cell?,ou,opC]
  clear hq4 wW ou nS oG hs4 kN k1 k2 k3 k4 z0 z1 z2 z3 z4
  go_wp2_with fail
  refine hK.out _ _ (M7.out) (fun hS=> ?_)
  clear hK K
  try simp only[Act.put,List.setIfInBounds_toArray,List.set_cons_zero,List.set_cons_succ]
  refine dz 11 (hS:=hS) (h:= ?_)
  refine wpAnyH_done (by kernel_rfl) ?_ _
  refine NoPanic.normal ?_
  clear hS c3
  by_cases hz:ae=0
  ·have HZ:=Lib.hid hz
   have hz2:(ae !=0)=false:=by simpa using hz
   clear hz
   go_wp2_with fail
   refine wp_region_noPanic ?_
   refine bH (last:=6) (S:=(fun w'=>w'.cell? ⟨w.heap.size,3,none⟩=some (.int .i64 m)∧w'.cell? ⟨p,3+m,none⟩=some (v' m)∧w'.frozen? ⟨p,3+m,none⟩=false)) (by kernel_rfl) ?_ (fun hS=> ?_)
   ·exact⟨c3',WM,WO⟩
   refine bf 0 (hS:=hS) (h:= ?_)
   refine bf 1 (hS:=hS) (h:= ?_)
   refine bf 2 (hS:=hS) (h:= ?_)
   refine bf 3 (hS:=hS) (h:= ?_)
   refine bf 4 (hS:=hS) (h:= ?_)
   refine bf 5 (hS:=hS) (h:= ?_)
   refine jF 6 (h:=fun K hK=> ?_)
   go_simp
   refine hK.out _ _ (fun h=>absurd rfl h) (fun hS=> ?_)
   clear hS hK K
   try simp only[Act.put,List.setIfInBounds_toArray,List.set_cons_zero,List.set_cons_succ]
   refine aT (by kernel_rfl) ?_ _
   refine NoPanic.normal ?_
   go_wp2_with fail
   go_ret
   rw[HRR.out,if_neg (fun h=>h HZ.out)]
   exact⟨rfl,o4,((tX.out.trans (Step.grow lT.out (Below.refl _ _).drew)).trans (nE.out.1.mono fun m hm=> .inr (.inr (.inl hm)))),nE.out.2⟩
  ·have HZ:=Lib.hid hz
   have hz2:(ae !=0)=true:=by simpa using hz
   clear hz
   go_wp2_with fail
   go_ret
   rw[HRR.out,if_pos HZ.out]
   exact⟨rfl,o4,tX.out,iH.out⟩
end
end Go.Proofs.YtmabllemjkcobaaGreatDoor
