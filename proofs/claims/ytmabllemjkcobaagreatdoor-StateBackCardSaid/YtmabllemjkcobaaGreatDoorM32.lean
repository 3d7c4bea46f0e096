/- package state: keep. package state: IDs are small. DERIVED: THE SHELF's CONTRACTS AT THIS DUMP, IN PLAIN WORDS (tools/lay-plain.mjs out of 'YtmabllemjkcobaaGreatDoorLaypOneLay.lean', which tools/lay-shelf.mjs wrote): THE SAME DECLARATIONS UNDER THE SAME NAMES: 'import', 'namespace', 'open', 'def', 'theorem' AND NOTHING ELSE: no command of the shelf's: FOR A HAND-IN. Each laying: the table of numbers ('.._ren') and one theorem, a field a fact of the dump's own or the kernel's comparison; each contract: ONE APPLICATION. slices.Concat of rows of snapshots. worm.Live, worm.Bound of a tree. package snap: All. -/
import Derived.Test.YtmabllemjkcobaaGreatDoorM31
import Derived.Test.YtmabllemjkcobaaGreatDoorM13
import Derived.Test.YtmabllemjkcobaaGreatDoorProg
import Derived.Shelf.Spec.SlicesGrow
import Derived.Test.YtmabllemjkcobaaGreatDoorM23
import Derived.Test.YtmabllemjkcobaaGreatDoorM19
import Derived.Test.YtmabllemjkcobaaGreatDoorM14
import Derived.Test.YtmabllemjkcobaaGreatDoorM11
namespace Go.Proofs.YtmabllemjkcobaaGreatDoor
open Go.ChangeShapes Go.WideShapes Go.ChangeAt Go.RowKit
set_option linter.unusedVariables false
set_option linter.unusedSimpArgs false
def kG (M:eF) (ls:List Nm) (au:Int):Int×eF:=
 if (bU M.t ls).er≠0 then((bU M.t ls).er,M)else
 if pV (bU M.t ls).k (bU M.t ls).u (bU M.t ls).c au≠0 then(pV (bU M.t ls).k (bU M.t ls).u (bU M.t ls).c au,M)else
 ((gU M.t (bU M.t ls).i au).1,{M with t:=(gU M.t (bU M.t ls).i au).2})
section
variable {W w:World} {o:Mark} {i j k l p:Nat} {M:eF}
set_option maxRecDepth 100000 in
set_option maxHeartbeats 4000000 in
theorem JZ {S:Nat→Prop} (hS:aU o i j k w p M) (hM:Marks W o w) (hk:Mk i j k l) (hok:dI M.t) (a:Option Addr) (n c:Nat) (ls:List Nm) (hls:aO S w a n (ls.map strOf)) (hnc:n≤c) (nD:n≤1000000) (hid:(Lit.int .i64 (bq M.t ls).1).wf=true) (au:Int) (ht:0≤au∧au≤18446744073709551615) (hxi:(Lit.int .i64 (bU M.t ls).i).wf=true):
  Calls Tryz.prog 48 #[ptr p, .slice a n c, .int .u64 au] w (DJ o i j k l w p (kG M ls au)):=by
 have HN:=Lib.hid (Al hS hM hok a n c ls hls hid)
 rw[yt]at HN
 have HKK:=Lib.hid hk
 have fu:=Lib.hid hok
 have HM:=Lib.hid hM
 have HS:=Lib.hid hS
 have Sj:=Lib.hid hls
 have hr:kG M ls au=kG M ls au:=rfl
 conv at hr=>rhs;unfold kG
 have HR:=Lib.hid hr
 clear hS hM hk hok hls hid hr
 have HXI:=Lib.hid hxi
 clear hxi
 generalize bU M.t ls=X at HN HR HXI
 obtain⟨xi,xk,xl,xs,xu,xc,xe⟩:=X
 unfold DT.cells at HN
 go_enter Tryz.func48,Tryz.ntmps48
 go_wp2_with fail
 (with_reducible refine HN.out.mono ?_)
 rintro e w1 ⟨rfl,hb1⟩
 have HB1:=Lib.hid hb1
 have HB2:Hid (Below w.heap.size w (w1.alloc (.cells #[.int .i64 xi, .int .i64 xk, .int .i64 xl, .int .i64 xs, .int .u64 xu, .bool xc] 34))):=Lib.hid (hb1.trans ((wall _ _).mono hb1.size))
 obtain⟨n1,n2,n3,n4,n5,n6,n7,n8,n9,n10⟩:=HKK.out.ne
 clear hb1 HN
 by_cases hz:xe=0
 ·have HZ:=Lib.hid hz
  have hz2:(xe==0)=true:=by simpa using hz
  clear hz
  obtain⟨w2,hw2⟩:∃w2,w2=w1.alloc (.cells #[.int .i64 xi, .int .i64 xk, .int .i64 xl, .int .i64 xs, .int .u64 xu, .bool xc] 34):=⟨_,rfl⟩
  have hnd:w2.heap[w1.heap.size]? =some (.cells #[.int .i64 xi, .int .i64 xk, .int .i64 xl, .int .i64 xs, .int .u64 xu, .bool xc] 34 (0,0)):=by rw[hw2];exact(MapKept.heap_alloc w1 _).1
  rw[←hw2]at HB2
  have hS2:=HS.out.grow HM.out HB2.out
  have hM2:=HM.out.step (I:=fun _=>False) (fun e=>e) (Step.grow HM.out HB2.out)
  obtain⟨t,s,v,h1,h2,h3,h4⟩:=hS2.at_
  have hps:=hS2.low
  have HC:Hid (∀w',Below w2.heap.size w2 w'→w'.cell? ⟨w1.heap.size,0,none⟩=some (.int .i64 xi)∧w'.cell? ⟨w1.heap.size,1,none⟩=some (.int .i64 xk)∧w'.cell? ⟨w1.heap.size,2,none⟩=some (.int .i64 xl)∧w'.cell? ⟨w1.heap.size,3,none⟩=some (.int .i64 xs)∧w'.cell? ⟨w1.heap.size,4,none⟩=some (.int .u64 xu)∧w'.cell? ⟨w1.heap.size,5,none⟩=some (.bool xc)∧w'.cell? ⟨p,2,none⟩=some (.int .u64 M.now)∧w'.cell? ⟨p,0,none⟩=some (ptr t)):=fun w' hb=>by
   have e1:=(hb.block _ (Array.getElem?_eq_some_iff.1 hnd).1).trans hnd
   have e2:=(hb.block _ hps).trans h1
   refine⟨?_,?_,?_,?_,?_,?_,?_,?_⟩<;>simp[World.cell?,e1,e2,wU]
  have HUN:Hid (∀w',Below w2.heap.size w2 w'→Calls Tryz.prog 112 #[ptr t, .int .i64 xi, .int .u64 au] w' fun e w4=>DJ o i j k l w p ((gU M.t xi au).1,{M with t:=(gU M.t xi au).2}) e w4∧∀b,b<w'.heap.size→o b≠j→w4.heap[b]? =w'.heap[b]?):=fun w' hb=>by
   have PY:=hM2.step (I:=fun _=>False) (fun e=>e) (Step.grow hM2 hb)
   have EA:=hS2.grow hM2 hb
   have hst:Step o (fun m=>m=i∨m=j∨m=k∨m=l) w o w':=(Step.grow HM.out HB2.out).trans (Step.grow hM2 hb)
   have g1:=(hb.block p hps).trans h1
   have g2:=h2.grow hM2 hb
   have g4:∀n,n<8→tT o w' (v n) (M.fds n):=fun n hn=>(h4 n hn).grow hb
   refine(Qo (h3.grow hb) PY n2 fu.out xi au HXI.out ht.1 ht.2).mono ?_
   rintro e w4 ⟨rfl,o4,hs4,kN⟩
   exact⟨⟨rfl,o4,hst.trans (hs4.mono fun m hm=> .inr (.inl hm)),aU.tree (M:=M) HKK.out g1 g2 g4 EA.own EA.low hs4 kN⟩,fun b hb' hn=>hs4.block hb' hn⟩
  have oK:=Lib.hid (Array.getElem?_eq_some_iff.1 hnd).1
  have HO0:Hid (o w1.heap.size=0):=Lib.hid (Decidable.byContradiction fun h9=>by have:=(HM.out.new _ h9).2;have:=HB1.out.size;omega)
  have Nk:=hw2
  clear h1 h2 h3 h4 hnd hS2 hM2 hw2
  go_wp2_with fail
  rw[←Nk]
  clear Nk
  (with_reducible refine(JY xi xk xl xs xu xc au _).mono ?_)
  rintro e w3 ⟨rfl,hb3⟩
  have HB3:Hid (Below w2.heap.size w2 w3):=Lib.hid hb3
  obtain⟨r0,_,_,_,_,_,_,q0⟩:=HC.out _ hb3
  have Vs:=Lib.hid (HUN.out _ (HB3.out.trans (Below.refl _ _).drew))
  have J2:=Lib.hid (fun w' hb=>HC.out w' (HB3.out.trans hb))
  obtain⟨re,hre⟩:∃re,re=pV xk xu xc au:=⟨_,rfl⟩
  rw[←hre]
  have mg:=Lib.hid hre
  clear hre hb3
  by_cases hy:re=0
  ·have HY:=Lib.hid hy
   have hy2:(re !=0)=false:=by simpa using hy
   clear hy
   go_wp2_with fail
   refine wp_region_noPanic ?_
   refine wp_region_held_drew (S:=(fun w'=>(∃c,w'.cell? ⟨p,0,none⟩=some c)∧w'.cell? ⟨p,0,none⟩=some (ptr t)∧w'.cell? ⟨w1.heap.size,0,none⟩=some (.int .i64 xi))) (by kernel_rfl) ?_ (fun hS=> ?_)
   ·exact⟨⟨_,q0⟩,q0,r0⟩
   refine dz 0 (hS:=hS) (h:= ?_)
   refine dz 1 (hS:=hS) (h:= ?_)
   refine dz 2 (hS:=hS) (h:= ?_)
   refine dz 3 (hS:=hS) (h:= ?_)
   refine dz 4 (hS:=hS) (h:= ?_)
   refine dz 5 (hS:=hS) (h:= ?_)
   refine dz 6 (hS:=hS) (h:= ?_)
   refine uW 7 (h:=fun K hK=> ?_)
   go_simp
   (with_reducible refine Vs.out.mono ?_)
   rintro e w4 ⟨⟨rfl,hex⟩,hbl⟩
   have HO:=Lib.hid hex
   have hp9:=hbl p (Nat.lt_of_lt_of_le hps HB3.out.size) (by rw[HS.out.own];exact fun e=>n8 e.symm)
   have Ug:=hbl w1.heap.size (Nat.lt_of_lt_of_le oK.out HB3.out.size) (by rw[HO0.out];exact fun e=>n2 e.symm)
   have M7:Hid ((∃c,w4.cell? ⟨p,0,none⟩=some c)∧w4.cell? ⟨p,0,none⟩=some (ptr t)∧w4.cell? ⟨w1.heap.size,0,none⟩=some (.int .i64 xi)):=by
    have e1:w4.cell? ⟨p,0,none⟩=some (ptr t):=by
     have:w4.cell? ⟨p,0,none⟩=w3.drew.cell? ⟨p,0,none⟩:=by simp only[World.cell?,hp9]
     rw[this];exact q0
    have e2:w4.cell? ⟨w1.heap.size,0,none⟩=some (.int .i64 xi):=by
     have:w4.cell? ⟨w1.heap.size,0,none⟩=w3.drew.cell? ⟨w1.heap.size,0,none⟩:=by simp only[World.cell?,Ug]
     rw[this];exact r0
    exact Lib.hid ⟨⟨_,e1⟩,e1,e2⟩
   clear hex hbl hp9 Ug
   go_wp2_with fail
   refine hK.out _ _ (M7.out) (fun hS=> ?_)
   clear hK K
   try simp only[Act.put,List.setIfInBounds_toArray,List.set_cons_zero,List.set_cons_succ]
   refine dz 8 (hS:=hS) (h:= ?_)
   refine wpAnyH_done (by kernel_rfl) ?_ _
   refine NoPanic.normal ?_
   go_wp2_with fail
   go_ret
   have e2:kG M ls au=((gU M.t xi au).1,{M with t:=(gU M.t xi au).2}):=HR.out.trans ((if_neg (fun h=>h HZ.out)).trans (if_neg (fun h=>h (mg.out.symm.trans HY.out))))
   rw[e2]
   exact⟨rfl,HO.out⟩
  ·have HY:=Lib.hid hy
   have hy2:(re !=0)=true:=by simpa using hy
   clear hy
   go_wp2_with fail
   go_ret
   have e2:kG M ls au=(re,M):=HR.out.trans ((if_neg (fun h=>h HZ.out)).trans ((if_pos (fun h=>HY.out (mg.out.trans h))).trans (by rw[←mg.out])))
   rw[e2]
   have hb:=HB2.out.trans (HB3.out.mono HB2.out.size)
   exact⟨rfl,o,Step.grow HM.out hb,HS.out.grow HM.out hb⟩
 ·have HZ:=Lib.hid hz
  have hz2:(xe==0)=false:=by simpa using hz
  have hz3:(xe !=0)=true:=by simpa using hz
  clear hz
  go_wp2_with fail
  go_ret
  have e2:kG M ls au=(xe,M):=HR.out.trans (if_pos HZ.out)
  rw[e2]
  exact⟨rfl,o,Step.grow HM.out HB2.out,HS.out.grow HM.out HB2.out⟩
end
theorem Ap {T:aK}:∀(p:List Nm) (id:Int),(aD T id p).2≠0→(aD T id p).1=0
 |[],id,h=>absurd rfl h
 |n::r,id,h=>by
  unfold aD at h⊢
  split
  ·rfl
  ·rename_i x hx
   rw[hx]at h
   dsimp only at h
   split
   ·rename_i hk
    rw[if_pos hk]at h
    split
    ·rfl
    ·rename_i k hk2
     rw[hk2]at h
     exact Ap r k h
   ·rfl
theorem yu {T:aK} (hT:dI T) (ls:List Nm):0≤(bq T ls).1∧(bq T ls).1≤65535:=by
 unfold bq
 by_cases hf:bG ls≠0
 ·rw[if_pos hf];simp
 ·rw[if_neg hf]
  by_cases h2:(aD T 0 ls).2=0
  ·have h3:=mR (T:=T) (p:=ls) (id:=(aD T 0 ls).1) (Prod.ext rfl h2) hT
   cases hx:ah (aD T 0 ls).1 T with
   |none=>rw[hx]at h3;cases h3
   |some x=>have:=hT.ids _ x hx;omega
  ·rw[Ap ls 0 h2];simp
theorem tZ {T:aK} (hT:dI T) (ls:List Nm):(Lit.int .i64 (bq T ls).1).wf=true:=by
 have:=yu hT ls
 exact gB (by omega) (by omega)
theorem J3 {T:aK} (hT:dI T) (ls:List Nm):(Lit.int .i64 (bU T ls).i).wf=true:=by
 have:=yu hT ls
 unfold bU
 split
 ·exact gB (by simp) (by simp)
 ·split
  ·exact gB (by simp;omega) (by simp;omega)
  ·exact gB (by simp) (by simp)
end Go.Proofs.YtmabllemjkcobaaGreatDoor
namespace Go.Proofs
open Go.Shelf
def Tryz.vo:Go.Shelf.Ren:=⟨fun|4=>182|n=>n,fun|22=>99|25=>105|3=>3|4=>4|9=>9|20=>20|0=>0|n=>n,fun|n=>n⟩
theorem Tryz.Sk:Go.Proofs.Lays8.n4 Tryz.prog Tryz.vo:={
 mixed:=by kernel_rfl
 f4:=⟨Tryz.f182.name,by decide,Tryz.func182.trans (congrArg some (by kernel_rfl))⟩
 t0:=Tryz.underlying0
 a0:=Tryz.isAgg0
 z0:=Tryz.sizeOf0
 v0:=Tryz.zeroValue0
 t3:=Tryz.underlying3
 a3:=Tryz.isAgg3
 z3:=Tryz.sizeOf3
 v3:=Tryz.zeroValue3
 t4:=Tryz.underlying4
 a4:=Tryz.isAgg4
 z4:=Tryz.sizeOf4
 v4:=Tryz.zeroValue4
 t9:=Tryz.underlying9
 a9:=Tryz.isAgg9
 z9:=Tryz.sizeOf9
 v9:=Tryz.zeroValue9
 t20:=Tryz.underlying20
 a20:=Tryz.isAgg20
 z20:=Tryz.sizeOf20
 v20:=Tryz.zeroValue20
 t22:=Tryz.underlying99
 a22:=Tryz.isAgg99
 z22:=Tryz.sizeOf99
 v22:=Tryz.zeroValue99}
end Go.Proofs
namespace Go.Proofs.YtmabllemjkcobaaGreatDoor
open Go.ChangeShapes Go.WideShapes Go.ChangeAt Go.RowKit
set_option linter.unusedVariables false
set_option linter.unusedSimpArgs false
theorem Bq:(Tryz.prog.info? 105).map (fun i=>(i.zero,i.size,i.bytes))=some (some (.agg #[.int .i64 0, .slice none 0 0, .pointer none]),3,40):=by kernel_rfl
theorem J4 (n:Nat) (w:World) (hn:n≤1000000):
  Calls Tryz.prog 182 #[.slice none 0 0, .int .i64 n] w fun e w'=>∃v,e= .returned v∧w'.ownsRow w.heap.size 105 3 v 0 []∧Below w.heap.size w w':=by
 obtain⟨i0,hi,hz0,hz1,hz2⟩:=info_parts Bq
 by_cases h0:n=0
 ·subst h0
  refine(Any8.slices_Grow_room Tryz.Sk none 0 0 0 w (by omega) (by omega) (by omega) (by omega)).mono ?_
  rintro e w' ⟨rfl,rfl⟩
  exact⟨_,rfl,⟨rfl, .inl ⟨rfl,rfl⟩⟩,Below.refl _ _⟩
 ·refine(Any8.slices_Grow_grow Tryz.Sk i0 (.agg #[.int .i64 0, .slice none 0 0, .pointer none]) hi hz0 (by rw[hz1];omega) none 0 0 n [] w (by omega) (by omega) (by rw[hz2];omega) (by omega) (by simp) (fun _=>rfl) (fun a h=>by cases h)).mono ?_
  rintro e w' ⟨rfl,rfl⟩
  have h1:=grownCap_ge w (0+n) 0 (Tryz.vo.t 25)
  have h2:=grownCap_le_maxLen w (0+n) 0 (Tryz.vo.t 25) (by unfold maxLen;omega)
  refine⟨_,rfl,⟨rfl, .inr ⟨w.heap.size,_,_,rfl,Nat.le_refl _,(MapKept.heap_alloc w.drew _).1,Nat.zero_le _,h2,?_,rfl⟩⟩,((Below.refl _ _).drew).alloc (Nat.le_refl _) _⟩
  have e1:(Value.cells (.agg #[.int .i64 0, .slice none 0 0, .pointer none])).size=3:=rfl
  simp only[Array.size_append,size_zeroCells,List.size_toArray,List.length_nil,e1]
  omega
theorem yw (fV:List (List Value)) (k:Nat) (bs:List Value) (h:fV[k]? =some bs):(fV.take (k+1)).flatten=(fV.take k).flatten++bs:=by
 obtain⟨hk,e⟩:=List.getElem?_eq_some_iff.1 h
 rw[List.take_succ_eq_append_getElem hk,List.flatten_append,e]
 simp
theorem Nl (fV:List (List Value)) (k:Nat):(fV.take k).flatten.length≤fV.flatten.length:=by
 conv=>rhs;rw[←List.take_append_drop k fV,List.flatten_append]
 simp
def jr (fV:List (List Value)) (k:Nat):List Value:=(fV.take k).flatten
def iJ (fV:List (List Value)) (k:Nat):Nat:=(jr fV k).length/3
theorem vU (fV:List (List Value)):iJ fV 0=0:=by simp[iJ,jr]
set_option maxRecDepth 100000 in
set_option maxHeartbeats 4000000 in
theorem DV {S:Nat→Prop} (B n N:Nat) (fV:List (List Value)) (w:World) (hn:n=fV.length) (hn2:n≤1000) (hB:B<w.heap.size) (hN:fV.flatten.length=N*3) (htot:N≤100000)
  (hc:∀k,k<n→∃a l c bs,w.cell? ⟨B,k,none⟩=some (.slice a l c)∧aj S w a (l*3) bs∧fV[k]? =some bs∧∀u∈bs,u.oneCell'=true):
  Calls Tryz.prog 115 #[.slice (some ⟨B,0,none⟩) n n] w fun e w'=>∃v,e= .returned v∧w'.ownsRow w.heap.size 105 3 v N fV.flatten∧Below w.heap.size w w':=by
 obtain⟨i0,hi,hz0,hz1,hz2⟩:=info_parts Bq
 have HN:=Lib.hid hn
 have HC:=Lib.hid hc
 have hle:∀k,iJ fV k≤N:=fun k=>by have:=Nl fV k;unfold iJ jr;omega
 obtain⟨fl,EU⟩:∃fl,fl=fV.flatten:=⟨_,rfl⟩
 have gF:=Lib.hid hN
 rw[←EU]
 have Za:=Lib.hid EU
 clear hN EU
 have rU:=Lib.hid hle
 have hG:=J4 N w (by omega)
 have HG:=Lib.hid hG
 clear hn hc hle hG
 go_enter Tryz.func115,Tryz.ntmps115
 go_wp2
 go_loop [3,11] (fun s i=>∃k:Nat,k≤n∧i= .int .i64 k∧s= .int .i64 (iJ fV k)) (fun _ i=>n-(intOf i).toNat)
 case atStart=>exact⟨0,by omega,rfl,by rw[vU];rfl⟩
 case round=>
  obtain⟨k,hk,rfl,rfl⟩:=hrel
  have hlk:=rU.out k
  by_cases hlt:k<n
  ·obtain⟨a,l,c,bs,hcell,hS,hp,h1⟩:=HC.out k hlt
   have hll:bs.length=l*3:=hS.length
   have rT:Hid (iJ fV (k+1)=iJ fV k+l):=by
    have:iJ fV (k+1)=iJ fV k+l:=by
     unfold iJ jr
     rw[yw fV k bs hp,List.length_append,hll]
     omega
    exact Lib.hid this
   have hlk2:iJ fV k+l≤100000:=by have:=rT.out;have:=rU.out (k+1);omega
   clear hp hS h1
   go_wp2
   go_round
   case rel=>exact⟨k+1,by omega,by go_num,by rw[rT.out];go_num⟩
   case measure=>simp[intOf];omega
  ·obtain rfl:n=k:=by omega
   have HT:Hid (jr fV n=fl∧iJ fV n=N):=by
    have:fV.take n=fV:=List.take_of_length_le (by have:=HN.out;omega)
    unfold iJ jr
    rw[this];exact⟨Za.out.symm,by rw[gF.out];omega⟩
   rw[HT.out.2]
   go_wp2_with fail
   (with_reducible refine HG.out.mono ?_)
   rintro e w1 ⟨v,rfl,hown,hb1⟩
   have HB1:=Lib.hid hb1
   have hown0:w1.ownsRow w.heap.size 105 3 v (iJ fV 0) (jr fV 0):=by rw[vU];exact hown
   have HO:=Lib.hid hown0
   clear hb1 hown hown0 HG
   go_wp2_with fail
   go_loopw [6,27] (fun v i wr=>∃k:Nat,k≤n∧i= .int .i64 k∧wr.ownsRow w.heap.size 105 3 v (iJ fV k) (jr fV k)∧Below w.heap.size w wr) (fun _ i _=>n-(intOf i).toNat)
   case atStart=>exact⟨0,by omega,rfl,HO.out,HB1.out⟩
   case round=>
    obtain⟨k,hk,rfl,hown,hb⟩:=hrel
    have hbs:=hb.size
    by_cases hlt:k<n
    ·obtain⟨a,l,c,bs,hcell0,hS,hp,h1⟩:=HC.out k hlt
     have hcell:=(hb.cell (p:=⟨B,k,none⟩) hB).trans hcell0
     have hll:bs.length=l*3:=hS.length
     have rT:Hid (jr fV (k+1)=jr fV k++bs∧iJ fV (k+1)=iJ fV k+l):=by
      have e1:jr fV (k+1)=jr fV k++bs:=by unfold jr;exact yw fV k bs hp
      exact Lib.hid ⟨e1,by unfold iJ;rw[e1,List.length_append,hll];omega⟩
     have hlk2:iJ fV k+l≤100000:=by have:=rT.out.2;have:=rU.out (k+1);omega
     have HS:=Lib.hid (hS.below hb (Nat.le_refl _))
     have HOW:=Lib.hid hown
     have HB:=Lib.hid hb
     have H1:=Lib.hid h1
     clear hp hS hown hb hcell0 hlk hll h1
     go_wp2_with (at_builtin;refine eD (by rfl) _ _ 99 (by rfl) w.heap.size 105 i0 _ 3 40 Tryz.underlying99 hi hz0 hz1 hz2 rfl (by omega) _ _ _ (by rfl) HOW.out a l c bs (by rfl) HS.out H1.out (by unfold maxLen;omega) (by omega) hbs ?_;intro A' c' w2 hown2 hb2)
     have VK:=Lib.hid hown2
     have HB2:=Lib.hid hb2
     clear hown2 hb2
     go_roundw
     case rel=>
      refine⟨k+1,by omega,by go_num,?_,HB.out.trans HB2.out⟩
      rw[rT.out.1,rT.out.2]
      exact VK.out
     case measure=>simp[intOf];omega
    ·obtain rfl:n=k:=by omega
     rw[HT.out.1,HT.out.2]at hown
     obtain⟨a,c,rfl,hac⟩:=zT hown
     have HOW:=Lib.hid hown
     have HB:=Lib.hid hb
     clear hown hb
     go_wp2
     go_ret
     exact⟨_,rfl,HOW.out,HB.out⟩
theorem H9:(Tryz.prog.info? 3).map (fun i=>(i.zero,i.size,i.bytes))=some (some (.int .i64 0),1,8):=by kernel_rfl
def vw (x:eB) (now:Int):Bool:=decide (x.kind=1)&&x.closed&&decide (now<x.au)
def lV (T:aK) (now:Int):List Int:=(T.filter fun q=>vw q.2 now).map (·.1)
theorem FQ {T:aK} {now:Int} {k:Nat} {q:Int×eB} (h:T[k]? =some q):lV (T.take (k+1)) now=lV (T.take k) now++if vw q.2 now then[q.1]else[]:=by
 obtain⟨hk,e⟩:=List.getElem?_eq_some_iff.1 h
 unfold lV
 rw[List.take_succ_eq_append_getElem hk,e,List.filter_append,List.map_append]
 congr 1
 by_cases hl:vw q.2 now<;>simp[hl]
theorem J5 (T:aK) (now:Int) (k:Nat):(lV (T.take k) now).length≤k:=by
 unfold lV
 rw[List.length_map]
 refine Nat.le_trans (List.length_filter_le _ _) ?_
 rw[List.length_take];omega
theorem DW (zs:List Int):∀u∈zs.map (Value.int .i64),u.oneCell'=true:=by
 intro u hu;obtain⟨x,_,rfl⟩:=List.mem_map.1 hu;rfl
theorem J6 {w w':World} {base:Nat} {e:TypeId} {size:Nat} {v:Value} {n:Nat} {xs:List Value} {fp:Nat→Prop} (h:w.ownsRow base e size v n xs) (hK:Keeps fp w w') (hn:∀b,v.ownBlock=some b→¬fp b):w'.ownsRow base e size v n xs:=by
 refine⟨h.1,?_⟩
 rcases h.2 with h0|⟨g,cap,cur,rfl,hb,hg,r⟩
 ·exact .inl h0
 ·exact .inr ⟨g,cap,cur,rfl,hb,(hK.block g (Array.getElem?_eq_some_iff.1 hg).1 (hn g rfl)).trans hg,r⟩
theorem wX {w:World} {base:Nat} {e:TypeId} {size:Nat} {v:Value} {n:Nat} {xs:List Value} (h:w.ownsRow base e size v n xs):∀b,v.ownBlock=some b→b<w.heap.size:=by
 intro b hb
 rcases h.2 with⟨rfl,_⟩|⟨g,cap,cur,rfl,_,hg,_⟩
 ·cases hb
 ·cases hb;exact(Array.getElem?_eq_some_iff.1 hg).1
theorem own_below {w w':World} {base:Nat} {e:TypeId} {size:Nat} {v:Value} {n:Nat} {xs:List Value} (h:w.ownsRow base e size v n xs) (hb:Below w.heap.size w w'):w'.ownsRow base e size v n xs:=
 J6 h (Keeps.below hb) fun b hv hf=>by have:=wX h b hv;omega
section
variable {g:Nat→Own} {D:Nat→Prop} {p mb:Nat} {ib nb:Int→Nat} {T:aK}
set_option maxRecDepth 100000 in
set_option maxHeartbeats 8000000 in
theorem Nn (now:Int) (w:World) (h:aC g D w p mb ib nb T) (hT:dI T):Calls Tryz.prog 181 #[ptr p, .int .u64 now] w (wN w (lV T now)):=by
 obtain⟨ti,hi,hz0,hz1,hz2⟩:=info_parts H9
 have hlen:=hT.len
 have HH:=Lib.hid h
 have HT:=Lib.hid hT
 have J7:=Lib.hid (AY w h (by omega))
 clear h hT
 go_enter Tryz.func181,Tryz.ntmps181
 go_wp2_with fail
 (with_reducible refine J7.out.mono ?_)
 rintro e w1 ⟨a,cap,rfl,hcap,hr,hB⟩
 have hil:(jW T).length=T.length:=by unfold jW;rw[List.length_map]
 obtain⟨n,hn⟩:∃n,n=(jW T).length:=⟨_,rfl⟩
 rw[←hn]at hcap hr⊢
 have hn64:n≤64:=by omega
 have Pv:Hid (n=T.length):=by have:n=T.length:=by omega
                              exact this
 have HR:=Lib.hid hr
 have HB:=Lib.hid hB
 have hs1:=hB.size
 clear hn hr hB hil J7
 go_wp2_with fail
 go_loopw [5,16] (fun v i wr=>∃k:Nat,k≤n∧i= .int .i64 k∧wr.ownsRow w1.heap.size 3 1 v (lV (T.take k) now).length ((lV (T.take k) now).map (Value.int .i64))∧Below w1.heap.size w1 wr) (fun _ i _=>n-(intOf i).toNat)
 case atStart=>exact⟨0,by omega,rfl,⟨rfl, .inl ⟨rfl,rfl⟩⟩,Below.refl _ _⟩
 case round=>
  obtain⟨k,hk,rfl,hO,hb⟩:=hrel
  have hbs:=hb.size
  by_cases hlt:k<n
  ·obtain⟨q,hq⟩:∃q,T[k]? =some q:=⟨_,List.getElem?_eq_getElem (by have:=Pv.out;omega)⟩
   obtain⟨j,x⟩:=q
   obtain⟨bb,off,rfl,_,hbw,hcells⟩:=HR.out.at_ (by omega)
   have hc0:w1.cell? ⟨bb,off+k,none⟩=some (.int .i64 j):=by
    rw[hcells k hlt,List.getElem?_map]
    unfold jW
    rw[List.getElem?_map,hq]
    rfl
   have hc1:wr.cell? ⟨bb,off+k,none⟩=some (.int .i64 j):=(hb.cell (p:=⟨bb,off+k,none⟩) hbw).trans hc0
   have hx:ah j T=some x:=aY dQ HT.out.sorted (List.mem_of_getElem? hq)
   have lS:=HT.out.ids j x hx
   have hBr:=HB.out.trans (hb.mono hs1)
   have Np:=sV j wr (HH.out.below hBr (Nat.le_refl _)) (gB lS.1 (by omega))
   have hnm:jH T j= .agg #[.int .i64 j, .int .i64 x.kind, .int .i64 x.links, .int .i64 x.b.length, .int .u64 x.au, .bool x.closed]:=by unfold jH;rw[hx];rfl
   rw[hnm,hx]at Np
   have HN:=Lib.hid Np
   have O_:=Lib.hid (FQ (now:=now) hq)
   have rU:=Lib.hid (J5 T now k)
   have HO:=Lib.hid hO
   have O6:=Lib.hid hb
   clear Np hnm hx hcells hc0 hO hb lS hq
   obtain⟨a5,c5,rfl,Uh⟩:=bF HO.out
   by_cases hl:vw x now=true
   ·have HL:=Lib.hid hl
    simp only[vw,Bool.and_eq_true,decide_eq_true_eq]at hl
    obtain⟨⟨hk1,hcl⟩,htl⟩:=hl
    have Nq:DN now x.au=false:=by unfold DN;simp;omega
    have HD:=Lib.hid Nq
    rw[hcl,hk1]at HN
    clear hk1 hcl htl Nq
    go_wp2_with fail
    (with_reducible refine HN.out.mono ?_)
    rintro e w3 ⟨rfl,hb3⟩
    have hs3:=hb3.size
    have hb4:Below wr.heap.size wr (w3.alloc (.cells #[.int .i64 j, .int .i64 1, .int .i64 x.links, .int .i64 x.b.length, .int .u64 x.au, .bool true] 34)):=hb3.trans ((wall _ _).mono hs3)
    have hb5:Below wr.heap.size wr ((w3.alloc (.cells #[.int .i64 j, .int .i64 1, .int .i64 x.links, .int .i64 x.b.length, .int .u64 x.au, .bool true] 34)).alloc (.cells #[.int .i64 j] 3)):=hb4.trans ((wall _ _).mono hb4.size)
    have TW:=Lib.hid (own_below HO.out hb5)
    have dS:=Lib.hid (jm (w:=w3.alloc (.cells #[.int .i64 j, .int .i64 1, .int .i64 x.links, .int .i64 x.b.length, .int .u64 x.au, .bool true] 34)) (.int .i64 j) 3)
    rw[World.size_alloc]at dS
    have jI:=Lib.hid hb5
    have Ua:=hb5.size
    have hle:=rU.out
    clear hb3 hb4 hb5
    go_wp2_with (first|(go_at_call 177;refine(pU _ _ _).mono ?_;rintro e w4 ⟨rfl,rfl⟩;rw[HD.out])|(at_builtin;refine aW (by rfl) _ _ 47 (by rfl) w1.heap.size 3 ti (.int .i64 0) 8 Tryz.underlying47 hi hz0 hz1 hz2 rfl _ _ _ (by rfl) TW.out (some ⟨w3.heap.size+1,0,none⟩) 1 1 [.int .i64 j] (by rfl) dS.out (DW [j]) (by unfold maxLen;omega) (by omega) (by omega) ?_;intro A' c' w6 hown6 yx _ _))
    have HO6:=Lib.hid hown6
    have HG6:=Lib.hid yx
    clear hown6 yx
    go_roundw
    case rel=>
     refine⟨k+1,by omega,by go_num,?_,?_⟩
     ·rw[O_.out,HL.out,if_pos rfl,List.map_append,List.length_append]
      exact HO6.out
     ·exact(O6.out.trans (jI.out.mono hbs)).grown HG6.out (by omega) (dG TW.out)
    case measure=>simp[intOf];omega
   ·have HL:=Lib.hid hl
    have Sl:lV (T.take (k+1)) now=lV (T.take k) now:=by rw[O_.out,if_neg hl,List.append_nil]
    have HR0:=Lib.hid Sl
    have hfin:∀w3,Below wr.heap.size wr w3→w3.ownsRow w1.heap.size 3 1 (.slice a5 (lV (T.take k) now).length c5) (lV (T.take (k+1)) now).length ((lV (T.take (k+1)) now).map (Value.int .i64))∧Below w1.heap.size w1 w3:=fun w3 hb=>by
     rw[HR0.out]
     exact⟨own_below HO.out hb,O6.out.trans (hb.mono hbs)⟩
    have Nr:=Lib.hid hfin
    clear Sl hfin
    by_cases hk1:x.kind=1
    ·cases hcl:x.closed with
     |true=>
      have Nq:DN now x.au=true:=by
       by_cases htl:now<x.au
       ·exact absurd (by simp[vw,hk1,hcl,htl]) hl
       ·unfold DN;simp;omega
      have HD:=Lib.hid Nq
      rw[hcl,hk1]at HN
      clear hk1 hcl Nq hl
      go_wp2_with fail
      (with_reducible refine HN.out.mono ?_)
      rintro e w3 ⟨rfl,hb3⟩
      have HB3:=Lib.hid hb3
      clear hb3
      go_wp2_with (go_at_call 177;refine(pU _ _ _).mono ?_;rintro e w4 ⟨rfl,rfl⟩;rw[HD.out])
      go_roundw
      case rel=>
       obtain⟨e1,e2⟩:=Nr.out _ (HB3.out.trans ((wall _ _).mono HB3.out.size))
       exact⟨k+1,by omega,by go_num,e1,e2⟩
      case measure=>simp[intOf];omega
     |false=>
      rw[hcl,hk1]at HN
      clear hk1 hcl hl
      go_wp2_with fail
      (with_reducible refine HN.out.mono ?_)
      rintro e w3 ⟨rfl,hb3⟩
      have HB3:=Lib.hid hb3
      clear hb3
      go_wp2_with fail
      go_roundw
      case rel=>
       obtain⟨e1,e2⟩:=Nr.out _ (HB3.out.trans ((wall _ _).mono HB3.out.size))
       exact⟨k+1,by omega,by go_num,e1,e2⟩
      case measure=>simp[intOf];omega
    ·have e1:(x.kind==1)=false:=by simpa using hk1
     clear hk1 hl
     go_wp2_with fail
     (with_reducible refine HN.out.mono ?_)
     rintro e w3 ⟨rfl,hb3⟩
     have HB3:=Lib.hid hb3
     clear hb3
     go_wp2_with fail
     go_roundw
     case rel=>
      obtain⟨e1,e2⟩:=Nr.out _ (HB3.out.trans ((wall _ _).mono HB3.out.size))
      exact⟨k+1,by omega,by go_num,e1,e2⟩
     case measure=>simp[intOf];omega
  ·obtain rfl:n=k:=by omega
   rw[List.take_of_length_le (by rw[Pv.out];exact Nat.le_refl _)]at hO
   obtain⟨a2,c2,rfl,hac⟩:=bF hO
   have HO:=Lib.hid hO
   have O6:=Lib.hid hb
   clear hO hb
   go_wp2
   go_ret
   exact⟨a2,c2,rfl,hac,(aj.qL HO.out).2.mono (fun b hb=>⟨by omega,hb.2⟩),HB.out.trans (O6.out.mono hs1)⟩
theorem J8 (now:Int) (w:World) (h:aC g D w p mb ib nb T) (hT:dI T):Calls Tryz.prog 114 #[ptr p, .int .u64 now] w fun e w'=>e= .returned (.bool (decide (0<(lV T now).length)))∧Below w.heap.size w w':=by
 have HL:=Lib.hid (Nn now w h hT)
 clear h hT
 obtain⟨zs,hzs⟩:∃zs,zs=lV T now:=⟨_,rfl⟩
 rw[←hzs]at HL⊢
 clear hzs
 go_enter Tryz.func114,Tryz.ntmps114
 go_wp2_with fail
 (with_reducible refine HL.out.mono ?_)
 rintro e w1 ⟨a,cap,rfl,hcap,hr,hB⟩
 have HB:=Lib.hid hB
 clear hr hB
 go_wp2_with fail
 go_ret
 exact⟨kg (by simp),HB.out⟩
end
section
variable {W w:World} {P:Nat→Prop} {p:Nat} {T:aK}
end
section
variable {w:World} {o:Mark} {i s:Nat} {S:nQ}
end
end Go.Proofs.YtmabllemjkcobaaGreatDoor
