/- Trees with marks: what turns them, copies, what is committed. package snap: New, find. package sha: rotated words, loaded words. SHA-256, plainly, in numbers. A drawn region taken by hand: the condition S may be made stronger on the way. -/
import Derived.Test.YtohpcppeajijnaaGreatM19
import Derived.Test.YtohpcppeajijnaaGreatM16
import Derived.Test.YtohpcppeajijnaaGreatM17
import Derived.Test.YtohpcppeajijnaaGreatM09
import Derived.Test.YtohpcppeajijnaaGreatM01
import Derived.Deep.RegionHeld3
namespace Go.Proofs.YtohpcppeajijnaaGreat
open Go.ChangeShapes Go.WideShapes Go.ChangeAt Go.RowKit
set_option linter.unusedVariables false
set_option linter.unusedSimpArgs false
section
variable {W w:World} {o:Mark} {i p:Nat} {T:aI}
theorem FB {S:Nat→Prop} (h:eU o i w p T) (hM:Marks W o w) (hi:i≠0) (hT:dR T) (a:Option Addr) (n c:Nat) (ls:List Nm) (hS:aW S w a n (ls.map strOf)) (hc:n≤c) (pE:n≤1000000):
  Calls Tryz.prog 18 #[ptr p, .slice a n c] w (iQ o i w p (bg T ls).2 (.int .i64 (bg T ls).1)):=by
 obtain⟨g,D,mb,ib,nb,hA,hg,hD⟩:=h
 exact(Fj a n c ls w hA hT hS hc pE).mono fun e w' ht=>iQ.of hM hi hg hD ht
theorem MN (h:eU o i w p T) (hM:Marks W o w) (hi:i≠0) (id aS:Int) (hid:(Lit.int .i64 id).wf=true) (ht0:0≤aS) (ht1:aS≤18446744073709551615):
  Calls Tryz.prog 23 #[ptr p, .int .i64 id, .int .u64 aS] w (iQ o i w p (dZ T id aS).2 (.int .i64 (dZ T id aS).1)):=by
 obtain⟨g,D,mb,ib,nb,hA,hg,hD⟩:=h
 exact(Mi id aS w hA hid ht0 ht1).mono fun e w' ht=>iQ.of hM hi hg hD ht
theorem MO (h:eU o i w p T) (hM:Marks W o w) (hi:i≠0) (hT:dR T) (id:Int) (hid:(Lit.int .i64 id).wf=true):
  Calls Tryz.prog 29 #[ptr p, .int .i64 id] w (iQ o i w p (eu T id).2 (.int .i64 (eu T id).1)):=by
 obtain⟨g,D,mb,ib,nb,hA,hg,hD⟩:=h
 exact(drop_at id hT w hA hid).mono fun e w' ht=>iQ.of hM hi hg hD ht
theorem rE (h:eU o i w p T) (hT:dR T):Calls Tryz.prog 31 #[ptr p] w (kC w (fq T)):=by
 obtain⟨g,D,mb,ib,nb,hA,hg,hD⟩:=h
 exact MJ w hA hT
theorem Pm (h:eU o i w p T) (hT:dR T):Calls Tryz.prog 84 #[ptr p] w (qX w (iV T)):=by
 obtain⟨g,D,mb,ib,nb,hA,hg,hD⟩:=h
 exact yU w hA (by have:=hT.len;omega)
open Classical in
theorem jW {W w w':World} {o:Mark} (hM:Marks W o w) (j:Nat) (G:Nat→Prop) (hG:∀b,G b→w.heap.size≤b∧b<w'.heap.size) (hb:Below w.heap.size w w'):∃o',Step o (fun i=>i=j) w o' w'∧(∀b,G b→o' b=j)∧(∀b,¬G b→o' b=o b):=by
 obtain⟨o',ho⟩:∃o':Mark,∀b,o' b=if G b then j else o b:=⟨_,fun _=>rfl⟩
 refine⟨o',⟨fun b hb'=> ?_,fun b hb' hn=> ?_,(Keeps.below hb).mono fun x hx hx'=>absurd hx (by omega)⟩,fun b hb'=>by rw[ho,if_pos hb'],fun b hb'=>by rw[ho,if_neg hb']⟩
 ·rw[ho,if_neg (fun h=>by have:=hG b h;omega)]
 ·by_cases h:G b
  ·rw[ho,if_pos h];exact⟨rfl,(hG b h).2⟩
  ·rw[ho,if_neg h]at hn;have:=(hM.new b hn).2;omega
theorem MP (h:eU o i w p T) (hM:Marks W o w) (hT:dR T) (j:Nat):
  Calls Tryz.prog 104 #[ptr p] w fun e w'=>∃q o',e= .returned (ptr q)∧Step o (fun i=>i=j) w o' w'∧eU o' j w' q T∧Below w.heap.size w w':=by
 obtain⟨g,D,mb,ib,nb,hA,hg,hD⟩:=h
 refine(Eh w hA hT).mono ?_
 rintro e w' ⟨q,g',mq,D7,nb',rfl,hA',hg',hb⟩
 obtain⟨o',hs,h1,h2⟩:=jW hM j (fun b=>g' b≠ .none) (fun b hb'=>⟨hg' b hb',hA'.low b hb'⟩) hb
 refine⟨q,o',rfl,hs,⟨g',D,mq,D7,nb',hA',fun b hb'=>h1 b hb',fun b hb'=> ?_⟩,hb⟩
 rw[hs.old b (hA.lN b hb')]
 exact hD b hb'
theorem I8 (h:eU o i w p T) (hM:Marks W o w) (hT:dR T):
  Calls Tryz.prog 104 #[ptr p] w fun e w'=>∃q,e= .returned (ptr q)∧eU o 0 w' q T∧Below w.heap.size w w':=by
 obtain⟨g,D,mb,ib,nb,hA,hg,hD⟩:=h
 refine(Eh w hA hT).mono ?_
 rintro e w' ⟨q,g',mq,D7,nb',rfl,hA',hg',hb⟩
 refine⟨q,rfl,⟨g',D,mq,D7,nb',hA',fun b hb'=> ?_,hD⟩,hb⟩
 have:=hg' b hb'
 by_cases h0:o b=0
 ·exact h0
 ·have:=(hM.new b h0).2;omega
end
theorem I9 (o:Mark):∀(n b:Nat),b<n→o b≤((List.range n).map o).sum
 |n+1,b,h=>by
  rw[List.range_succ,List.map_append,List.sum_append]
  simp only[List.map_cons,List.map_nil,List.sum_cons,List.sum_nil]
  by_cases hb:b=n
  ·rw[hb];omega
  ·have:=I9 o n b (by omega);omega
theorem vM {W w:World} {o:Mark} (hM:Marks W o w):∃j,j≠0∧∀b,o b≠j:=by
 refine⟨((List.range w.heap.size).map o).sum+1,by omega,fun b hb=> ?_⟩
 have h1:=(hM.new b (by omega)).2
 have:=I9 o w.heap.size b h1
 omega
def dz (T:aI) (k:Nat):aI:=((iV T).take k).foldl (fun S id=>(eu S id).2) T
theorem mP (T:aI):dz T 0=T:=by unfold dz;rw[List.take_zero];rfl
theorem jP {T:aI} {k:Nat} {id:Int} (h:(iV T)[k]? =some id):dz T (k+1)=(eu (dz T k) id).2:=by
 unfold dz
 obtain⟨hk,e⟩:=List.getElem?_eq_some_iff.1 h
 rw[List.take_succ_eq_append_getElem hk,List.foldl_append,e]
 rfl
theorem nI {T:aI}:dz T T.length=bM T:=by
 unfold dz bM
 rw[List.take_of_length_le (by unfold iV;rw[List.length_map];omega)]
theorem dR.dz {T:aI} (h:dR T):∀k,dR (dz T k)
 |0=>by rw[mP];exact h
 |k+1=>by
  cases hg:(iV T)[k]? with
  |some id=>rw[jP hg];exact(h.dz k).eu id
  |none=>
   have:Go.Proofs.YtohpcppeajijnaaGreat.dz T (k+1)=Go.Proofs.YtohpcppeajijnaaGreat.dz T k:=by
    have hl:=List.getElem?_eq_none_iff.1 hg
    unfold Go.Proofs.YtohpcppeajijnaaGreat.dz
    rw[List.take_of_length_le hl,List.take_of_length_le (by omega)]
   rw[this];exact h.dz k
theorem dR.bM {T:aI} (h:dR T):dR (bM T):=by rw[←nI];exact h.dz _
section
variable {W w:World} {o:Mark} {i p:Nat} {T:aI}
set_option maxRecDepth 100000 in
set_option maxHeartbeats 4000000 in
theorem xw (h:eU o i w p T) (hM:Marks W o w) (hT:dR T) (j:Nat) (hj:j≠0) (hf:∀b,o b≠j):
  Calls Tryz.prog 44 #[ptr p] w fun e w'=>∃q o',e= .returned (ptr q)∧Step o (fun i=>i=j) w o' w'∧eU o' j w' q (bM T)∧Below w.heap.size w w':=by
 have OW:=Lib.hid (MP h hM hT j)
 have HM:=Lib.hid hM
 have HT:=Lib.hid hT
 have HJ:=Lib.hid hj
 have HF:=Lib.hid hf
 have Sr:=hT.len
 clear h hM hT hj hf
 go_enter Tryz.func44,Tryz.ntmps44
 go_wp2_with fail
 (with_reducible refine OW.out.mono ?_)
 rintro e w1 ⟨q,o1,rfl,hs1,hT1,hb1⟩
 have kR:=Lib.hid hs1
 have Ei:=Lib.hid (HM.out.step (fun e=>HJ.out e.symm) hs1)
 have HT1:=Lib.hid hT1
 have Oj:=Lib.hid (Pm hT1 HT.out)
 clear hs1 hT1 hb1
 go_wp2_with fail
 (with_reducible refine Oj.out.mono ?_)
 rintro e w2 ⟨a,cap,rfl,hlc,hrow,hb2⟩
 have hll:(iV T).length=T.length:=by unfold iV;rw[List.length_map]
 rw[hll]at hlc hrow
 rw[hll]
 obtain⟨tl,htl⟩:∃tl,tl=T.length:=⟨_,rfl⟩
 rw[←htl]at Sr hlc hrow⊢
 have El:=Lib.hid htl
 have gZ:=Lib.hid hrow
 have HS2:=Lib.hid (kR.out.then_ HM.out (fun e=>HJ.out e.symm) hb2)
 have HT2:=Lib.hid (HT1.out.grow hb2)
 clear hb2 hrow htl hll
 have HR2:=Lib.hid ((gZ.out.IB Ei.out))
 clear gZ
 go_wp2_with fail
 go_loopw [4,12] (fun _ iv wr=>∃(k:Nat) (o2:Mark),iv= .int .i64 k∧k≤tl∧Step o (fun i=>i=j) w o2 wr∧eU o2 j wr q (dz T k)∧ak (Free o2 wr) wr a tl ((iV T).map (Value.int .i64))) (fun _ iv _=>tl-(intOf iv).toNat)
 case atStart=>
  exact⟨0,o1,rfl,Nat.zero_le _,HS2.out,by rw[mP];exact HT2.out,HR2.out⟩
 case round=>
  obtain⟨k,o2,rfl,hk,hs,Sv,xA⟩:=hrel
  have HS:=Lib.hid hs
  have vN:=Lib.hid Sv
  have BP:=Lib.hid xA
  clear hs Sv xA
  by_cases hlt:k<tl
  ·have hd:decide ((k:Int)<(tl:Int))=true:=by simpa using hlt
   obtain⟨id,hid⟩:∃id,(iV T)[k]? =some id:=⟨(iV T)[k]'(by unfold iV;rw[List.length_map,←El.out];exact hlt),List.getElem?_eq_getElem _⟩
   obtain⟨b,off,rfl,hfb,hbw,hc⟩:=BP.out.at_ (by omega)
   have hck:=hc k hlt
   rw[List.getElem?_map,hid]at hck
   have hcell:wr.cell? ⟨b,off+k,none⟩=some (.int .i64 id):=hck
   have hwf:(Lit.int .i64 id).wf=true:=by
    have hm:=List.mem_of_getElem? hid
    unfold iV at hm
    obtain⟨q',hq',rfl⟩:=List.mem_map.1 hm
    have:=HT.out.ids q'.1 q'.2 (bL dD HT.out.sorted hq')
    simp[Lit.wf,IntKind.min,IntKind.max,IntKind.signed,IntKind.bits]
    omega
   have HDR:=Lib.hid (MO vN.out (HM.out.step (fun e=>HJ.out e.symm) HS.out) HJ.out (HT.out.dz k) id hwf)
   have i0:(0:Int)≤(k:Int):=by omega
   have i1:(k:Int)<(tl:Int):=by omega
   have MQ:=Lib.hid hid
   clear hid hfb hbw hc hck hwf
   go_wp2_with fail
   (with_reducible refine HDR.out.mono ?_)
   rintro e w3 ⟨rfl,o3,hs3,IL⟩
   have Aj:=Lib.hid (HS.out.trans hs3)
   have HT3:=Lib.hid IL
   have HR3:=Lib.hid (BP.out.free (fun e=>HJ.out e.symm) hs3)
   clear hs3 IL HDR
   go_wp2_with fail
   go_roundw
   case rel=>
    refine⟨k+1,o3,by go_num,by omega,Aj.out,?_,HR3.out⟩
    rw[jP MQ.out]
    exact HT3.out
   case measure=>simp[intOf];omega
  ·have hd:decide ((k:Int)<(tl:Int))=false:=by simp;omega
   obtain rfl:tl=k:=by omega
   go_wp2_with fail
   go_ret
   have h9:=vN.out
   rw[El.out,nI]at h9
   refine⟨q,o2,rfl,HS.out,h9,?_⟩
   exact HS.out.keep.iH (Nat.le_refl _) fun x _ hx=>HF.out x hx
theorem qg (h:eU o i w p T) (hM:Marks W o w) (hT:dR T):
  Calls Tryz.prog 44 #[ptr p] w fun e w'=>∃q,e= .returned (ptr q)∧eU o 0 w' q (bM T)∧Below w.heap.size w w':=by
 obtain⟨j,hj,hf⟩:=vM hM
 refine(xw h hM hT j hj hf).mono ?_
 rintro e w' ⟨q,o',rfl,hs,hT',hb⟩
 refine⟨q,rfl,hT'.remark (fun b hb' he=> ?_) (fun b hb' he=> ?_),hb⟩
 ·by_cases hlt:b<w.heap.size
  ·rw[hs.old b hlt]at he;exact absurd he (hf b)
  ·exact Decidable.byContradiction fun h0=>by have:=(hM.new b h0).2;omega
 ·by_cases hlt:b<w.heap.size
  ·rw[hs.old b hlt]at he;exact he
  ·exact Decidable.byContradiction fun h0=>by have:=(hM.new b h0).2;omega
end
section
variable {W w:World} {o:Mark} {i s:Nat} {S:iC}
theorem dX.grow (h:dX o i w s S) {w':World} (hM:Marks W o w) (hb:Below w.heap.size w w'):dX o i w' s S:=
 h.step (I:=fun _=>False) (fun h=>h) (fun h=>h) (Step.grow hM hb)
theorem dX.lt (h:dX o i w s S):s<w.heap.size:=by
 obtain⟨v,la,lc,vals,h1,h2,h3,h4,h5,h6,h7,h8⟩:=h.at_
 exact h3
theorem yu (hM:Marks W o w) (j:Nat) (hj:j≠0):Calls Tryz.prog 96 #[] w fun e w'=>∃s o',e= .returned (ptr s)∧Step o (fun k=>k=j) w o' w'∧dX o' j w' s gP∧Below w.heap.size w w':=by
 have HM:=Lib.hid hM
 clear hM
 go_enter Tryz.func96,Tryz.ntmps96
 go_wp2
 go_ret
 obtain⟨o',hs,h1,h2⟩:=jW HM.out j (fun b=>b=w.heap.size) (w':=w.alloc (.cells #[.slice none 0 0, .int .i64 1, .slice none 0 0] 150)) (fun b hb=>by subst hb;simp) (wall w _)
 refine⟨w.heap.size,o',rfl,hs,⟨.slice none 0 0,none,0,[],(MapKept.heap_alloc w _).1,h1 _ rfl,by simp,⟨rfl, .inl ⟨rfl,rfl⟩⟩,fun b hb=>by simp[Value.ownBlock]at hb,rfl,Nat.le_refl _,ak.nil _ _ _⟩,wall w _⟩
def rF (l:List dQ) (id v:Int):Prop:=
 (v= -1∧∀x∈l,x.id≠id)∨∃(k:Nat) (x:dQ),v=k∧l[k]? =some x∧x.id=id∧∀x'∈l.take k,x'.id≠id
theorem FC (z:Int) (hv qv:Value) (id:Int) (vb:Nat) (w:World) (hc:w.cell? ⟨vb,0,none⟩=some (.int .i64 id)) (hvb:vb<w.heap.size):Calls Tryz.prog 152 #[.agg #[.int .i64 z,hv,qv],ptr vb] w fun e w'=>e= .returned (.bool (z==id))∧Below w.heap.size w w':=by
 have hc2:(w.alloc (.cells #[.int .i64 z,hv,qv] 152)).cell? ⟨vb,0,none⟩=some (.int .i64 id):=((wall w _).cell (p:=⟨vb,0,none⟩) hvb).trans hc
 go_enter Tryz.func152,Tryz.ntmps152
 go_wp2
 go_ret
 exact⟨rfl,wall w _⟩
theorem FD {a:Option Addr} {n c:Nat} {vals:List Value} {l:List dQ} (id:Int) (vb:Nat) (hl:l.length=n) (hr:ak (fun b=>b<w.heap.size) w a (n*3) vals) (hO:bX o w vals l) (hn:n≤1000) (hc:w.cell? ⟨vb,0,none⟩=some (.int .i64 id)) (hvb:vb<w.heap.size):
  Calls Tryz.prog 151 #[.slice a n c, .func (.func 152) #[] #[ptr vb]] w fun e w'=>∃v,e= .returned (.int .i64 v)∧rF l id v∧Below w.heap.size w w':=by
 have HR:=Lib.hid hr
 have HO:=Lib.hid hO
 have HL:=Lib.hid hl
 clear hr hO hl
 go_enter Tryz.func151,Tryz.ntmps151
 go_wp2
 go_loopw [5,8] (fun _ iv wr=>∃k:Nat,k≤n∧iv= .int .i64 k∧(∀x∈l.take k,x.id≠id)∧Below w.heap.size w wr) (fun _ iv _=>n-(intOf iv).toNat)
 case atStart=>exact⟨0,by omega,rfl,by simp,Below.refl _ _⟩
 case round=>
  obtain⟨k,hk,rfl,hno,hb⟩:=hrel
  have Em:=Lib.hid hno
  have HB:=Lib.hid hb
  clear hno
  by_cases hlt:k<n
  ·obtain⟨g,off,rfl,hgw,_,hcell⟩:=HR.out.at_ (by omega)
   obtain⟨x,hx⟩:∃x,l[k]? =some x:=⟨l[k]'(by rw[HL.out];exact hlt),List.getElem?_eq_getElem _⟩
   obtain⟨ha,hcp,q,e0,e1,e2,_⟩:=HO.out.at_ hx
   have d0:wr.cell? ⟨g,off+k*3,none⟩=some (.int .i64 x.id):=(hb.cell (p:=⟨g,off+k*3,none⟩) hgw).trans ((hcell (k*3) (by omega)).trans e0)
   have d1:wr.cell? ⟨g,off+k*3+1,none⟩=some (.slice ha x.hash.length hcp):=(hb.cell (p:=⟨g,off+k*3+1,none⟩) hgw).trans ((hcell (k*3+1) (by omega)).trans e1)
   have d2:wr.cell? ⟨g,off+k*3+2,none⟩=some (ptr q):=(hb.cell (p:=⟨g,off+k*3+2,none⟩) hgw).trans ((hcell (k*3+2) (by omega)).trans e2)
   have HX:=Lib.hid hx
   have hcv:=(hb.cell (p:=⟨vb,0,none⟩) hvb).trans hc
   have HF:=Lib.hid (FC x.id (.slice ha x.hash.length hcp) (ptr q) id vb wr hcv (by have:=hb.size;omega))
   have i0:(0:Int)≤(k:Int):=by omega
   have i1:(k:Int)<(n:Int):=by omega
   have hd:decide ((k:Int)<(n:Int))=true:=by simpa using i1
   clear hx hcell e0 e1 e2 hcv hb
   by_cases he:x.id=id
   ·have he2:(x.id==id)=true:=by simpa using he
    rw[he2]at HF
    have HE:=Lib.hid he
    clear he he2
    go_wp2_with fail
    (with_reducible refine HF.out.mono ?_)
    rintro e w1 ⟨rfl,hb1⟩
    go_wp2_with fail
    go_ret
    exact⟨k,rfl, .inr ⟨k,x,rfl,HX.out,HE.out,Em.out⟩,HB.out.trans (hb1.mono HB.out.size)⟩
   ·have he2:(x.id==id)=false:=by simpa using he
    rw[he2]at HF
    have HE:=Lib.hid he
    clear he he2
    go_wp2_with fail
    (with_reducible refine HF.out.mono ?_)
    rintro e w1 ⟨rfl,hb1⟩
    go_wp2_with fail
    go_roundw
    case rel=>
     refine⟨k+1,by omega,by go_num,fun y hy=> ?_,HB.out.trans (hb1.mono HB.out.size)⟩
     obtain⟨hkl,ek⟩:=List.getElem?_eq_some_iff.1 HX.out
     rw[List.take_succ_eq_append_getElem hkl,ek]at hy
     rcases List.mem_append.1 hy with hy|hy
     ·exact Em.out y hy
     ·simp only[List.mem_singleton]at hy
      rw[hy];exact HE.out
    case measure=>simp[intOf];omega
  ·have hd:decide ((k:Int)<(n:Int))=false:=by simp;omega
   go_wp2_with fail
   go_ret
   refine⟨-1,rfl, .inl ⟨rfl,fun x hx=>Em.out x ?_⟩,HB.out⟩
   rw[List.take_of_length_le (by have:=HL.out;omega)]
   exact hx
theorem vO (h:dX o i w s S) (id:Int) (hn:S.l.length≤1000):Calls Tryz.prog 103 #[ptr s, .int .i64 id] w fun e w'=>∃v,e= .returned (.int .i64 v)∧rF S.l id v∧Below w.heap.size w w':=by
 obtain⟨v,la,lc,vals,h1,h2,h3,h4,h5,h6,h7,h8⟩:=h.at_
 obtain⟨a,c,rfl,hcap⟩:=bQ h4
 obtain⟨-,-,hrow⟩:=ak.jO h4 (by unfold maxLen;omega)
 have c0:w.cell? ⟨s,0,none⟩=some (.slice a S.l.length c):=by simp[World.cell?,h1]
 obtain⟨n,hnl⟩:∃n,n=S.l.length:=⟨_,rfl⟩
 rw[←hnl]at c0 hrow hcap hn
 have hca:=(wall w (.cells #[.int .i64 id] 3))
 have c1:=(hca.cell (p:=⟨s,0,none⟩) h3).trans c0
 have HI:=Lib.hid (FD (w:=w.alloc (.cells #[.int .i64 id] 3)) (a:=a) (n:=n) (c:=c) id w.heap.size hnl.symm ((hrow.below hca (Nat.le_refl _)).mono fun b hb=>by simp;omega) (show bX o _ vals S.l from bX.grow hca h6) hn iU (by simp))
 clear h h1 h2 h4 h5 h6 h7 h8 hrow hca c0 hnl
 go_enter Tryz.func103,Tryz.ntmps103
 go_wp2_with fail
 (with_reducible refine HI.out.mono ?_)
 rintro e w1 ⟨v,rfl,hf,hb1⟩
 have HF:=Lib.hid hf
 have HB:=Lib.hid hb1
 clear hf hb1
 go_wp2_with fail
 go_ret
 exact⟨v,rfl,HF.out,(wall w _).trans (HB.out.mono (by simp))⟩
end
abbrev qh (a b:Int):Int:=bits .or .u32 a b
abbrev vP (a b:Int):Int:=bits .xor .u32 a b
abbrev I_ (a b:Int):Int:=bits .and .u32 a b
def iF (x:Int) (s:Nat):Int:=qh (x*2^s%4294967296) (x/2^(32-s))
theorem jQ (x k:Int) (s:Nat) (w:World) (hk:bits .and .u64 (IntKind.u64.wrap k) 31=(s:Int)) (h0:0<s) (h1:s<32):Calls Tryz.prog 232 #[.int .u32 x, .int .i64 k] w fun e w'=>e= .returned (.int .u32 (iF x s))∧w=w':=by
 have e1:(0:Int)≤(s:Int):=by omega
 have e2:(s:Int)≤32:=by omega
 have e3:IntKind.u64.wrap (32-(s:Int))=32-(s:Int):=by simp[IntKind.wrap,IntKind.bits,IntKind.signed];omega
 have e4:(0:Int)≤32-(s:Int):=by omega
 have e5:32-(s:Int)≤32:=by omega
 go_enter Tryz.func232,Tryz.ntmps232
 go_wp2
 go_ret
 exact⟨rfl,rfl⟩
def tX (a b c d:UInt8):Int:=qh (qh (qh (qh 0 ((d.toNat:Int)%4294967296)) ((c.toNat:Int)%4294967296*256%4294967296)) ((b.toNat:Int)%4294967296*65536%4294967296)) ((a.toNat:Int)%4294967296*16777216%4294967296)
theorem Ja {S:Nat→Prop} (ad:Option Addr) (n c:Nat) (bs:List UInt8) (w:World) (hr:ak S w ad n (bs.map bv)) (hn:4≤n):Calls Tryz.prog 231 #[.slice ad n c] w fun e w'=>e= .returned (.int .u32 (tX (bs.getD 0 0) (bs.getD 1 0) (bs.getD 2 0) (bs.getD 3 0)))∧w=w':=by
 obtain⟨b,off,rfl,-,-,hc⟩:=hr.at_ (by omega)
 have hl:bs.length=n:=by simpa using hr.length
 have hm:=hr.small
 unfold maxLen at hm
 have q:∀i,i<4→w.cell? ⟨b,off+i,none⟩=some (bv (bs.getD i 0)):=fun i hi=>by
  rw[hc i (by omega),List.getElem?_map,List.getElem?_eq_getElem (by omega),List.getD_eq_getElem?_getD,List.getElem?_eq_getElem (by omega)]
  rfl
 have q0:w.cell? ⟨b,off,none⟩=some (.int .u8 ((bs.getD 0 0).toNat:Int)):=q 0 (by omega)
 have q1:w.cell? ⟨b,off+1,none⟩=some (.int .u8 ((bs.getD 1 0).toNat:Int)):=q 1 (by omega)
 have q2:w.cell? ⟨b,off+2,none⟩=some (.int .u8 ((bs.getD 2 0).toNat:Int)):=q 2 (by omega)
 have q3:w.cell? ⟨b,off+3,none⟩=some (.int .u8 ((bs.getD 3 0).toNat:Int)):=q 3 (by omega)
 generalize bs.getD 0 0=b0 at*
 generalize bs.getD 1 0=b1 at*
 generalize bs.getD 2 0=b2 at*
 generalize bs.getD 3 0=b3 at*
 have d3:((n:Int)==3)=false:=by simp;omega
 have d2:((n:Int)==2)=false:=by simp;omega
 have d1:((n:Int)==1)=false:=by simp;omega
 have d0:((n:Int)==0)=false:=by simp;omega
 have l3:(3:Int)<(n:Int):=by omega
 have l2:(2:Int)<(n:Int):=by omega
 have l1:(1:Int)<(n:Int):=by omega
 have l0:(0:Int)<(n:Int):=by omega
 clear q hc hr
 go_enter Tryz.func231,Tryz.ntmps231
 go_wp2
 go_ret
 exact⟨rfl,rfl⟩
def kM:List Int:=[1116352408,1899447441,3049323471,3921009573,961987163,1508970993,2453635748,2870763221,3624381080,310598401,607225278,1426881987,1925078388,2162078206,2614888103,3248222580,3835390401,4022224774,264347078,604807628,770255983,1249150122,1555081692,1996064986,2554220882,2821834349,2952996808,3210313671,3336571891,3584528711,113926993,338241895,666307205,773529912,1294757372,1396182291,1695183700,1986661051,2177026350,2456956037,2730485921,2820302411,3259730800,3345764771,3516065817,3600352804,4094571909,275423344,430227734,506948616,659060556,883997877,958139571,1322822218,1537002063,1747873779,1955562222,2024104815,2227730452,2361852424,2428436474,2756734187,3204031479,3329325298]
def oJ:List Int:=[1779033703,3144134277,1013904242,2773480762,1359893119,2600822924,528734635,1541459225]
abbrev cO (z:Int):Value:= .int .u32 z
abbrev zW (z:Int):Int:=z%4294967296
def oK (b:List UInt8) (i:Nat):Int:=tX ((b.drop (i*4)).getD 0 0) ((b.drop (i*4)).getD 1 0) ((b.drop (i*4)).getD 2 0) ((b.drop (i*4)).getD 3 0)
def WU (x:Int):Int:=vP (vP (iF x 25) (iF x 14)) (x/8)
def sg1 (x:Int):Int:=vP (vP (iF x 15) (iF x 13)) (x/1024)
def tY (ws:List Int):Int:=zW (zW (zW (ws.getD (ws.length-16) 0+WU (ws.getD (ws.length-15) 0))+ws.getD (ws.length-7) 0)+sg1 (ws.getD (ws.length-2) 0))
def dI (b:List UInt8):Nat→List Int
 |0=>(List.range 16).map (oK b)
 |n+1=>dI b n++[tY (dI b n)]
theorem lD (b:List UInt8):∀n,(dI b n).length=16+n
 |0=>by simp[dI]
 |n+1=>by unfold dI;rw[List.length_append,lD b n];simp;omega
structure pF where
 a:Int
 c:Int
 d:Int
 e:Int
 f:Int
 g:Int
 h:Int
 j:Int
def WV (x:Int):Int:=bits .xor .u32 (if IntKind.u32.signed=true then-1 else IntKind.u32.max) x
def tM (s:pF) (k w:Int):Int:=zW (s.j+vP (vP (iF s.f 26) (iF s.f 21)) (iF s.f 7)+vP (I_ s.f s.g) (I_ (WV s.f) s.h)+k+w)
def uM (s:pF):Int:=zW (vP (vP (iF s.a 30) (iF s.a 19)) (iF s.a 10)+vP (vP (I_ s.a s.c) (I_ s.a s.d)) (I_ s.c s.d))
def qw (s:pF) (k w:Int):pF:=⟨zW (tM s k w+uM s),s.a,s.c,s.d,zW (s.e+tM s k w),s.f,s.g,s.h⟩
def jq (s:pF) (ws:List Int):Nat→pF
 |0=>s
 |n+1=>qw (jq s ws n) (kM.getD n 0) (ws.getD n 0)
def pF.list (s:pF):List Int:=[s.a,s.c,s.d,s.e,s.f,s.g,s.h,s.j]
def pF.of (h:List Int):pF:=⟨h.getD 0 0,h.getD 1 0,h.getD 2 0,h.getD 3 0,h.getD 4 0,h.getD 5 0,h.getD 6 0,h.getD 7 0⟩
def eH (h:List Int) (b:List UInt8):List Int:=List.zipWith (fun x y=>zW (x+y)) h (jq (pF.of h) (dI b 48) 64).list
theorem iW (h:List Int) (b:List UInt8) (hl:h.length=8):(eH h b).length=8:=by unfold eH;rw[List.length_zipWith,hl];rfl
def runM (h:List Int):Nat→List UInt8→List Int
 |0,_=>h
 |n+1,b=>runM (eH h (b.take 64)) n (b.drop 64)
theorem jX:∀(n:Nat) (h:List Int) (b:List UInt8),h.length=8→(runM h n b).length=8
 |0,h,b,hl=>hl
 |n+1,h,b,hl=>jX n _ _ (iW h _ hl)
theorem gV {P:Program} {md:Region.Mode} {ops:Array Oper} {Q:Exit→Act→World→Prop} {S S':World→Prop} (h:∀w,S' w→S w):
  ∀(fuel:Nat) (listed:Array Bool) (a:Act) (w:World),wpAnyH P md ops Q S' fuel listed a w→wpAnyH P md ops Q S fuel listed a w
 |0,_,_,_,hw=>hw
 |fuel+1,_,_,_,hw=>⟨hw.1,fun i hi=>wpOp_mono (fun _ _ h'=>⟨h _ h'.1,gV h fuel _ _ _ h'.2⟩) (hw.2 i hi)⟩
open Go
theorem bH {P:Program} {ops:Array Oper} {Q:Exit→Act→World→Prop} {md:Region.Mode} {S:World→Prop} (i:Nat) {oi:Oper} {v:Value} {fuel:Nat} {listed l':Array Bool} {a a':Act} {w:World}
  (hi:ops[i]? =some oi:=by simp only[List.getElem?_toArray,List.getElem?_cons_succ,List.getElem?_cons_zero];rfl)
  (hs:Region.noSelect ops=true:=by kernel_rfl) (hf:Region.free md ops listed i=true:=by kernel_rfl) (hr:(Region.ready md ops listed).contains i=true:=by kernel_rfl)
  (hQ:∀c a w,Q (.panic c) (a.put oi.dst v) w→Q (.panic c) a w:=by exact fun _ _ _ h=>h)
  (hw:Region.wanted oi (yielded ops a.tmps)=true:=by rfl)
  (hy:∀w,S w→(execOp a.eval oi).run P w= .ok (.value v) w:=by intro w hSw;(try dsimp only at hSw);go_simp;(try with_reducible rfl))
  (hl:listed.setIfInBounds i true=l':=by(try simp only[List.setIfInBounds_toArray,List.set_cons_zero,List.set_cons_succ]);rfl)
  (ha:a.put oi.dst v=a':=by(try simp only[Act.put,List.setIfInBounds_toArray,List.set_cons_zero,List.set_cons_succ]);rfl)
  (hS:S w) (h:wpAnyH P md ops Q S fuel l' a' w):wpAnyH P md ops Q S (fuel+1) listed a w:=
 wpAnyH_take hi hs hf hr hQ (Or.inl ⟨hw,hy⟩) hS (by rw[hl,ha];exact h)
theorem rT {P:Program} {ops:Array Oper} {Q:Exit→Act→World→Prop} {md:Region.Mode} {S:World→Prop} (i:Nat) {o:Oper} {fuel:Nat} {listed:Array Bool} {a:Act} {w:World}
  (ho:ops[i]? =some o:=by simp only[List.getElem?_toArray,List.getElem?_cons_succ,List.getElem?_cons_zero];rfl) (hr:Region.ready md ops listed=[i]:=by kernel_rfl)
  (h:∀K':Act→World→Prop,Shut (∀a w,S w→(S w→wpAnyH P md ops Q S fuel (listed.setIfInBounds i true) a w)→K' a w)→if Region.wanted o (yielded ops a.tmps)=true then Oper.wp P o a w K' Q else K' (a.put o.dst undef) w):wpAnyH P md ops Q S (fuel+1) listed a w:=
 wpAnyH_ready hr (by simp) (AllReadyH.cons ho h AllReadyH.nil)
end Go.Proofs.YtohpcppeajijnaaGreat
