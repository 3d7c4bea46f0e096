/- permafrostkeep.Tame. The library's own number; a world for the witnesses. package snap: Save. package state: Save. The codec's reader, as plain data. -/
import Derived.Test.YtmabllemjkcobaaGreatDoorM42
import Derived.Test.YtmabllemjkcobaaGreatDoorM01
import Derived.SliceStrings
import Derived.Shelf.Vars
import Derived.Test.YtmabllemjkcobaaGreatDoorM23
import Derived.Test.YtmabllemjkcobaaGreatDoorM24
import Derived.Test.YtmabllemjkcobaaGreatDoorM27
import Derived.Test.YtmabllemjkcobaaGreatDoorM39
import Derived.Test.YtmabllemjkcobaaGreatDoorM19
namespace Go.Proofs.YtmabllemjkcobaaGreatDoor
open Go.ChangeShapes Go.WideShapes Go.ChangeAt Go.RowKit
set_option linter.unusedVariables false
set_option linter.unusedSimpArgs false
theorem D8 {S:Nat→Prop} (w:World) (x:kQ) (hx:D6 x) (da:Option Addr) (dc:Nat) (hdc:x.data.length≤dc) (hda:aj S w da x.data.length (x.data.map bv)):
  Calls Tryz.prog 10 #[.agg (opC x da dc)] w (BJ S w x da):=by
 obtain⟨kd,pa,aA,fd,at_,nn,au,sn,dt⟩:=x
 exact Oh w kd pa aA fd at_ nn au sn dt hx da dc hdc hda
theorem D9 {w:World} (h:w.ShapedOpen Tryz.prog):∃m,w.cell? ⟨0,0,none⟩=some (.int .i64 m)∧0<w.heap.size:=by
 obtain⟨m,hm⟩:=Go.Proofs.cell_of_shapedOpen_int (zero:= #[.int .i64 0]) (t:=3) h (of_decide_eq_true (by kernel_rfl)) (by kernel_rfl) rfl (by kernel_rfl) (by kernel_rfl) Tryz.underlying3
 exact⟨m,hm,World.block_lt_of_cell? w _ hm⟩
def Ox:Obj→Obj
 | .cells _ t frozen=> .cells ((Go.Pinned.utf8FirstZ.map fun(n:Nat)=>Value.int .u8 (n:Int)).toArray) t frozen
 |o=>o
def KA:Obj→Obj
 | .cells _ t frozen=> .cells ((([128,191,160,191,128,159,144,191,128,143,0,0,0,0,0,0,0,0,0,0,0,0,0,0,0,0,0,0,0,0,0,0]:List Nat).map fun(n:Nat)=>Value.int .u8 (n:Int)).toArray) t frozen
 |o=>o
noncomputable def Oy (os:Os):World:=
 {World.holding Tryz.prog os ⟨#[],#[],[]⟩with heap:=((World.holding Tryz.prog os ⟨#[],#[],[]⟩).heap.modify 1 Ox).modify 2 KA}
def jP (x:jJ):List UInt8:=fF x.id 8++nY x.hash++fF (gD x.t).length 8++gD x.t
def iK (S:nQ):List UInt8:=fF S.next 8++nY S.last++fF S.l.length 1++S.l.flatMap jP
structure D_ (S:nQ):Prop where
 few:S.l.length≤8
 last:S.last.length≤64
 next:0≤S.next∧S.next≤1000000000
 each:∀x∈S.l,(0≤x.id∧x.id≤1000000000)∧x.hash.length≤64
theorem qW {T:aK} (hT:dI T):(gD T).length≤6000000:=by
 have h1:=oL hT T (fun q hq=>hq)
 have h2:=hT.len
 unfold gD
 rw[List.length_append,bP]
 omega
theorem Oz {x:jJ} (hT:dI x.t) (hh:x.hash.length≤64):(jP x).length≤6000100:=by
 have:=qW hT
 unfold jP
 simp only[List.length_append,bP,tN]
 omega
theorem yH {o:Mark} {w:World}:∀{vs:List Value} {l:List jJ},dh o w vs l→(∀x∈l,x.hash.length≤64)→(l.flatMap jP).length≤6000100*l.length
 |_,[],_,_=>by simp
 |_,x::r,⟨v1,v2,h1,h2,h3⟩,hh=>by
  obtain⟨a,c,q,e1,e2,e3,e4,e5⟩:=h2
  have k1:=Oz e5 (hh x (by simp))
  have k2:=yH h3 fun y hy=>hh y (by simp[hy])
  rw[List.flatMap_cons,List.length_append,List.length_cons]
  omega
theorem KC {l:List jJ} {k:Nat} {x:jJ} (h:l[k]? =some x):(l.take (k+1)).flatMap jP=(l.take k).flatMap jP++jP x:=by
 obtain⟨hk,e⟩:=List.getElem?_eq_some_iff.1 h
 rw[List.take_succ_eq_append_getElem hk,List.flatMap_append,e]
 simp
theorem zF {o:Mark} {w:World} {vs:List Value} {l:List jJ} (h:dh o w vs l) (hh:∀x∈l,x.hash.length≤64) (h8:l.length≤8) (k:Nat):((l.take k).flatMap jP).length≤50000000:=by
 have:=yH (h.take k) fun x hx=>hh x (List.mem_of_mem_take hx)
 have h9:(l.take k).length≤8:=by rw[List.length_take];omega
 omega
def Aside (x:Nat) (v:Value) (lo hi:Nat):Prop:=∀b,lo≤b→b<hi→b≠x∧v.ownBlock≠some b
theorem Aside.more {B x lo hi:Nat} {w w':World} {v v':Value} {bs':List UInt8} (h:Aside x v lo hi) (hm:jA B w x v bs' v' w') (hw:hi≤w.heap.size):Aside x v' lo hi∧∀b,lo≤b→b<hi→w'.heap[b]? =w.heap[b]? :=by
 refine⟨fun b h1 h2=>⟨(h b h1 h2).1,fun h9=> ?_⟩,fun b h1 h2=>hm.2.1.block b (by omega) fun h9=> ?_⟩
 ·rcases hm.2.2 b h9 with h3|h3
  ·exact(h b h1 h2).2 h3
  ·omega
 ·rcases h9 with h3|h3
  ·exact(h b h1 h2).1 h3
  ·exact(h b h1 h2).2 h3
section
variable {W w:World} {o:Mark} {i s:Nat} {S:nQ}
def rW (w:World) (x:Nat) (bs:List UInt8) (wr:World):Prop:=∃v,bT w.heap.size wr x v bs∧Below w.heap.size w wr
theorem rW.more {w:World} {x:Nat} {bs bs':List UInt8} {wr w':World} {v:Value} {e:Ending} (h:bT w.heap.size wr x v bs) (hb:Below w.heap.size w wr) (ht:nN w.heap.size wr x v bs' e w'):e= .returned (.tuple #[])∧rW w x bs' w':=by
 obtain⟨rfl,v',hm⟩:=ht
 exact⟨rfl,v',hm.1,hb.trans (hm.low h)⟩
theorem wZ (z:Int) (h0:0≤z) (h1:z≤1000000000):∀w,(convert 3 25 (.int .i64 z)).run Tryz.prog w= .ok (.int .u64 z) w:=fun w=>by
 have hk:Tryz.prog.intKind 25= .u64:=by kernel_rfl
 have:=run_convert_int (P:=Tryz.prog) w 3 25 .i64 z (by rw[Tryz.underlying3];rfl) (by rw[hk];exact Tryz.underlying25)
 rw[this,hk]
 have e:IntKind.u64.wrap z=z:=by
  show z%18446744073709551616=z
  omega
 rw[e]
set_option maxRecDepth 100000 in
set_option maxHeartbeats 8000000 in
theorem KD (hS:dR o i w s S) (hM:Marks W o w) (hv:D_ S):Calls Tryz.prog 56 #[ptr s] w (pE w (iK S)):=by
 obtain⟨v,la,lc,vals,h1,h2,h3,h4,h5,h6,h7,h8⟩:=hS.at_
 obtain⟨a,c,rfl,hcap⟩:=bF h4
 have sW:=hv.few
 obtain⟨-,-,hrow⟩:=aj.nP h4 (by unfold maxLen;omega)
 have Pf:=Lib.hid h6
 have dS:=Lib.hid hrow
 have HLR:=Lib.hid h8
 have uw:=Lib.hid h7
 have HM:=Lib.hid hM
 have HV:=Lib.hid hv
 have O_:=Lib.hid (zF h6 (fun x hx=>(hv.each x hx).2) hv.few)
 have HH:Hid (∀w',Below w.heap.size w w'→w'.cell? ⟨s,0,none⟩=some (.slice a S.l.length c)∧w'.cell? ⟨s,1,none⟩=some (.int .i64 S.next)∧w'.cell? ⟨s,2,none⟩=some (.slice la S.last.length lc)):=fun w' hb=>by
  have:=(hb.block s h3).trans h1
  refine⟨?_,?_,?_⟩<;>simp[World.cell?,this]
 have hcn:=wZ S.next hv.next.1 hv.next.2
 obtain⟨n,hn⟩:∃n,n=S.l.length:=⟨_,rfl⟩
 have HN:=Lib.hid hn
 rw[←hn]at HH hcap sW
 have hll:=hv.last
 have hnx:=hv.next
 obtain⟨c0,c1,c2⟩:=HH.out w (Below.refl _ _)
 clear hS hM hv h1 h2 h4 h5 h6 h7 h8 hrow hn
 go_enter Tryz.func56,Tryz.ntmps56
 go_wp2_with fail
 (with_reducible refine(lH _).mono ?_)
 rintro e w1 ⟨rfl,hW1,hb1⟩
 have HW1:=Lib.hid hW1
 have HB1:=Lib.hid hb1
 obtain⟨d0,d1,d2⟩:=HH.out w1 hb1
 clear hW1 hb1 c0 c1 c2
 go_wp2_with fail
 (with_reducible refine(oH HW1.out S.next hnx.1 (by omega) (by simp)).mono ?_)
 intro e w2 ht2
 obtain⟨rfl,x2,hW2,hb2⟩:=rW.more HW1.out HB1.out ht2
 have HW2:=Lib.hid hW2
 have HB2:=Lib.hid hb2
 obtain⟨e0,e1,e2⟩:=HH.out w2 hb2
 clear ht2 hW2 hb2 d0 d1 d2 HW1
 go_wp2_with fail
 have hlr:=HLR.out.below HB2.out (Nat.le_refl _)
 (with_reducible refine(tC HW2.out la S.last.length lc S.last hlr (fun b hb=>⟨by have:=HW2.out.low;omega,fun h9=>by have:=dG HW2.out.own b h9;omega⟩) uw.out (by simp[bP]) (by omega)).mono ?_)
 intro e w3 ht3
 obtain⟨rfl,x3,hW3,hb3⟩:=rW.more HW2.out HB2.out ht3
 have HW3:=Lib.hid hW3
 have HB3:=Lib.hid hb3
 obtain⟨f0,f1,f2⟩:=HH.out w3 hb3
 clear ht3 hW3 hb3 e0 e1 e2 HW2 hlr
 go_wp2_with fail
 (with_reducible refine(tu HW3.out (n:Int) (by omega) (by omega) (by simp[bP];omega)).mono ?_)
 intro e w4 XH
 obtain⟨rfl,x4,Qj,hb4⟩:=rW.more HW3.out HB3.out XH
 have Jj:=Lib.hid Qj
 have iq:=Lib.hid hb4
 obtain⟨k0,k1,k2⟩:=HH.out w4 hb4
 clear XH Qj hb4 f0 f1 f2 HW3
 obtain⟨pre,hpre⟩:∃pre,pre=[]++fF S.next 8++(fF (S.last.length:Int) 2++S.last)++fF (n:Int) 1:=⟨_,rfl⟩
 have hprl:pre.length≤1000:=by rw[hpre];simp[bP];omega
 rw[←hpre]at Jj
 have HPRE:=Lib.hid hpre
 clear hpre
 go_wp2_with fail
 go_loopw [5,6,33] (fun _ _ iv wr=>∃k:Nat,iv= .int .i64 k∧k≤n∧rW w w.heap.size (pre++(S.l.take k).flatMap jP) wr) (fun _ _ iv _=>n-(intOf iv).toNat)
 case atStart=>exact⟨0,rfl,Nat.zero_le _,x4,by simpa using Jj.out,iq.out⟩
 case round=>
  obtain⟨k,rfl,hk,y,hy,hby⟩:=hrel
  have HY:=Lib.hid hy
  have K6:=Lib.hid hby
  have hbl:=O_.out k
  clear hy hby
  by_cases hlt:k<n
  ·have hd:decide ((k:Int)<(n:Int))=true:=by simpa using hlt
   obtain⟨x,hx⟩:∃x,S.l[k]? =some x:=⟨S.l[k]'(by have:=HN.out;omega),List.getElem?_eq_getElem _⟩
   have HRW:=dS.out
   rw[←HN.out]at HRW
   obtain⟨g,off,rfl,hgw,_,hcell⟩:=HRW.at_ (by omega)
   obtain⟨ha,hcp,q,r0,r1,r2,r3,r4,r5,r6⟩:=Pf.out.at_ hx
   have q0:wr.cell? ⟨g,off+k*3,none⟩=some (.int .i64 x.id):=(K6.out.cell (p:=⟨g,off+k*3,none⟩) hgw.2).trans ((hcell (k*3) (by omega)).trans r0)
   have q1:wr.cell? ⟨g,off+k*3+1,none⟩=some (.slice ha x.hash.length hcp):=(K6.out.cell (p:=⟨g,off+k*3+1,none⟩) hgw.2).trans ((hcell (k*3+1) (by omega)).trans r1)
   have q2:wr.cell? ⟨g,off+k*3+2,none⟩=some (ptr q):=(K6.out.cell (p:=⟨g,off+k*3+2,none⟩) hgw.2).trans ((hcell (k*3+2) (by omega)).trans r2)
   have hid:=HV.out.each x (List.mem_of_getElem? hx)
   have hci:=wZ x.id hid.1.1 hid.1.2
   have hsb:=qW r6
   have hcb:=wZ ((gD x.t).length:Int) (by omega) (by omega)
   have HX:=Lib.hid hx
   have HR4:=Lib.hid r4
   have oO:=Lib.hid r5
   have EF:=Lib.hid r6
   have i0:(0:Int)≤(k:Int):=by omega
   have i1:(k:Int)<(n:Int):=by omega
   have hs0:=K6.out.size
   clear hx r0 r1 r2 r4 r5 r6 hcell HRW
   go_wp2_with fail
   have hub:=wall wr (.cells #[.int .i64 x.id, .slice ha x.hash.length hcp,ptr q] 105)
   have hu1:=(MapKept.heap_alloc wr (.cells #[.int .i64 x.id, .slice ha x.hash.length hcp,ptr q] 105)).1
   (with_reducible refine(tQ (oO.out.grow (K6.out.trans (Below.mono hub hs0))) EF.out).mono ?_)
   rintro e u2 ⟨ba,bn,bc,rfl,hbc,hbr,hb6⟩
   have hbl2:bn=(gD x.t).length:=by have:=hbr.length;simpa using this.symm
   subst hbl2
   have hyl:=dY HY.out.own
   have hxl:=HY.out.lt
   have hu2:=(hb6.block wr.heap.size (by simp)).trans hu1
   have hbu:Below wr.heap.size wr u2:=hub.trans (hb6.mono hub.size)
   have Dt:=Lib.hid (hbr.mono (S':=fun b=>wr.heap.size≤b∧b<u2.heap.size) fun b hb=>⟨Nat.le_trans hub.size hb.1,hb.2⟩)
   have HAS:Hid (Aside w.heap.size y wr.heap.size u2.heap.size):=fun b h1 h2=>⟨by omega,fun h9=>by have:=hyl b h9;omega⟩
   have PV:=Lib.hid (HY.out.below hbu)
   have rH:=Lib.hid (K6.out.trans (hbu.mono hs0))
   have YQ:=Lib.hid hu2
   have hwu:wr.heap.size<u2.heap.size:=(Array.getElem?_eq_some_iff.1 hu2).1
   have v0:u2.cell? ⟨wr.heap.size,0,none⟩=some (.int .i64 x.id):=by simp[World.cell?,hu2]
   have v1:u2.cell? ⟨wr.heap.size,1,none⟩=some (.slice ha x.hash.length hcp):=by simp[World.cell?,hu2]
   have hl6:(pre++(S.l.take k).flatMap jP).length≤50001000:=by rw[List.length_append];omega
   obtain⟨b0,hb0⟩:∃b0,b0=pre++(S.l.take k).flatMap jP:=⟨_,rfl⟩
   rw[←hb0]at hl6
   have UG:Hid (bT w.heap.size u2 w.heap.size y b0):=by rw[hb0];exact PV
   have R5:=Lib.hid hb0
   clear hub hu1 hbr hb6 hyl hu2 hbu q0 q1 q2 HY PV hb0
   go_wp2_with fail
   (with_reducible refine(oH UG.out x.id hid.1.1 (by omega) (by omega)).mono ?_)
   rintro e u3 ⟨rfl,y3,Ey⟩
   obtain⟨XI,hk3⟩:=HAS.out.more Ey (Nat.le_refl _)
   have hu3:=(hk3 wr.heap.size (Nat.le_refl _) hwu).trans YQ.out
   have KX:=Lib.hid Ey.1
   have A_:=Lib.hid (rH.out.trans (Ey.low UG.out))
   have HAS3:=Lib.hid XI
   have hs3:=Ey.2.1.size
   have XJ:=Lib.hid (Dt.out.kept hs3 (fun b hb _=>hk3 b hb.1 hb.2))
   have v1':u3.cell? ⟨wr.heap.size,1,none⟩=some (.slice ha x.hash.length hcp):=by simp[World.cell?,hu3]
   clear Ey XI hk3 hu3 v0 v1 UG Dt
   go_wp2_with fail
   have hhr:=HR4.out.below A_.out (Nat.le_refl _)
   (with_reducible refine(tC KX.out ha x.hash.length hcp x.hash hhr (fun b hb=>⟨by omega,fun h9=>by have:=dG KX.out.own b h9;omega⟩) (by omega) (by simp[bP];omega) (by omega)).mono ?_)
   rintro e u4 ⟨rfl,y4,C9⟩
   obtain⟨XK,hk4⟩:=HAS3.out.more C9 hs3
   have hs4:=C9.2.1.size
   have Tk:=Lib.hid C9.1
   have wQ:=Lib.hid (A_.out.trans (C9.low KX.out))
   have HAS4:=Lib.hid XK
   have XL:=Lib.hid (XJ.out.kept hs4 (fun b hb _=>hk4 b hb.1 hb.2))
   clear C9 XK hk4 v1' hhr KX XJ
   go_wp2_with fail
   (with_reducible refine(oH Tk.out ((gD x.t).length:Int) (by omega) (by omega) (by simp[bP];omega)).mono ?_)
   rintro e u5 ⟨rfl,y5,E9⟩
   obtain⟨has5,hk5⟩:=HAS4.out.more E9 (by omega)
   have hs5:=E9.2.1.size
   have XM:=Lib.hid E9.1
   have qz:=Lib.hid (wQ.out.trans (E9.low Tk.out))
   have XO:=Lib.hid (XL.out.kept hs5 (fun b hb _=>hk5 b hb.1 hb.2))
   clear E9 has5 hk5 Tk XL
   go_wp2_with fail
   (with_reducible refine(wP XM.out ba (gD x.t).length bc (gD x.t) XO.out (by simp[bP];omega) (by omega)).mono ?_)
   rintro e u6 ⟨rfl,y6,LH⟩
   have HWA:=Lib.hid LH.1
   have HBA:=Lib.hid (qz.out.trans (LH.low XM.out))
   clear LH XM XO
   go_wp2_with fail
   go_roundw
   case rel=>
    refine⟨k+1,by go_num,by omega,y6,?_,HBA.out⟩
    have h9:=HWA.out
    rw[R5.out]at h9
    rw[KC HX.out,jP,nY]
    simpa only[List.append_assoc]using h9
   case measure=>simp[intOf];omega
  ·have hd:decide ((k:Int)<(n:Int))=false:=by simp;omega
   obtain rfl:k=n:=by omega
   have hkl:S.l.take k=S.l:=List.take_of_length_le (by have:=HN.out;omega)
   rw[hkl]at HY hbl
   go_wp2_with fail
   (with_reducible refine(tF HY.out (by rw[List.length_append];omega)).mono ?_)
   rintro e u2 ⟨ba,bn,bc,rfl,hbc,hbr,hb6⟩
   have Dt:=Lib.hid hbr
   have rH:=Lib.hid hb6
   clear hbr hb6
   go_wp2_with fail
   go_ret
   have hs0:=K6.out.size
   refine⟨ba,bn,bc,rfl,hbc,?_,K6.out.trans (rH.out.mono hs0)⟩
   have e:pre++S.l.flatMap jP=iK S:=by
    rw[HPRE.out,HN.out]
    unfold iK nY
    simp
   have h9:=Dt.out
   rw[e]at h9
   exact h9.mono fun b hb=>⟨by omega,hb.2⟩
end
def iD (M:eF):List UInt8:=fF M.now 8++fF (gD (bS M.t)).length 8++gD (bS M.t)++iK M.s
def kL (S:nQ):Prop:=∀x∈S.l,(0≤x.id∧x.id≤S.next)∧x.hash.length≤64
theorem kL.new:kL Hg:=fun x hx=>by cases hx
theorem kL.take {S:nQ} (h:kL S) (h0:0≤S.next) (T:aK):kL (iw S T).2:=by
 unfold iw
 split
 ·exact h
 ·intro x hx
  rcases List.mem_append.1 hx with hx|hx
  ·have:=h x hx
   exact⟨⟨this.1.1,by have:=this.1.2;show x.id≤S.next+1;omega⟩,this.2⟩
  ·rw[List.mem_singleton.1 hx]
   exact⟨⟨h0,by show S.next≤S.next+1;omega⟩,Ia _⟩
theorem kL.forget {S:nQ} (h:kL S) (id now:Int):kL (f_ S id now).2:=by
 rcases sw S id now with e|⟨k,e⟩
 ·rw[e];exact h
 ·rw[e]
  intro x hx
  rcases List.mem_append.1 (show x∈S.l.take k++S.l.drop (k+1)from hx)with hx|hx
  ·exact h x (List.mem_of_mem_take hx)
  ·exact h x (List.mem_of_mem_drop hx)
theorem kL.do_ {M:eF} (h:kL M.s) (h0:0≤M.s.next) (x:kQ):kL (bM M x).2.s:=by
 have hc:=Ie M x
 generalize (bM M x).2=M' at hc⊢
 cases hc with
 |take=>exact h.take h0 _
 |forget=>exact h.forget _ _
 |tick h16=>exact h
 |same=>exact h
 |make ls kind=>exact h
 |create ls h1 h2=>exact h
 |opens T ls y h1 h2 h3 h4 h5 h6=>exact h
 |write f h1=>exact h
 |closes f h1 h2 h3=>exact h
 |shut f h1 h2=>exact h
 |link p q=>exact h
 |unlink ls h1 h2=>exact h
 |rmdir ls=>exact h
 |rename p q=>exact h
 |keep ls h1=>exact h
theorem eU.sv {c:Int} {M:eF} (h:eU c M) (hc:c≤1000000000) (hi:kL M.s):D_ M.s:=
 ⟨h.s.few,h.s.last,⟨h.next.1,by have:=h.next.2;omega⟩,fun x hx=>by have:=hi x hx;have:=h.next.2;exact⟨⟨by omega,by omega⟩,by omega⟩⟩
theorem yI {o:Mark} {i:Nat} {w:World} {s:Nat} {S:nQ} (hS:dR o i w s S) (hv:D_ S):(iK S).length≤50001000:=by
 obtain⟨v,la,lc,vals,h1,h2,h3,h4,h5,h6,h7,h8⟩:=hS.at_
 have:=yH h6 fun x hx=>(hv.each x hx).2
 have:=hv.few
 have:=hv.last
 unfold iK
 simp only[List.length_append,bP,tN]
 omega
section
variable {W w:World} {o:Mark} {i j k p:Nat} {M:eF} {c:Int}
set_option maxRecDepth 100000 in
set_option maxHeartbeats 8000000 in
theorem lq (hS:aU o i j k w p M) (hM:Marks W o w) (hok:eU c M) (hv:D_ M.s):Calls Tryz.prog 13 #[ptr p] w (pE w (iD M)):=by
 obtain⟨t,s,v,h1,h2,h3,h4⟩:=hS.at_
 have hlow:=hS.low
 have HC:=Lib.hid (lI h3 hM hok.t.1)
 have HM:=Lib.hid hM
 have Pg:=Lib.hid h2
 have HV:=Lib.hid hv
 have fu:=Lib.hid hok.t.1.bS
 have Ea:=hok.now
 have HH:Hid (∀w',Below w.heap.size w w'→w'.cell? ⟨p,0,none⟩=some (ptr t)∧w'.cell? ⟨p,1,none⟩=some (ptr s)∧w'.cell? ⟨p,2,none⟩=some (.int .u64 M.now)):=fun w' hb=>by
  obtain⟨z0,z1,z2,-⟩:=fH ((hb.block p hlow).trans h1)
  exact⟨z0,z1,z2⟩
 obtain⟨c0,c1,c2⟩:=HH.out w (Below.refl _ _)
 clear hS hM hok hv h1 h2 h3 h4
 go_enter Tryz.func13,Tryz.ntmps13
 go_wp2_with fail
 (with_reducible refine HC.out.mono ?_)
 rintro e w1 ⟨q,rfl,hT,hb1⟩
 have HT:=Lib.hid hT
 have HB1:=Lib.hid hb1
 clear hT hb1 HC
 go_wp2_with fail
 (with_reducible refine(tQ HT.out fu.out).mono ?_)
 rintro e w2 ⟨ba,bn,bc,rfl,hbc,hbr,hb2⟩
 have hsb:=qW fu.out
 obtain⟨C,hC⟩:∃C,C=gD (bS M.t):=⟨_,rfl⟩
 rw[←hC]at hbr hsb
 have VL:=Lib.hid hC
 have hbl:bn=C.length:=by have:=hbr.length;simpa using this.symm
 subst hbl
 have Dt:=Lib.hid hbr
 have Gd:=HB1.out.trans (hb2.mono HB1.out.size)
 have HB2:=Lib.hid Gd
 obtain⟨d0,d1,d2⟩:=HH.out w2 Gd
 clear hbr hb2 Gd hC c0 c1 c2
 go_wp2_with fail
 (with_reducible refine(lH _).mono ?_)
 rintro e w3 ⟨rfl,hW3,hb3⟩
 have HW3:=Lib.hid hW3
 have HB3:=Lib.hid hb3
 have XP:=HB2.out.trans (hb3.mono HB2.out.size)
 obtain⟨e0,e1,e2⟩:=HH.out w3 XP
 clear hW3 hb3 XP d0 d1 d2
 go_wp2_with fail
 (with_reducible refine(oH HW3.out M.now Ea.1 (by omega) (by simp)).mono ?_)
 intro e w4 XH
 obtain⟨rfl,x4,Qj,hb4⟩:=rW.more HW3.out HB3.out XH
 have Jj:=Lib.hid Qj
 have iq:=Lib.hid hb4
 have XQ:=HB2.out.trans (hb4.mono HB2.out.size)
 obtain⟨f0,f1,f2⟩:=HH.out w4 XQ
 have hcv:=wZ (C.length:Int) (by omega) (by omega)
 clear XH Qj hb4 XQ e0 e1 e2 HW3
 go_wp2_with fail
 (with_reducible refine(oH Jj.out (C.length:Int) (by omega) (by omega) (by simp[bP])).mono ?_)
 intro e w5 ht5
 obtain⟨rfl,x5,hW5,hb5⟩:=rW.more Jj.out iq.out ht5
 have O7:=Lib.hid hW5
 have jI:=Lib.hid hb5
 have XR:=HB2.out.trans (hb5.mono HB2.out.size)
 obtain⟨g0,g1,g2⟩:=HH.out w5 XR
 have XT:=Dt.out.kept hb5.size (fun b hb _=>hb5.block b hb.2)
 clear ht5 hW5 hb5 XR f0 f1 f2 Jj hcv
 go_wp2_with fail
 (with_reducible refine(wP O7.out ba C.length bc C XT (by simp[bP]) (by omega)).mono ?_)
 intro e w6 ht6
 obtain⟨rfl,x6,hW6,hb6⟩:=rW.more O7.out jI.out ht6
 have PV:=Lib.hid hW6
 have rH:=Lib.hid hb6
 have zD:=HB2.out.trans (hb6.mono HB2.out.size)
 have HB16:=Lib.hid zD
 obtain⟨k0,k1,k2⟩:=HH.out w6 zD
 have XU:=Lib.hid (Pg.out.step (I:=fun _=>False) (fun e=>e) (fun e=>e) (Step.grow HM.out zD))
 have Md:=Lib.hid (HM.out.grow zD)
 have hsl:=yI XU.out HV.out
 clear ht6 hW6 hb6 zD g0 g1 g2 O7 XT
 go_wp2_with fail
 (with_reducible refine(KD XU.out Md.out HV.out).mono ?_)
 rintro e w7 ⟨sa,sn,sc,rfl,hsc,hsr,Cn⟩
 have WU:=Lib.hid hsr
 have KX:=Lib.hid (PV.out.below Cn)
 have A_:=Lib.hid (rH.out.trans (Cn.mono rH.out.size))
 have hsl2:sn=(iK M.s).length:=by have:=hsr.length;simpa using this.symm
 subst hsl2
 clear hsr Cn PV
 go_wp2_with fail
 (with_reducible refine(wP KX.out sa (iK M.s).length sc (iK M.s) WU.out (by simp[bP];omega) (by omega)).mono ?_)
 intro e w8 ht8
 obtain⟨rfl,x8,hW8,Ag⟩:=rW.more KX.out A_.out ht8
 have Tk:=Lib.hid hW8
 have wQ:=Lib.hid Ag
 clear ht8 hW8 Ag KX
 go_wp2_with fail
 (with_reducible refine(tF Tk.out (by simp[bP];omega)).mono ?_)
 rintro e w9 ⟨ra,rn,rc,rfl,hrc,hrr,fM⟩
 have HRR:=Lib.hid hrr
 have qz:=Lib.hid fM
 clear hrr fM
 go_wp2_with fail
 go_ret
 have hs2:=HB2.out.size
 have uQ:=wQ.out.size
 refine⟨ra,rn,rc,rfl,hrc,?_,(HB2.out.trans (wQ.out.mono hs2)).trans (qz.out.mono (by omega))⟩
 have e:[]++fF M.now 8++fF (C.length:Int) 8++C++iK M.s=iD M:=by
  rw[VL.out]
  unfold iD
  simp
 have h9:=HRR.out
 rw[e]at h9
 exact h9.mono fun b hb=>⟨by omega,hb.2⟩
end
def p8 (l:List UInt8):Int:=l.foldl (fun n c=>n*256+(c.toNat:Int)) 0
theorem uj (l:List UInt8) (c:UInt8):p8 (l++[c])=p8 l*256+(c.toNat:Int):=by unfold p8;rw[List.foldl_append];rfl
theorem OA:p8 []=0:=rfl
theorem Au {α:Type} (l:List α) (k:Nat) (h:l.length=k+1):∃l' c,l=l'++[c]∧l'.length=k:=by
 have hne:l≠[]:=fun e=>by rw[e]at h;cases h
 exact⟨l.dropLast,l.getLast hne,(List.dropLast_concat_getLast hne).symm,by rw[List.length_dropLast];omega⟩
theorem p9:∀(k:Nat) (l:List UInt8),l.length=k→0≤p8 l∧p8 l<256^k
 |0,l,h=>by rw[List.eq_nil_of_length_eq_zero h];simp[p8]
 |k+1,l,h=>by
  obtain⟨l',c,rfl,h'⟩:=Au l k h
  obtain⟨h1,h2⟩:=p9 k l' h'
  have hc:(c.toNat:Int)≤255:=by have:=c.toNat_lt;omega
  rw[uj,Int.pow_succ]
  generalize (256:Int)^k=P at*
  omega
theorem yJ:∀(k:Nat) (n:Int),0≤n→fF n (k+1)=fF (n/256) k++[UInt8.ofNat ((n%256).toNat)]
 |0,n,h0=>by
  show[UInt8.ofNat ((n/2^(8*0)).toNat%256)]=[UInt8.ofNat ((n%256).toNat)]
  congr 2
  simp
  omega
 |k+1,n,h0=>by
  have h:=yJ k n h0
  rw[fF,h]
  show _=(UInt8.ofNat ((n/256/2^(8*k)).toNat%256)::fF (n/256) k)++_
  rw[List.cons_append]
  congr 4
  rw[Int.ediv_ediv_of_nonneg (by decide),show(2:Int)^(8*(k+1))=256*2^(8*k)by rw[Nat.mul_add,Int.pow_add,Int.mul_comm];rfl]
theorem Io:∀(k:Nat) (n:Int),0≤n→n<256^k→p8 (fF n k)=n
 |0,n,h0,h1=>by simp only[Int.pow_zero]at h1;simp only[fF,OA];omega
 |k+1,n,h0,h1=>by
  rw[yJ k n h0,uj,Io k (n/256) (by omega) (by rw[Int.pow_succ]at h1;generalize (256:Int)^k=P at*;omega)]
  have:(UInt8.ofNat (n%256).toNat).toNat=(n%256).toNat:=by simp;omega
  rw[this];omega
theorem Ip:∀(k:Nat) (l:List UInt8),l.length=k→fF (p8 l) k=l
 |0,l,h=>(List.eq_nil_of_length_eq_zero h).symm
 |k+1,l,h=>by
  obtain⟨l',c,rfl,h'⟩:=Au l k h
  obtain⟨h1,h2⟩:=p9 k l' h'
  have hc:(c.toNat:Int)≤255:=by have:=c.toNat_lt;omega
  rw[uj,yJ _ _ (by omega),show(p8 l'*256+(c.toNat:Int))/256=p8 l' by omega,Ip k l' h',show((p8 l'*256+(c.toNat:Int))%256).toNat=c.toNat by omega]
  simp
abbrev Rd:=List UInt8×Int
def iV (s:Rd) (n:Int):List UInt8×Rd:=
 if s.2≠0 then([],s)else if (s.1.length:Int)<n then([],(s.1,10))else if n<1 then([],s)else(s.1.take n.toNat,(s.1.drop n.toNat,0))
def bg (s:Rd) (k:Nat):Int×Rd:=(p8 (iV s k).1,(iV s k).2)
def qm (s:Rd):Bool×Rd:=(decide ((bg s 1).1=1),if 1<(bg s 1).1 then((bg s 1).2.1,12)else(bg s 1).2)
def aI (s:Rd):List UInt8×Rd:=iV (bg s 2).2 (bg s 2).1
def kT (s:Rd):Nat:=if s.2≠0 then 0 else s.1.length
def nG (s:Rd):Int:=if s.2=0∧0<s.1.length then 11 else s.2
theorem Av {s:Rd} (h:s.2≠0) (n:Int):iV s n=([],s):=by unfold iV;rw[if_pos h]
theorem Iq {s:Rd} {n:Int} (h0:0≤n) (h:(iV s n).2.2=0):s.2=0∧s.1=(iV s n).1++(iV s n).2.1∧((iV s n).1.length:Int)=n:=by
 by_cases h1:s.2≠0
 ·rw[Av h1]at h;exact absurd h h1
 ·have h1:s.2=0:=Decidable.not_not.1 h1
  unfold iV at h⊢
  rw[if_neg (by simp[h1])]at h⊢
  by_cases h2:(s.1.length:Int)<n
  ·rw[if_pos h2]at h;cases h
  ·rw[if_neg h2]at h⊢
   by_cases h3:n<1
   ·rw[if_pos h3]
    exact⟨h1,rfl,by simp;omega⟩
   ·rw[if_neg h3]
    refine⟨h1,(List.take_append_drop _ _).symm,?_⟩
    simp only[List.length_take]
    omega
theorem qX (l r:List UInt8) (n:Int) (hn:n=l.length):iV (l++r,0) n=(l,(r,0)):=by
 subst hn
 unfold iV
 rw[if_neg (by simp),if_neg (by simp only[List.length_append];omega)]
 by_cases h:(l.length:Int)<1
 ·have:l=[]:=List.eq_nil_of_length_eq_zero (by omega)
  subst this;rw[if_pos (by simp)];rfl
 ·rw[if_neg h];simp
theorem jS {s:Rd} {k:Nat} (h:(bg s k).2.2=0):s.2=0∧s.1=fF (bg s k).1 k++(bg s k).2.1∧0≤(bg s k).1∧(bg s k).1<256^k:=by
 obtain⟨h1,h2,h3⟩:=Iq (s:=s) (n:=k) (by omega) h
 have h4:(iV s k).1.length=k:=by omega
 refine⟨h1,?_,p9 k _ h4⟩
 unfold bg
 rw[Ip k _ h4];exact h2
theorem fJ (k:Nat) (n:Int) (r:List UInt8) (h0:0≤n) (h1:n<256^k):bg (fF n k++r,0) k=(n,(r,0)):=by
 unfold bg
 rw[qX (fF n k) r k (by rw[bP]),Io k n h0 h1]
theorem fT (s:Rd) (k:Nat):0≤(bg s k).1∧(bg s k).1<256^k:=by
 by_cases h:(bg s k).2.2=0
 ·exact(jS h).2.2
 ·have hp:(0:Int)<256^k:=Int.pow_pos (by decide)
  have:(iV s k).1=[]:=by
   unfold bg at h
   unfold iV at h⊢
   split
   ·rfl
   ·rename_i h1
    rw[if_neg h1]at h
    split
    ·rfl
    ·rename_i h2
     rw[if_neg h2]at h
     split
     ·rfl
     ·rename_i h3;rw[if_neg h3]at h;exact absurd rfl h
  unfold bg
  rw[this]
  exact⟨Int.le_refl _,hp⟩
theorem OB {s:Rd} (h:(qm s).2.2=0):s.2=0∧s.1=qh (qm s).1++(qm s).2.1:=by
 unfold qm at h⊢
 by_cases h1:1<(bg s 1).1
 ·rw[if_pos h1]at h;cases h
 ·rw[if_neg h1]at h⊢
  obtain⟨e1,e2,e3,e4⟩:=jS h
  refine⟨e1,?_⟩
  unfold qh
  by_cases h2:(bg s 1).1=1
  ·rw[h2]at e2;simp only[h2,decide_true,if_true];exact e2
  ·have h3:(bg s 1).1=0:=by omega
   rw[h3]at e2
   simp only[h3]
   exact e2
theorem KE (f:Bool) (r:List UInt8):qm (qh f++r,0)=(f,(r,0)):=by
 unfold qm qh
 cases f
 ·rw[fJ 1 _ r (by decide) (by decide)];rfl
 ·rw[fJ 1 _ r (by decide) (by decide)];rfl
theorem oZ {s:Rd} (h:(aI s).2.2=0):s.2=0∧s.1=nY (aI s).1++(aI s).2.1∧(aI s).1.length≤65535:=by
 have hr:=fT s 2
 unfold aI at h⊢
 obtain⟨h1,h2,h3⟩:=Iq hr.1 h
 obtain⟨h4,h5,h6,h7⟩:=jS h1
 refine⟨h4,?_,by have:(256:Int)^2=65536:=rfl;omega⟩
 unfold nY
 rw[h3,List.append_assoc,←h2]
 exact h5
theorem ni (l r:List UInt8) (h:l.length≤65535):aI (nY l++r,0)=(l,(r,0)):=by
 unfold aI nY
 rw[List.append_assoc,fJ 2 _ _ (by omega) (by have:(256:Int)^2=65536:=rfl;omega)]
 exact qX l r _ rfl
end Go.Proofs.YtmabllemjkcobaaGreatDoor
