/- Snapshots that were taken, plainly: their IDs rise, from 1 on. A drawn region: an operation that its guard does not want, in one line. permafrostlaw13: same. -/
import Derived.Test.YtohpcppeajijnaaGreatM44
import Derived.Test.YtohpcppeajijnaaGreatM42
import Derived.Test.YtohpcppeajijnaaGreatM20
import Derived.Test.YtohpcppeajijnaaGreatM04
import Derived.Test.YtohpcppeajijnaaGreatM25
namespace Go.Proofs.YtohpcppeajijnaaGreat
open Go.ChangeShapes Go.WideShapes Go.ChangeAt Go.RowKit
set_option linter.unusedVariables false
set_option linter.unusedSimpArgs false
structure eY (A:iC):Prop where
 each:∀x∈A.l,(1≤x.id∧x.id<A.next)∧x.hash.length≤64
 up:A.l.Pairwise fun x y=>x.id<y.id
 next:1≤A.next
theorem eY.new:eY gP:=⟨fun x hx=>(by cases hx),List.Pairwise.nil,by decide⟩
theorem eY.take {A:iC} (h:eY A) (T:aI):eY (bW A T).2:=by
 have hn:=h.next
 unfold bW
 split
 ·exact h
 ·refine⟨fun x hx=> ?_,?_,by show 1≤A.next+1;omega⟩
  ·rcases List.mem_append.1 (show x∈A.l++[_]from hx)with hx|hx
   ·have:=h.each x hx
    exact⟨⟨this.1.1,by have:=this.1.2;show x.id<A.next+1;omega⟩,this.2⟩
   ·rw[List.mem_singleton.1 hx]
    exact⟨⟨hn,by show A.next<A.next+1;omega⟩,by show(iG _).length≤64;rw[oL];omega⟩
  ·show(A.l++[_]).Pairwise _
   rw[List.pairwise_append]
   refine⟨h.up,List.pairwise_singleton _ _,fun x hx y hy=> ?_⟩
   rw[List.mem_singleton.1 hy]
   exact(h.each x hx).1.2
theorem eY.forget {A A':iC} {id now er:Int} (h:eY A) (hf:iq A id now er A'):eY A':=by
 rcases hf with⟨_,rfl,_⟩|⟨k,x,hx,_,_,hf⟩
 ·exact h
 ·rcases hf with⟨_,_,rfl⟩|⟨_,_,rfl⟩
  ·exact h
  ·have hs:∀y∈(zA A k).l,y∈A.l:=fun y hy=>by
    rcases List.mem_append.1 (show y∈A.l.take k++A.l.drop (k+1)from hy)with hy|hy
    ·exact List.mem_of_mem_take hy
    ·exact List.mem_of_mem_drop hy
   have hsub:(A.l.take k++A.l.drop (k+1)).Sublist A.l:=by
    conv=>rhs;rw[←List.take_append_drop k A.l]
    refine List.Sublist.append (List.Sublist.refl _) ?_
    rw[←List.drop_drop]
    exact List.drop_sublist _ _
   exact⟨fun y hy=>h.each y (hs y hy),h.up.sublist hsub,h.next⟩
theorem eY.ask {q:pW} {T:aI} {A A':iC} (h:eY A) (hd:BG q T A A'):eY A'∧A'.next≤A.next+1:=by
 rcases hd with⟨_,rfl⟩|⟨_,er,hf⟩|⟨_,rfl⟩
 ·refine⟨h.take T,?_⟩
  unfold bW
  split
  ·show A.next≤A.next+1;omega
  ·exact Int.le_refl _
 ·exact⟨h.forget hf,by rw[hf.next.1];omega⟩
 ·exact⟨h,by omega⟩
theorem eY.sv {A:iC} (h:eY A) (h8:DJ A) (hn:A.next≤1000000000):Rf A:=
 ⟨h8.len,h8.last,⟨h8.next,hn⟩,fun x hx=>⟨⟨by have:=(h.each x hx).1.1;omega,by have:=(h.each x hx).1.2;omega⟩,(h.each x hx).2⟩⟩
theorem EL:∀{l:List dQ} {k:Nat} {x:dQ},l.Pairwise (fun x y=>x.id<y.id)→l[k]? =some x→l.find? (fun y=>decide (y.id=x.id))=some x
 |[],k,x,_,h=>by simp at h
 |y::r,0,x,_,h=>by
  obtain rfl:y=x:=by simpa using h
  simp
 |y::r,k+1,x,hp,h=>by
  have h1:r[k]? =some x:=by simpa using h
  have h2:=(List.pairwise_cons.1 hp).1 x (List.mem_of_getElem? h1)
  rw[List.find?_cons_of_neg (by simp;omega)]
  exact EL (List.pairwise_cons.1 hp).2 h1
theorem eY.find {A:iC} (h:eY A) {k:Nat} {x:dQ} (hx:A.l[k]? =some x):oZ A x.id=some x:=EL h.up hx
theorem eY.U6 {A:iC} (h:eY A):oZ A 0=none:=List.find?_eq_none.2 fun x hx=>by
 have:=(h.each x hx).1.1
 simp
 omega
theorem eY.U7 {A:iC} (h:eY A):oZ A A.next=none:=List.find?_eq_none.2 fun x hx=>by
 have:=(h.each x hx).1.2
 simp
 omega
open Go
section
variable {W w:World} {o:Mark} {p s t x y:Nat} {A:iC} {T:aI}
set_option maxRecDepth 100000 in
set_option maxHeartbeats 32000000 in
theorem qK (h:gY W o w p s t x y A T A T) (hG:eY A) (hn9:A.next≤1000000):Calls Tryz.prog 43 #[ptr p] w fun e w'=>e= .returned (.bool true)∧Below w.heap.size w w':=by
 have HW:=Lib.hid h
 have HG:=Lib.hid hG
 have JE:=Lib.hid (hG.sv h.zT (by omega))
 have zY:=h.zT.len
 obtain⟨n,hn⟩:∃n,n=A.l.length:=⟨_,rfl⟩
 have HN:=Lib.hid hn
 have XK:=Lib.hid (zy h.sn (by omega))
 obtain⟨la,lc,ra,rc,vals,hx,-,hxw,-,Ht,hxo,-,-⟩:=h.rs.at_
 rw[←hn]at zY hx Ht
 have HXB:=Lib.hid hx
 have RD:=Lib.hid Ht
 have HXO:=Lib.hid hxo
 have HPW:=Lib.hid h.low
 have hpw:=h.low
 have uI:Hid (∀w',Below w.heap.size w w'→w'.cell? ⟨p,0,none⟩=some (ptr s)∧w'.cell? ⟨p,2,none⟩=some (ptr x)∧w'.cell? ⟨x,2,none⟩=some (.slice ra n rc)∧w'.cell? ⟨x,0,none⟩=some (.int .i64 A.next)):=fun w' hb=>by
  have h1:=(HW.out.grow hb).cells
  have h2:=(hb.block x hxw).trans HXB.out
  refine⟨h1.1,h1.2.2.1,?_,?_⟩<;>simp[World.cell?,h2]
 have hal:(allM A).length=n:=by unfold allM;rw[List.length_map,hn]
 have qz:=Lib.hid hal
 obtain⟨q0,q2,x2,x0⟩:=uI.out w (Below.refl _ _)
 clear h hG hn hx Ht hxo hal q2 x2 x0
 go_enter Tryz.func43,Tryz.ntmps43
 go_wp2_with fail
 (with_reducible refine XK.out.mono ?_)
 rintro e w1 ⟨aa,ac,he,hac,har,hb1⟩
 have he:e= .returned (.slice aa n ac):=by rw[he,qz.out]
 subst he
 rw[qz.out]at hac har
 have HB1:=Lib.hid hb1
 have HAR:=Lib.hid har
 obtain⟨q0,q2,x2,x0⟩:=uI.out w1 hb1
 have hnn:(n !=n)=false:=by simp
 clear hb1 har
 go_wp2_with fail
 go_loopw [4] (fun iv wr=>∃k:Nat,iv= .int .i64 k∧k≤n∧Below w1.heap.size w1 wr) (fun iv _=>n-(intOf iv).toNat)
 case atStart=>exact⟨0,rfl,Nat.zero_le _,Below.refl _ _⟩
 case round=>
  obtain⟨k,rfl,hk,hb⟩:=hrel
  have HB:=Lib.hid (HB1.out.trans (hb.mono HB1.out.size))
  have yt:=Lib.hid hb
  by_cases hlt:k<n
  ·as_aux_lemma=>
   have hd:decide (k<n)=true:=by simpa using hlt
   obtain⟨z,hz⟩:∃z,A.l[k]? =some z:=⟨A.l[k]'(by rw[←HN.out];exact hlt),List.getElem?_eq_getElem _⟩
   obtain⟨ab,ao,rfl,hab,U8,LB⟩:=HAR.out.at_ (by omega)
   have hca:wr.cell? ⟨ab,ao+k,none⟩=some (.int .i64 z.id):=by
    rw[hb.cell (p:=⟨ab,ao+k,none⟩) U8,LB k hlt]
    unfold allM
    rw[List.getElem?_map,List.getElem?_map,hz]
    rfl
   obtain⟨rb,ro,rfl,hrb,hrw,hrc⟩:=RD.out.at_ (by omega)
   obtain⟨zh,zc,zq,e0,e1,e2,e3,e4,e5,e6⟩:=HXO.out.at_ hz
   have Q0:Hid (∀w',Below wr.heap.size wr w'→(w'.cell? ⟨p,0,none⟩=some (ptr s)∧w'.cell? ⟨p,2,none⟩=some (ptr x)∧w'.cell? ⟨x,2,none⟩=some (.slice (some ⟨rb,ro,none⟩) n rc))∧w'.cell? ⟨ab,ao+k,none⟩=some (.int .i64 z.id)∧w'.cell? ⟨rb,ro+k*3,none⟩=some (.int .i64 z.id)∧w'.cell? ⟨rb,ro+k*3+1,none⟩=some (.slice zh z.hash.length zc)∧w'.cell? ⟨rb,ro+k*3+2,none⟩=some (ptr zq)):=fun w' hb'=>by
    have hbb:=HB.out.trans (hb'.mono HB.out.size)
    obtain⟨q0,q2,x2,x0⟩:=uI.out w' hbb
    refine⟨⟨q0,q2,x2⟩,(hb'.cell (p:=⟨ab,ao+k,none⟩) (Nat.lt_of_lt_of_le U8 hb.size)).trans hca,(hbb.cell (p:=⟨rb,ro+k*3,none⟩) hrw).trans ((hrc (k*3) (by omega)).trans e0),(hbb.cell (p:=⟨rb,ro+k*3+1,none⟩) hrw).trans ((hrc (k*3+1) (by omega)).trans e1),(hbb.cell (p:=⟨rb,ro+k*3+2,none⟩) hrw).trans ((hrc (k*3+2) (by omega)).trans e2)⟩
   have HZ:=Lib.hid (HG.out.find hz)
   have HZM:=Lib.hid (HG.out.each z (List.mem_of_getElem? hz))
   have HW1:=Lib.hid (HW.out.grow HB.out)
   have U9:=Lib.hid (zU (HW1.out.grow (Below.refl _ _).drew).sn (HW1.out.grow (Below.refl _ _).drew).marks (by have:=HW1.out.zT.len;omega) z.id)
   have Zf:=Lib.hid e4
   have Zg:=Lib.hid e5
   have U_:=Lib.hid e6
   have i0:(0:Int)≤(k:Int):=by omega
   have i1:(k:Int)<(n:Int):=by omega
   clear hz hab LB hrb hrc e0 e1 e2 e3 e4 e5 e6 hca q0 q2 x2 x0
   obtain⟨⟨q0,q2,x2⟩,ca,r0,r1,r2⟩:=Q0.out wr.drew (Below.refl _ _).drew
   go_wp2_with fail
   refine wp_region_noPanic ?_
   refine wp_region_held_drew (S:=(fun w'=>w'.cell? ⟨p,0,none⟩=some (ptr s)∧w'.cell? ⟨ab,ao+k,none⟩=some (.int .i64 z.id))) (by kernel_rfl) ?_ (fun hS=> ?_)
   ·exact⟨q0,ca⟩
   refine bH 0 (hS:=hS) (h:= ?_)
   refine bH 1 (hS:=hS) (h:= ?_)
   refine bH 2 (hS:=hS) (h:= ?_)
   refine bH 3 (hS:=hS) (h:= ?_)
   refine bH 4 (hS:=hS) (h:= ?_)
   refine bH 5 (hS:=hS) (h:= ?_)
   refine bH 6 (hS:=hS) (h:= ?_)
   refine bH 7 (hS:=hS) (h:= ?_)
   refine rT 8 (h:=fun K hK=> ?_)
   go_simp
   (with_reducible refine U9.out.mono ?_)
   rintro e w2 ⟨hb2,h2⟩
   rcases h2 with⟨h2,_⟩|⟨z2,zr,h2,rfl,Am,hok2⟩
   ·exact absurd (HZ.out.symm.trans h2) (by simp)
   ·obtain rfl:z=z2:=Option.some.inj (HZ.out.symm.trans h2)
    have HB2:=Lib.hid ((Below.refl wr.heap.size wr).drew.trans hb2)
    have HT2:=Lib.hid Am
    clear hb2 h2 Am hok2 q0 q2 x2 ca r0 r1 r2
    obtain⟨⟨q0,q2,x2⟩,ca,r0,r1,r2⟩:=Q0.out w2 HB2.out
    go_wp2_with fail
    refine hK.out _ _ (⟨q0,ca⟩) (fun hS=> ?_)
    clear hK K
    try simp only[Act.put,List.setIfInBounds_toArray,List.set_cons_zero,List.set_cons_succ]
    refine bH 9 (hS:=hS) (h:= ?_)
    refine bH 10 (hS:=hS) (h:= ?_)
    refine bH 11 (hS:=hS) (h:= ?_)
    refine bH 12 (hS:=hS) (h:= ?_)
    refine bH 13 (hS:=hS) (h:= ?_)
    refine wpAnyH_done (by kernel_rfl) ?_ _
    refine NoPanic.normal ?_
    clear hS
    have HW2:=Lib.hid (HW1.out.grow HB2.out)
    have Va:=Lib.hid (wU (HW2.out.grow (Below.refl _ _).drew).sn (by have:=HW2.out.zT.len;omega) (fun y hy=>(HG.out.each y hy).2) z.id)
    go_wp2_with fail
    refine wp_region_noPanic ?_
    refine wp_region_held_drew (S:=(fun w'=>w'.cell? ⟨p,0,none⟩=some (ptr s)∧w'.cell? ⟨ab,ao+k,none⟩=some (.int .i64 z.id))) (by kernel_rfl) ?_ (fun hS=> ?_)
    ·exact⟨q0,ca⟩
    refine bH 0 (hS:=hS) (h:= ?_)
    refine bH 1 (hS:=hS) (h:= ?_)
    refine bH 2 (hS:=hS) (h:= ?_)
    refine bH 3 (hS:=hS) (h:= ?_)
    refine bH 4 (hS:=hS) (h:= ?_)
    refine bH 5 (hS:=hS) (h:= ?_)
    refine bH 6 (hS:=hS) (h:= ?_)
    refine bH 7 (hS:=hS) (h:= ?_)
    refine rT 8 (h:=fun K hK=> ?_)
    go_simp
    (with_reducible refine Va.out.mono ?_)
    rintro e w3 ⟨hb3,h3⟩
    rcases h3 with⟨h3,_⟩|⟨z3,ha,hc,h3,rfl,hr3,hc3⟩
    ·exact absurd (HZ.out.symm.trans h3) (by simp)
    ·obtain rfl:z=z3:=Option.some.inj (HZ.out.symm.trans h3)
     have HB3:=Lib.hid (HB2.out.trans (((Below.refl w2.heap.size w2).drew.trans hb3).mono HB2.out.size))
     obtain⟨hl,Ls⟩:∃hl,hl=z.hash.length:=⟨_,rfl⟩
     rw[←Ls]at hr3 hc3 r1 Q0⊢
     have HR3:=Lib.hid hr3
     have HT3:=Lib.hid (HT2.out.grow ((Below.refl w2.heap.size w2).drew.trans hb3))
     have HZR:Hid (ak (Free o w) w zh hl (z.hash.map bv)):=by rw[Ls];exact Zf.out
     clear hb3 h3 hr3 hc3 q0 q2 x2 ca r0 r1 r2 Ls
     obtain⟨⟨q0,q2,x2⟩,ca,r0,r1,r2⟩:=Q0.out w3 HB3.out
     go_wp2_with fail
     refine hK.out _ _ (⟨q0,ca⟩) (fun hS=> ?_)
     clear hK K
     try simp only[Act.put,List.setIfInBounds_toArray,List.set_cons_zero,List.set_cons_succ]
     refine bH 9 (hS:=hS) (h:= ?_)
     refine bH 10 (hS:=hS) (h:= ?_)
     refine bH 11 (hS:=hS) (h:= ?_)
     refine bH 12 (hS:=hS) (h:= ?_)
     refine bH 13 (hS:=hS) (h:= ?_)
     refine wpAnyH_done (by kernel_rfl) ?_ _
     refine NoPanic.normal ?_
     clear hS
     obtain⟨sv,hsv⟩:∃sv,sv=fq z.t:=⟨_,rfl⟩
     have kR:Hid (∀u,Below w3.heap.size w3 u→Calls Tryz.prog 31 #[ptr zr] u (kC u sv)):=fun u hb=>by
      rw[hsv]
      exact rE (HT3.out.grow hb) U_.out
     have xB:Hid (Below w.heap.size w w3):=HB.out.trans (HB3.out.mono HB.out.size)
     have HS2:Hid (∀u,Below w3.heap.size w3 u→Calls Tryz.prog 32 #[ptr zq] u (dS u sv)):=fun u hb=>by
      rw[hsv]
      exact zS (W:=W) (Zg.out.grow (xB.out.trans (hb.mono xB.out.size))) U_.out
     have NW:Hid (∀u,Below w3.heap.size w3 u→(convert 39 9 (.slice ha hl hc)).run Tryz.prog u= .ok (.string (strOf z.hash)) u∧(convert 39 9 (.slice zh hl zc)).run Tryz.prog u= .ok (.string (strOf z.hash)) u):=fun u hb=>⟨fQ (HR3.out.below hb (Nat.le_refl _)),fQ (HZR.out.below (xB.out.trans (hb.mono xB.out.size)) (Nat.le_refl _))⟩
     have gq:Hid (∀u,Below w3.heap.size w3 u→((u.cell? ⟨p,2,none⟩=some (ptr x)∧u.cell? ⟨x,2,none⟩=some (.slice (some ⟨rb,ro,none⟩) n rc))∧u.cell? ⟨ab,ao+k,none⟩=some (.int .i64 z.id)∧u.cell? ⟨rb,ro+k*3,none⟩=some (.int .i64 z.id)∧u.cell? ⟨rb,ro+k*3+1,none⟩=some (.slice zh hl zc)∧u.cell? ⟨rb,ro+k*3+2,none⟩=some (ptr zq))∧Below w3.heap.size w3 u∧(convert 39 9 (.slice ha hl hc)).run Tryz.prog u= .ok (.string (strOf z.hash)) u∧(convert 39 9 (.slice zh hl zc)).run Tryz.prog u= .ok (.string (strOf z.hash)) u):=fun u hb=>by
      obtain⟨⟨q0,q2,x2⟩,ca,r0,r1,r2⟩:=Q0.out u (HB3.out.trans (hb.mono HB3.out.size))
      exact⟨⟨⟨q2,x2⟩,ca,r0,r1,r2⟩,hb,NW.out u hb⟩
     have hzz:(z.id !=z.id)=false:=by simp
     have hzz2:(z.id==z.id)=true:=by simp
     clear q0 q2 x2 ca r0 r1 r2 hsv
     go_wp2_with fail
     refine wp_region_noPanic ?_
     refine wp_region_held_drew (S:=(fun w'=>((w'.cell? ⟨p,2,none⟩=some (ptr x)∧w'.cell? ⟨x,2,none⟩=some (.slice (some ⟨rb,ro,none⟩) n rc))∧w'.cell? ⟨ab,ao+k,none⟩=some (.int .i64 z.id)∧w'.cell? ⟨rb,ro+k*3,none⟩=some (.int .i64 z.id)∧w'.cell? ⟨rb,ro+k*3+1,none⟩=some (.slice zh hl zc)∧w'.cell? ⟨rb,ro+k*3+2,none⟩=some (ptr zq))∧Below w3.heap.size w3 w'∧(convert 39 9 (.slice ha hl hc)).run Tryz.prog w'= .ok (.string (strOf z.hash)) w'∧(convert 39 9 (.slice zh hl zc)).run Tryz.prog w'= .ok (.string (strOf z.hash)) w')) (by kernel_rfl) ?_ (fun hS=> ?_)
     ·exact gq.out _ (Below.refl _ _).drew
     refine bH 0 (hS:=hS) (h:= ?_)
     refine bH 1 (hS:=hS) (h:= ?_)
     refine bH 2 (hS:=hS) (h:= ?_)
     refine bH 3 (hS:=hS) (h:= ?_)
     refine bH 4 (hS:=hS) (h:= ?_)
     refine bH 5 (hS:=hS) (h:= ?_)
     refine bH 6 (hS:=hS) (h:= ?_)
     refine bH 7 (hS:=hS) (h:= ?_)
     refine bH 8 (hS:=hS) (h:= ?_)
     refine bH 9 (hS:=hS) (h:= ?_)
     refine bH 10 (hS:=hS) (h:= ?_)
     refine bH 11 (hS:=hS) (h:= ?_)
     refine bH 12 (hS:=hS) (h:= ?_)
     refine bH 13 (hS:=hS) (h:= ?_)
     refine bH 14 (hS:=hS) (h:= ?_)
     refine bH 15 (hS:=hS) (h:= ?_)
     refine bH 16 (hS:=hS) (h:= ?_)
     refine bH 17 (hS:=hS) (h:= ?_)
     refine bH 18 (hS:=hS) (h:= ?_)
     refine bH 19 (hS:=hS) (h:= ?_)
     refine bH 20 (hS:=hS) (h:= ?_)
     refine bH 21 (hS:=hS) (h:= ?_)
     refine bH 22 (hS:=hS) (h:= ?_)
     refine bH 23 (hS:=hS) (h:= ?_)
     refine bH 24 (hS:=hS) (h:= ?_)
     refine bH 25 (hS:=hS) (h:= ?_)
     refine bH 26 (hS:=hS) (h:= ?_)
     refine bH 27 (hS:=hS) (h:= ?_)
     refine bH 28 (hS:=hS) (h:= ?_)
     refine bH 29 (hS:=hS) (h:= ?_)
     refine bH 32 (hS:=hS) (h:= ?_)
     refine bH 33 (hS:=hS) (h:= ?_)
     refine bH 34 (hS:=hS) (h:= ?_)
     refine bH 35 (hS:=hS) (h:= ?_)
     refine bH 36 (hS:=hS) (h:= ?_)
     refine bH 37 (hS:=hS) (h:= ?_)
     refine bH 38 (hS:=hS) (h:= ?_)
     refine bH 39 (hS:=hS) (h:= ?_)
     refine bH 40 (hS:=hS) (h:= ?_)
     refine bH 41 (hS:=hS) (h:= ?_)
     refine bH 42 (hS:=hS) (h:= ?_)
     refine rT 30 (h:=fun K hK=> ?_)
     go_simp
     (with_reducible refine(kR.out _ (Below.refl _ _).drew).mono ?_)
     rintro e w4 ⟨a4,n4,c4,rfl,Rw,hr4,hb4⟩
     have hB4:Below w3.heap.size w3 w4:=(Below.refl w3.heap.size w3).drew.trans hb4
     have HR4:=Lib.hid hr4
     go_wp2_with fail
     refine hK.out _ _ (gq.out _ hB4) (fun hS=> ?_)
     clear hK K
     try simp only[Act.put,List.setIfInBounds_toArray,List.set_cons_zero,List.set_cons_succ]
     refine gV (S':=fun w'=>(((w'.cell? ⟨p,2,none⟩=some (ptr x)∧w'.cell? ⟨x,2,none⟩=some (.slice (some ⟨rb,ro,none⟩) n rc))∧w'.cell? ⟨ab,ao+k,none⟩=some (.int .i64 z.id)∧w'.cell? ⟨rb,ro+k*3,none⟩=some (.int .i64 z.id)∧w'.cell? ⟨rb,ro+k*3+1,none⟩=some (.slice zh hl zc)∧w'.cell? ⟨rb,ro+k*3+2,none⟩=some (ptr zq))∧Below w3.heap.size w3 w'∧(convert 39 9 (.slice ha hl hc)).run Tryz.prog w'= .ok (.string (strOf z.hash)) w'∧(convert 39 9 (.slice zh hl zc)).run Tryz.prog w'= .ok (.string (strOf z.hash)) w')∧(convert 39 9 (.slice a4 n4 c4)).run Tryz.prog w'= .ok (.string (strOf sv)) w') (fun _ h=>h.1) _ _ _ _ ?_
     have LC:=And.intro hS (fQ (c:=c4) HR4.out)
     clear hS
     have hS:=LC
     clear LC
     refine bH 31 (hS:=hS) (h:= ?_)
     refine rT 43 (h:=fun K hK=> ?_)
     go_simp
     (with_reducible refine(HS2.out _ hB4).mono ?_)
     rintro e w5 ⟨a5,c5,rfl,hown5,hb5⟩
     have CV:Below w3.heap.size w3 w5:=hB4.trans (hb5.mono hB4.size)
     have C8:=Lib.hid (bR hown5)
     have OL:Hid ((convert 39 9 (.slice a4 n4 c4)).run Tryz.prog w5= .ok (.string (strOf sv)) w5):=fQ (c:=c4) (HR4.out.below hb5 (Nat.le_refl _))
     obtain⟨nv,CJ⟩:∃nv,nv=sv.length:=⟨_,rfl⟩
     rw[←CJ]at C8⊢
     clear hown5 CJ
     go_wp2_with fail
     refine hK.out _ _ (⟨gq.out _ CV,OL.out⟩) (fun hS=> ?_)
     clear hK K
     try simp only[Act.put,List.setIfInBounds_toArray,List.set_cons_zero,List.set_cons_succ]
     refine gV (S':=fun w'=>((((w'.cell? ⟨p,2,none⟩=some (ptr x)∧w'.cell? ⟨x,2,none⟩=some (.slice (some ⟨rb,ro,none⟩) n rc))∧w'.cell? ⟨ab,ao+k,none⟩=some (.int .i64 z.id)∧w'.cell? ⟨rb,ro+k*3,none⟩=some (.int .i64 z.id)∧w'.cell? ⟨rb,ro+k*3+1,none⟩=some (.slice zh hl zc)∧w'.cell? ⟨rb,ro+k*3+2,none⟩=some (ptr zq))∧Below w3.heap.size w3 w'∧(convert 39 9 (.slice ha hl hc)).run Tryz.prog w'= .ok (.string (strOf z.hash)) w'∧(convert 39 9 (.slice zh hl zc)).run Tryz.prog w'= .ok (.string (strOf z.hash)) w')∧(convert 39 9 (.slice a4 n4 c4)).run Tryz.prog w'= .ok (.string (strOf sv)) w')∧(convert 39 9 (.slice a5 nv c5)).run Tryz.prog w'= .ok (.string (strOf sv)) w') (fun _ h=>h.1) _ _ _ _ ?_
     have LD:=And.intro hS (fQ (c:=c5) C8.out)
     clear hS
     have hS:=LD
     clear LD
     refine bH 44 (hS:=hS) (h:= ?_)
     refine bH 45 (hS:=hS) (h:= ?_)
     refine bH 46 (hS:=hS) (h:= ?_)
     refine bH 47 (hS:=hS) (h:= ?_)
     refine bH 48 (hS:=hS) (h:= ?_)
     refine bH 49 (hS:=hS) (h:= ?_)
     refine bH 50 (hS:=hS) (h:= ?_)
     refine bH 51 (hS:=hS) (h:= ?_)
     refine bH 52 (hS:=hS) (h:= ?_)
     refine bH 53 (hS:=hS) (h:= ?_)
     refine bH 54 (hS:=hS) (h:= ?_)
     refine bH 55 (hS:=hS) (h:= ?_)
     refine bH 56 (hS:=hS) (h:= ?_)
     refine bH 57 (hS:=hS) (h:= ?_)
     refine bH 58 (hS:=hS) (h:= ?_)
     refine bH 59 (hS:=hS) (h:= ?_)
     refine bH 60 (hS:=hS) (h:= ?_)
     refine bH 61 (hS:=hS) (h:= ?_)
     refine bH 62 (hS:=hS) (h:= ?_)
     refine bH 63 (hS:=hS) (h:= ?_)
     refine wpAnyH_done (by kernel_rfl) ?_ _
     refine NoPanic.normal ?_
     clear hS
     have lX:=Lib.hid (yt.out.trans ((HB3.out.trans (CV.mono HB3.out.size)).mono yt.out.size))
     clear hB4 CV hb4 hb5 hr4
     go_wp2_with fail
     go_roundw
     case rel=>exact⟨k+1,by go_num,by omega,lX.out⟩
     case measure=>simp[intOf];omega
  ·as_aux_lemma=>
   have hd:decide (k<n)=false:=by simpa using hlt
   have HW1:=Lib.hid (HW.out.grow HB.out)
   have U9:=Lib.hid (zU HW1.out.sn HW1.out.marks (by have:=HW1.out.zT.len;omega) 0)
   clear q0 q2 x2 x0 hlt
   obtain⟨q0,q2,x2,x0⟩:=uI.out wr HB.out
   go_wp2_with fail
   (with_reducible refine U9.out.mono ?_)
   rintro e w2 ⟨hb2,h2⟩
   rcases h2 with⟨_,rfl⟩|⟨z2,zr,h2,rfl,_,_⟩
   ·have HB2:=Lib.hid hb2
    have xB:=Lib.hid (HB.out.trans (hb2.mono HB.out.size))
    have HW2:=Lib.hid (HW1.out.grow hb2)
    obtain⟨nx,hnx⟩:∃nx,nx=A.next:=⟨_,rfl⟩
    have Va:=Lib.hid (wU (HW2.out.grow (Below.refl _ _).drew).sn (by have:=HW2.out.zT.len;omega) (fun y hy=>(HG.out.each y hy).2) nx)
    have VZ:Hid (∀u,Below w2.heap.size w2 u→u.cell? ⟨p,0,none⟩=some (ptr s)∧u.cell? ⟨p,2,none⟩=some (ptr x)∧u.cell? ⟨x,0,none⟩=some (.int .i64 nx)):=fun u hb=>by
     obtain⟨q0,q2,x2,x0⟩:=uI.out u (xB.out.trans (hb.mono xB.out.size))
     exact⟨q0,q2,by rw[hnx];exact x0⟩
    have qx:=Lib.hid hnx
    clear hb2 q0 q2 x2 x0 hnx
    obtain⟨q0,q2,x0⟩:=VZ.out w2 (Below.refl _ _)
    go_wp2_with fail
    refine wp_region_noPanic ?_
    refine wp_region_held_drew (S:=(fun w'=>w'.cell? ⟨p,0,none⟩=some (ptr s)∧w'.cell? ⟨p,2,none⟩=some (ptr x)∧w'.cell? ⟨x,0,none⟩=some (.int .i64 nx))) (by kernel_rfl) ?_ (fun hS=> ?_)
    ·exact VZ.out _ (Below.refl _ _).drew
    refine bH 0 (hS:=hS) (h:= ?_)
    refine bH 1 (hS:=hS) (h:= ?_)
    refine bH 2 (hS:=hS) (h:= ?_)
    refine bH 3 (hS:=hS) (h:= ?_)
    refine bH 4 (hS:=hS) (h:= ?_)
    refine bH 5 (hS:=hS) (h:= ?_)
    refine bH 6 (hS:=hS) (h:= ?_)
    refine bH 7 (hS:=hS) (h:= ?_)
    refine bH 8 (hS:=hS) (h:= ?_)
    refine bH 9 (hS:=hS) (h:= ?_)
    refine bH 10 (hS:=hS) (h:= ?_)
    refine rT 11 (h:=fun K hK=> ?_)
    go_simp
    (with_reducible refine Va.out.mono ?_)
    rintro e w3 ⟨hb3,h3⟩
    rcases h3 with⟨_,rfl⟩|⟨z3,ha,hc,h3,rfl,_,_⟩
    ·have HB3:=Lib.hid ((Below.refl w2.heap.size w2).drew.trans hb3)
     clear hb3 q0 q2 x0
     obtain⟨q0,q2,x0⟩:=VZ.out w3 HB3.out
     go_wp2_with fail
     refine hK.out _ _ (⟨q0,q2,x0⟩) (fun hS=> ?_)
     clear hK K
     try simp only[Act.put,List.setIfInBounds_toArray,List.set_cons_zero,List.set_cons_succ]
     refine bH 12 (hS:=hS) (h:= ?_)
     refine bH 13 (hS:=hS) (h:= ?_)
     refine bH 14 (hS:=hS) (h:= ?_)
     refine bH 15 (hS:=hS) (h:= ?_)
     refine bH 16 (hS:=hS) (h:= ?_)
     refine wpAnyH_done (by kernel_rfl) ?_ _
     refine NoPanic.normal ?_
     clear hS
     have HW3:=Lib.hid (HW2.out.grow HB3.out)
     have RN:Hid (∀u,Below w3.heap.size w3 u→(u.cell? ⟨p,0,none⟩=some (ptr s)∧u.cell? ⟨p,2,none⟩=some (ptr x))∧Below w3.heap.size w3 u):=fun u hb=>by
      obtain⟨q0,q2,x0⟩:=VZ.out u (HB3.out.trans (hb.mono HB3.out.size))
      exact⟨⟨q0,q2⟩,hb⟩
     have VG:Hid (∀u,Below w3.heap.size w3 u→Calls Tryz.prog 50 #[ptr s] u (kC u (nQ A))):=fun u hb=>G_ (HW3.out.grow hb).sn (HW3.out.grow hb).marks JE.out
     have VA:Hid (∀u,Below w3.heap.size w3 u→Calls Tryz.prog 107 #[ptr x] u (dS u (nQ A))):=fun u hb=>BA (HW3.out.grow hb).rs (HW3.out.grow hb).marks JE.out
     obtain⟨sv,hsv⟩:∃sv,sv=nQ A:=⟨_,rfl⟩
     rw[←hsv]at VG VA
     clear q0 q2 x0 hsv
     go_wp2_with fail
     refine wp_region_noPanic ?_
     refine wp_region_held_drew (S:=(fun w'=>(w'.cell? ⟨p,0,none⟩=some (ptr s)∧w'.cell? ⟨p,2,none⟩=some (ptr x))∧Below w3.heap.size w3 w')) (by kernel_rfl) ?_ (fun hS=> ?_)
     ·exact RN.out _ (Below.refl _ _).drew
     refine bH 0 (hS:=hS) (h:= ?_)
     refine bH 1 (hS:=hS) (h:= ?_)
     refine bH 2 (hS:=hS) (h:= ?_)
     refine bH 3 (hS:=hS) (h:= ?_)
     refine bH 4 (hS:=hS) (h:= ?_)
     refine bH 5 (hS:=hS) (h:= ?_)
     refine bH 6 (hS:=hS) (h:= ?_)
     refine bH 7 (hS:=hS) (h:= ?_)
     refine bH 8 (hS:=hS) (h:= ?_)
     refine bH 9 (hS:=hS) (h:= ?_)
     refine bH 10 (hS:=hS) (h:= ?_)
     refine bH 13 (hS:=hS) (h:= ?_)
     refine bH 14 (hS:=hS) (h:= ?_)
     refine bH 15 (hS:=hS) (h:= ?_)
     refine bH 16 (hS:=hS) (h:= ?_)
     refine rT 11 (h:=fun K hK=> ?_)
     go_simp
     (with_reducible refine(VG.out _ (Below.refl _ _).drew).mono ?_)
     rintro e w4 ⟨a4,n4,c4,rfl,Rw,hr4,hb4⟩
     have hB4:Below w3.heap.size w3 w4:=(Below.refl w3.heap.size w3).drew.trans hb4
     have HR4:=Lib.hid hr4
     go_wp2_with fail
     refine hK.out _ _ (RN.out _ hB4) (fun hS=> ?_)
     clear hK K
     try simp only[Act.put,List.setIfInBounds_toArray,List.set_cons_zero,List.set_cons_succ]
     refine gV (S':=fun w'=>((w'.cell? ⟨p,0,none⟩=some (ptr s)∧w'.cell? ⟨p,2,none⟩=some (ptr x))∧Below w3.heap.size w3 w')∧(convert 39 9 (.slice a4 n4 c4)).run Tryz.prog w'= .ok (.string (strOf sv)) w') (fun _ h=>h.1) _ _ _ _ ?_
     have Vb:=And.intro hS (fQ (c:=c4) HR4.out)
     clear hS
     have hS:=Vb
     clear Vb
     refine bH 12 (hS:=hS) (h:= ?_)
     refine rT 17 (h:=fun K hK=> ?_)
     go_simp
     (with_reducible refine(VA.out _ hB4).mono ?_)
     rintro e w5 ⟨a5,c5,rfl,hown5,hb5⟩
     have CV:Below w3.heap.size w3 w5:=hB4.trans (hb5.mono hB4.size)
     have C8:=Lib.hid (bR hown5)
     have OL:Hid ((convert 39 9 (.slice a4 n4 c4)).run Tryz.prog w5= .ok (.string (strOf sv)) w5):=fQ (c:=c4) (HR4.out.below hb5 (Nat.le_refl _))
     obtain⟨nv,CJ⟩:∃nv,nv=sv.length:=⟨_,rfl⟩
     rw[←CJ]at C8⊢
     clear hown5 CJ
     go_wp2_with fail
     refine hK.out _ _ (⟨RN.out _ CV,OL.out⟩) (fun hS=> ?_)
     clear hK K
     try simp only[Act.put,List.setIfInBounds_toArray,List.set_cons_zero,List.set_cons_succ]
     refine gV (S':=fun w'=>(((w'.cell? ⟨p,0,none⟩=some (ptr s)∧w'.cell? ⟨p,2,none⟩=some (ptr x))∧Below w3.heap.size w3 w')∧(convert 39 9 (.slice a4 n4 c4)).run Tryz.prog w'= .ok (.string (strOf sv)) w')∧(convert 39 9 (.slice a5 nv c5)).run Tryz.prog w'= .ok (.string (strOf sv)) w') (fun _ h=>h.1) _ _ _ _ ?_
     have Vd:=And.intro hS (fQ (c:=c5) C8.out)
     clear hS
     have hS:=Vd
     clear Vd
     refine bH 18 (hS:=hS) (h:= ?_)
     refine bH 19 (hS:=hS) (h:= ?_)
     refine bH 20 (hS:=hS) (h:= ?_)
     refine bH 21 (hS:=hS) (h:= ?_)
     refine wpAnyH_done (by kernel_rfl) ?_ _
     refine NoPanic.normal ?_
     clear hS
     have lX:=Lib.hid (xB.out.trans ((HB3.out.trans (CV.mono HB3.out.size)).mono xB.out.size))
     clear hB4 CV hb4 hb5 hr4
     go_wp2_with fail
     go_ret
     exact⟨rfl,lX.out⟩
    ·exact absurd (HG.out.U7.symm.trans (qx.out▸h3)) (by simp)
   ·exact absurd (HG.out.U6.symm.trans h2) (by simp)
end
end Go.Proofs.YtohpcppeajijnaaGreat
