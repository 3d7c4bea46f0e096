/- package snap: Load, of bytes that Save wrote. package state: Snaps.Copy, Settled. package state: Load, of bytes that Save wrote. What chapter 7's reference says: Good, Within. permafrostbook.Same at texts. -/
import Derived.Test.YtmabllemjkcobaaGreatDoorM49
import Derived.Test.YtmabllemjkcobaaGreatDoorM39
import Derived.Test.YtmabllemjkcobaaGreatDoorM32
import Derived.Test.YtmabllemjkcobaaGreatDoorM28
import Derived.Lib.SliceRun
import Derived.Test.YtmabllemjkcobaaGreatDoorM31
import Derived.Test.YtmabllemjkcobaaGreatDoorM21
import Derived.BigQuiet
import Derived.Deep.QuietTactic
namespace Go.Proofs.YtmabllemjkcobaaGreatDoor
open Go.ChangeShapes Go.WideShapes Go.ChangeAt Go.RowKit
set_option linter.unusedVariables false
set_option linter.unusedSimpArgs false
def Yh (W:World) (o:Mark) (i j:Nat) (w:World) (s xr:Nat) (S:nQ) (bv' iv:Value) (wr:World):Prop:=
 ∃(k:Nat) (o':Mark) (bh:Int),iv= .int .i64 k∧k≤S.l.length∧bv'= .int .i64 bh∧0≤bh∧(∀x,S.l[k]? =some x→bh<x.id)∧Step o (fun m=>m=i∨m=j) w o' wr∧dR o' i wr s ⟨S.l.take k,S.next,S.last⟩∧ze o' j wr xr ((S.l.drop k).flatMap jP,0)
theorem OV {w:World} {e:TypeId} {size:Nat} {v:Value} {n:Nat} {xs:List Value} (h:w.ownsRow 0 e size v n xs) (hn:0<n):∃b c,v= .slice (some ⟨b,0,none⟩) n c∧n≤c∧c≤maxLen∧∀i u,xs[i]? =some u→w.cell? ⟨b,i,none⟩=some u:=by
 obtain⟨h1,h2⟩:=h
 rcases h2 with⟨h2,rfl⟩|⟨g,cap,cur,h2,hg,hcur,h3,h4,h5,h6⟩
 ·omega
 ·refine⟨g,cap,h2,h3,h4,fun i u hu=> ?_⟩
  simp only[World.cell?,hcur]
  rw[←h6,List.getElem?_take]at hu
  split at hu
  ·simpa using hu
  ·cases hu
section
variable {W w:World} {o:Mark} {i j s p:Nat} {S:nQ}
set_option maxRecDepth 100000 in
set_option maxHeartbeats 32000000 in
theorem GH {Q:Nat→Prop} (hM:Marks W o w) (hi:i≠0) (hj:j≠0) (hij:i≠j) (a:Option Addr) (n c:Nat) (hG:jE S) (hv:D_ S) (H8:∀x∈S.l,fC x.t) (hr:aj Q w a n ((iK S).map bv)) (hsl:(iK S).length≤90000000):
  Calls Tryz.prog 93 #[.slice a n c] w fun e w'=>∃s o',e= .returned (.tuple #[ptr s, .int .i64 0])∧Step o (fun m=>m=i∨m=j) w o' w'∧dR o' i w' s S:=by
 have hln:(iK S).length=n:=by simpa using hr.length
 have e8:(256:Int)^8=18446744073709551616:=rfl
 have e1:(256:Int)^1=256:=rfl
 have g1:=hG.next
 have g2:=hv.next
 have g3:=hv.few
 have g4:=hv.last
 have n1:bg (iK S,0) 8=(S.next,(nY S.last++(fF S.l.length 1++S.l.flatMap jP),0)):=by
  unfold iK
  rw[List.append_assoc,List.append_assoc]
  exact fJ 8 _ _ (by omega) (by omega)
 have n2:aI (nY S.last++(fF (S.l.length:Int) 1++S.l.flatMap jP),0)=(S.last,(fF (S.l.length:Int) 1++S.l.flatMap jP,0)):=ni _ _ (by omega)
 have n3:bg (fF (S.l.length:Int) 1++S.l.flatMap jP,0) 1=((S.l.length:Int),(S.l.flatMap jP,0)):=fJ 1 _ _ (by omega) (by omega)
 have hfl:(S.l.flatMap jP).length≤90000000:=by
  unfold iK at hsl
  rw[List.length_append]at hsl
  omega
 have rM:=Lib.hid (OT hM j a n c (iK S) (by omega) hr)
 have HM:=Lib.hid hM
 have vS:=Lib.hid n1
 have Cm:=Lib.hid n2
 have Ru:=Lib.hid n3
 have HG:=Lib.hid hG
 have HV:=Lib.hid hv
 have fu:=Lib.hid H8
 have rT:=Lib.hid hfl
 have hj0:¬(fun k=>k=j) 0:=fun e=>hj e.symm
 have hji:¬(fun k=>k=j) i:=fun e=>hij e
 have BN:=Lib.hid hj0
 have Ye:=Lib.hid hji
 obtain⟨nx,u_⟩:∃nx,nx=S.next:=⟨_,rfl⟩
 rw[←u_]at vS g1 g2
 have Rv:=Lib.hid u_
 obtain⟨N,hNe⟩:∃N,N=S.l.length:=⟨_,rfl⟩
 rw[←hNe]at vS Cm Ru g3
 have Gu:=Lib.hid hNe
 obtain⟨L,Qw⟩:∃L,L=S.last.length:=⟨_,rfl⟩
 rw[←Qw]at g4
 have hcase:((nx==1)=true∧L=0)∨((nx==1)=false∧L=32):=by
  by_cases h1:nx=1
  ·left
   exact⟨by simpa using h1,by rw[Qw,hG.last.1 (by rw[←u_];exact h1)];rfl⟩
  ·right
   exact⟨by simpa using h1,by rw[Qw];exact hG.last.2 (by rw[←u_];exact h1)⟩
 have rU:=Lib.hid Qw
 have z1:IntKind.i64.wrap nx=nx:=IntWalk.i64_in _ (by omega)
 have z2:decide (nx<1)=false:=decide_eq_false (by omega)
 have z3:decide (1099511627776<nx)=false:=decide_eq_false (by omega)
 have z4:decide ((8:Int)<(N:Int))=false:=decide_eq_false (by omega)
 clear hM hG hv H8 hr n1 n2 n3 hfl hj0 hji u_ hNe Qw hln hsl
 go_enter Tryz.func93,Tryz.ntmps93
 go_wp2_with fail
 (with_reducible refine rM.out.mono ?_)
 rintro e w1 ⟨xr,o1,rfl,kP,hs1⟩
 have jB:=Lib.hid (HM.out.step BN.out hs1)
 have l8:=Lib.hid hs1
 have AA:=Lib.hid (uq kP jB.out vS.out)
 clear kP hs1 rM
 go_wp2_with fail
 (with_reducible refine AA.out.mono ?_)
 rintro e w2 ⟨rfl,hR2,hs2⟩
 have vO:=Lib.hid (jB.out.step BN.out hs2)
 have Ep:=Lib.hid (l8.out.trans hs2)
 have qA:=Lib.hid (Eo hR2 vO.out Cm.out)
 clear hR2 hs2 AA jB l8
 go_wp2_with fail
 (with_reducible refine qA.out.mono ?_)
 rintro e w3 ⟨a3,c3,rfl,hc3,hr3,EH,hs3⟩
 have xO:=Lib.hid (vO.out.step BN.out hs3)
 have Er:=Lib.hid (Ep.out.trans hs3)
 have Es:Hid (aj (Free o1 w3) w3 a3 S.last.length (S.last.map bv)):=hr3
 have SX:=Lib.hid hc3
 have J2:=Lib.hid (Rt EH xO.out Ru.out)
 rw[←rU.out]
 clear hc3 hr3 EH hs3 qA vO Ep
 go_wp2_with fail
 (with_reducible refine J2.out.mono ?_)
 rintro e w4 ⟨rfl,zq,hs4⟩
 have lT:=Lib.hid (xO.out.step BN.out hs4)
 have tX:=Lib.hid (Er.out.trans hs4)
 have wD:=Lib.hid (Es.out.free BN.out hs4)
 have HR4:=Lib.hid zq
 clear zq hs4 J2 xO Er Es
 obtain⟨w5,Ph⟩:∃w5,w5=w4.alloc (.cells #[.slice none 0 0, .int .i64 nx, .slice a3 L c3] 101):=⟨_,rfl⟩
 have hb5:Below w4.heap.size w4 w5:=by rw[Ph];exact wall w4 _
 have Ua:w5.heap.size=w4.heap.size+1:=by rw[Ph];simp
 have hsb:w5.heap[w4.heap.size]? =some (.cells #[.slice none 0 0, .int .i64 nx, .slice a3 L c3] 101 (0,0)):=by rw[Ph];exact(MapKept.heap_alloc w4 _).1
 obtain⟨o5,hs5,m1,m2⟩:=fZ lT.out i (fun b=>b=w4.heap.size) (w':=w5) (fun b hb=>by subst hb;exact⟨Nat.le_refl _,by omega⟩) hb5
 have hi0:¬(fun k=>k=i) 0:=fun e=>hi e.symm
 have Gz:Hid (Step o (fun m=>m=i∨m=j) w o5 w5):=(tX.out.mono fun k hk=> .inr hk).trans (hs5.mono fun k hk=> .inl hk)
 have oO:=Lib.hid (HR4.out.step hi0 (fun e=>hij e.symm) hs5)
 have HSN5:Hid (dR o5 i w5 w4.heap.size ⟨S.l.take 0,S.next,S.last⟩):=by
  refine⟨.slice none 0 0,a3,c3,[],?_,m1 _ rfl,by omega,⟨rfl, .inl ⟨rfl,rfl⟩⟩,fun b hb=>by simp[Value.ownBlock]at hb,rfl,SX.out.1,?_⟩
  ·show _=some (Obj.cells #[.slice none 0 0, .int .i64 S.next, .slice a3 S.last.length c3] _ _)
   rw[←Rv.out,←rU.out]
   exact hsb
  ·exact wD.out.free hi0 hs5
 have O7:=Lib.hid Ph
 clear Ph hb5 Ua hsb hs5 m1 m2 hi0 lT tX wD HR4 SX
 have hcase2:((nx==1)=true∧((L:Int)==0)=true∧((L:Int) !=0)=false)∨((nx==1)=false∧((L:Int)==32)=true∧((L:Int) !=32)=false):=by
  rcases hcase with⟨q1,q2⟩|⟨q1,q2⟩
  ·exact .inl ⟨q1,by rw[q2];rfl,by rw[q2];rfl⟩
  ·exact .inr ⟨q1,by rw[q2];rfl,by rw[q2];rfl⟩
 clear hcase
 rcases hcase2 with⟨q1,q2,q3⟩|⟨q1,q2,q3⟩
 all_goals
  go_wp2_with fail
  rw[←O7.out]
  clear O7
  go_loopw [10,43] (fun bv' iv wr=>Yh W o i j w w4.heap.size xr S bv' iv wr) (fun _ iv _=>N-(intOf iv).toNat)
  case atStart=>
   refine⟨0,o5,0,rfl,Nat.zero_le _,rfl,Int.le_refl _,fun x hx=> ?_,Gz.out,HSN5.out,oO.out⟩
   have:=(HG.out.each x (List.mem_of_getElem? hx)).1.1
   omega
  case round=>
   obtain⟨k,o6,bh,rfl,hk,rfl,hb0,hbx,hst,hsn,hrd⟩:=hrel
   have HST:=Lib.hid hst
   have Pg:=Lib.hid hsn
   have JW:=Lib.hid hrd
   have hI0:¬(fun m=>m=i∨m=j) 0:=fun e=>by rcases e with e|e<;>omega
   have UW:=Lib.hid (HM.out.step hI0 hst)
   have HI0:=Lib.hid hI0
   have HBX:=Lib.hid hbx
   have hnn:=Gu.out
   clear hst hsn hrd hI0 hbx
   by_cases hlt:k<N
   ·have hx:S.l[k]? =some (S.l[k]'(by omega)):=List.getElem?_eq_getElem (by omega)
    obtain⟨x,hxe⟩:∃x,x=S.l[k]'(by omega):=⟨_,rfl⟩
    rw[←hxe]at hx
    have hxm:=List.mem_of_getElem? hx
    have hdr:(S.l.drop k).flatMap jP=jP x++(S.l.drop (k+1)).flatMap jP:=by
     rw[List.drop_eq_getElem_cons (by omega),←hxe,List.flatMap_cons]
    have htk:S.l.take (k+1)=S.l.take k++[x]:=by rw[List.take_succ_eq_append_getElem (by omega),←hxe]
    have hrl:((S.l.drop (k+1)).flatMap jP).length≤100000000:=by
     have h9:=rT.out
     have h8:(S.l.take (k+1)).flatMap jP++(S.l.drop (k+1)).flatMap jP=S.l.flatMap jP:=by rw[←List.flatMap_append,List.take_append_drop]
     rw[←h8,List.length_append]at h9
     omega
    have hge:=HG.out.each x hxm
    have mg:=Lib.hid (Gy Pg.out UW.out hi hj hij x ((S.l.drop (k+1)).flatMap jP) xr (by rw[←hdr];exact JW.out) (fu.out x hxm) hge.2.2 hge.1 (by show S.next≤_;rw[←Rv.out];omega) bh ⟨hb0,HBX.out x hx⟩ hge.2.1 (by show(S.l.take k).length<8;rw[List.length_take];omega) hrl)
    have HX:=Lib.hid hx
    have O_:=Lib.hid htk
    have hidw:x.id≤1000000000:=((HV.out.each x hxm).1.2)
    have Zn:=hge.1.1
    have HUP:Hid (∀y,S.l[k+1]? =some y→x.id<y.id):=fun y hy=>by
     obtain⟨hk1,e1⟩:=List.getElem?_eq_some_iff.1 hy
     obtain⟨hk0,e0⟩:=List.getElem?_eq_some_iff.1 hx
     have:=List.pairwise_iff_getElem.1 HG.out.up k (k+1) hk0 hk1 (by omega)
     rw[e0,e1]at this
     exact this
    clear hx hxe hxm hdr htk hrl hge hb0 hnn
    go_wp2_with fail
    (with_reducible refine mg.out.mono ?_)
    rintro e w7 ⟨rfl,o7,U3,U4,Yi⟩
    have KT:=Lib.hid (HST.out.trans U3)
    have Ae:=Lib.hid (UW.out.step HI0.out U3)
    have HSN7:=Lib.hid U4
    have HRD7:=Lib.hid Yi
    obtain⟨v,la,lc,vals,h1,h2,h3,h4,h5,h6,h7,h8⟩:=U4.at_
    dsimp only at h4 h6
    rw[←O_.out]at h4 h6
    have hlk:(S.l.take (k+1)).length=k+1:=by
     have:=Gu.out
     rw[List.length_take];omega
    rw[hlk]at h4
    obtain⟨b,c9,rfl,KY,hcm,hcell⟩:=OV h4 (by omega)
    obtain⟨_,_,_,hv0,-⟩:=h6.at_ (k:=k) (x:=x) (by rw[List.getElem?_take,if_pos (by omega)];exact HX.out)
    have qs:w7.cell? ⟨w4.heap.size,0,none⟩=some (.slice (some ⟨b,0,none⟩) (k+1) c9):=by simp[World.cell?,h1]
    have qx:w7.cell? ⟨b,k*3,none⟩=some (.int .i64 x.id):=hcell _ _ hv0
    have zk:IntKind.i64.wrap ((((k+1:Nat)):Int)-1)=(k:Int):=by rw[IntWalk.i64_in _ (by omega)];omega
    have zk2:IntKind.i64.wrap ((k:Int)+1-1)=(k:Int):=by rw[IntWalk.i64_in _ (by omega)];omega
    have zk3:(0:Int)≤(k:Int):=by omega
    have zk4:(k:Int)<((k+1:Nat):Int):=by omega
    have zk5:(k:Int)<(k:Int)+1:=by omega
    clear h1 h2 h3 h4 h5 h6 h7 h8 KY hcm hcell hv0 hlk U3 U4 Yi mg Pg JW HST UW
    go_wp2_with fail
    go_quiet (fail)
    go_wp2_with fail
    have hbq:Below w7.heap.size w7 (w7.drewN nq):=⟨rfl,rfl,rfl,Nat.le_refl _,fun _ _=>rfl⟩
    go_roundw
    case rel=>exact⟨k+1,o7,x.id,by go_num,by have:=Gu.out;omega,rfl,by omega,HUP.out,KT.out.trans (Step.grow Ae.out hbq),by rw[O_.out];exact HSN7.out.grow Ae.out hbq,HRD7.out.grow Ae.out hbq⟩
    case measure=>simp[intOf];omega
   ·obtain rfl:k=N:=by omega
    have hall:S.l.take k=S.l:=by rw[hnn];exact List.take_length
    have hdn:(S.l.drop k).flatMap jP=[]:=by rw[hnn,List.drop_length];rfl
    have HE:=Lib.hid (U2 JW.out)
    rw[hdn]at HE
    have O9:nG ([],0)=0:=rfl
    rw[O9]at HE
    have Nr:Hid (dR o6 i wr w4.heap.size S):=by
     have h9:=Pg.out
     rw[hall]at h9
     exact h9
    clear hall hdn O9 Pg JW hnn
    go_wp2_with fail
    (with_reducible refine HE.out.mono ?_)
    rintro e _ ⟨rfl,rfl⟩
    go_wp2_with fail
    go_ret2
    exact⟨_,o6,rfl,HST.out,Nr.out⟩
end
set_option maxHeartbeats 1000000 in
theorem GI {B n:Nat} {v:Value} {vals:List Value} {w:World} (hv:w.ownsRow B 105 3 v n vals) (h1:∀u∈vals,u.oneCell'=true) (hn:n≤1000):
  Calls Tryz.prog 129 #[v] w fun e w'=>∃v',e= .returned v'∧w'.ownsRow w.heap.size 105 3 v' n vals∧Below w.heap.size w w':=by
 obtain⟨i0,hi,hz0,hz1,hz2⟩:=info_parts Bq
 obtain⟨a,c,rfl,hcap⟩:=bF hv
 obtain⟨-,-,hr⟩:=aj.nP hv (by unfold maxLen;omega)
 have heq:=fun w=>Lib.run_eql_slice_nil (P:=Tryz.prog) w 99 105 a n c 0 0 Tryz.underlying99
 rcases a with _|ad
 ·have h0:n=0:=by
   rcases Nat.eq_zero_or_pos n with h0|h0
   ·exact h0
   ·obtain⟨_,_,h,_⟩:=hr.at_ (Nat.mul_pos h0 (by omega:0<3))
    cases h
  subst h0
  obtain rfl:vals=[]:=List.eq_nil_of_length_eq_zero (by have:=hr.length;omega)
  clear hv hr h1
  go_enter Tryz.func129,Tryz.ntmps129
  go_wp2_with fail
  go_ret
  exact⟨_,rfl,⟨rfl, .inl ⟨rfl,rfl⟩⟩,Below.refl _ _⟩
 ·have hb0:Below w.heap.size w (w.alloc (.cells #[] 105)):=wall w _
  have HR:=Lib.hid (hr.move hb0.size fun b hb hbw=>⟨hb.2,hb0.block b hb.2⟩)
  have HO:=Lib.hid (Dk (k:=3) (MapKept.heap_alloc w (.cells #[] 105)).1 (Nat.le_refl _))
  have H1:=Lib.hid h1
  have HB0:=Lib.hid hb0
  clear hv hr h1 hb0
  go_enter Tryz.func129,Tryz.ntmps129
  go_wp2_with (at_builtin;refine eD (by rfl) _ _ 99 (by rfl) w.heap.size 105 i0 _ 3 40 Tryz.underlying99 hi hz0 hz1 hz2 rfl (by omega) _ _ _ (by rfl) HO.out (some ad) n c vals (by rfl) HR.out H1.out (by unfold maxLen;omega) (by omega) (by have:=HB0.out.size;omega) ?_;intro A' c' w2 hown2 hb2)
  go_ret
  rw[Nat.zero_add]at hown2
  exact⟨_,by simp,hown2,HB0.out.trans hb2⟩
section
variable {W w:World} {o:Mark} {i j k p s:Nat} {S:nQ}
set_option maxRecDepth 100000 in
set_option maxHeartbeats 4000000 in
theorem KU (hS:dR o i w s S) (hM:Marks W o w) (wJ:S.l.length≤8) (hla:S.last.length≤64) (j:Nat) (hj:j≠0):
  Calls Tryz.prog 62 #[ptr s] w fun e w'=>∃q o',e= .returned (ptr q)∧Step o (fun k=>k=j) w o' w'∧dR o' j w' q S∧Below w.heap.size w w':=by
 obtain⟨v,la,lc,vals,h1,h2,h3,h4,h5,h6,h7,h8⟩:=hS.at_
 have HM:=Lib.hid hM
 have HO:=Lib.hid h6
 have Z8:=Lib.hid h8
 obtain⟨n,hn⟩:∃n,n=S.l.length:=⟨_,rfl⟩
 obtain⟨m,hm⟩:∃m,m=S.last.length:=⟨_,rfl⟩
 obtain⟨nx,hnx⟩:∃nx,nx=S.next:=⟨_,rfl⟩
 rw[←hn]at h4 wJ
 rw[←hm,←hnx]at h1
 rw[←hm]at h7 hla
 have HN:=Lib.hid hn
 have vO:=Lib.hid hm
 have Qx:=Lib.hid hnx
 have Yj:=Lib.hid h7
 have HK:Hid (∀w',Below w.heap.size w w'→w'.cell? ⟨s,0,none⟩=some v∧w'.cell? ⟨s,1,none⟩=some (.int .i64 nx)∧w'.cell? ⟨s,2,none⟩=some (.slice la m lc)):=fun w' hb=>by
  have hs:=(hb.block s h3).trans h1
  refine⟨?_,?_,?_⟩<;>simp[World.cell?,hs]
 have Ce:=fun(w':World) (hb:Below w.heap.size w w')=>GI (cK h4 fun b _ hbw=>hb.block b hbw) h6.one (by omega)
 have HC:=Lib.hid Ce
 clear hS hM h1 h2 h3 h4 h5 h6 h7 h8 hn hm hnx Ce
 go_enter Tryz.func62,Tryz.ntmps62
 go_wp2_with fail
 refine wp_region_noPanic ?_
 refine wp_region_held_drew (S:=(fun w'=>w'.cell? ⟨s,0,none⟩=some v∧w'.cell? ⟨s,1,none⟩=some (.int .i64 nx)∧w'.cell? ⟨s,2,none⟩=some (.slice la m lc))) (by kernel_rfl) ?_ (fun hS=> ?_)
 ·exact HK.out _ (Below.refl _ _).drew
 refine dz 0 (hS:=hS) (h:= ?_)
 refine dz 1 (hS:=hS) (h:= ?_)
 refine dz 2 (hS:=hS) (h:= ?_)
 refine dz 3 (hS:=hS) (h:= ?_)
 refine dz 5 (hS:=hS) (h:= ?_)
 refine dz 6 (hS:=hS) (h:= ?_)
 refine dz 7 (hS:=hS) (h:= ?_)
 refine dz 8 (hS:=hS) (h:= ?_)
 refine dz 9 (hS:=hS) (h:= ?_)
 refine dz 10 (hS:=hS) (h:= ?_)
 refine dz 11 (hS:=hS) (h:= ?_)
 refine dz 12 (hS:=hS) (h:= ?_)
 refine uW 4 (h:=fun K hK=> ?_)
 go_simp
 (with_reducible refine(HC.out w.drew (Below.refl _ _).drew).mono ?_)
 rintro e w1 ⟨v',rfl,hv',hb1⟩
 have Yk:Below w.heap.size w w1:=(Below.refl _ _).drew.trans hb1
 have HB1:=Lib.hid Yk
 obtain⟨a',c',rfl,hac'⟩:=bF hv'
 have HV:=Lib.hid hv'
 clear hv' hb1 Yk hac'
 go_wp2_with fail
 refine hK.out _ _ (HK.out _ HB1.out) (fun hS=> ?_)
 clear hK K
 try simp only[Act.put,List.setIfInBounds_toArray,List.set_cons_zero,List.set_cons_succ]
 refine dz 13 (hS:=hS) (h:= ?_)
 refine uW 14 (h:=fun K hK=> ?_)
 go_simp
 have Gd:=wall w1 (.cells #[.slice a' n c', .int .i64 nx, .slice la m lc] 101)
 have HB12:=Lib.hid Gd
 have HB2:=Lib.hid (HB1.out.trans (Gd.mono HB1.out.size))
 clear Gd
 refine hK.out _ _ (HK.out _ HB2.out) (fun hS=> ?_)
 clear hK K
 try simp only[Act.put,List.setIfInBounds_toArray,List.set_cons_zero,List.set_cons_succ]
 refine dz 15 (hS:=hS) (h:= ?_)
 refine wpAnyH_done (by kernel_rfl) ?_ _
 refine NoPanic.normal ?_
 go_wp2_with fail
 go_ret
 have Yl:w1.heap.size<(w1.alloc (.cells #[.slice a' n c', .int .i64 nx, .slice la m lc] 101)).heap.size:=by simp
 have hs01:=HB1.out.size
 obtain⟨o',hs,g1,g2⟩:=fZ HM.out j (fun b=>b=w1.heap.size∨(Value.slice a' n c').ownBlock=some b) (w':=w1.alloc (.cells #[.slice a' n c', .int .i64 nx, .slice la m lc] 101)) (fun b hb=>by
  rcases hb with rfl|hb
  ·exact⟨by omega,Yl⟩
  ·have:=dG HV.out b hb
   have:=wX HV.out b hb
   exact⟨by simpa using dG HV.out b hb,by omega⟩) HB2.out
 refine⟨w1.heap.size,o',rfl,hs,⟨.slice a' n c',la,lc,vals,?_,g1 _ (.inl rfl),Yl,?_,fun b hb=>⟨g1 b (.inr hb),?_,?_⟩,?_,?_,?_⟩,HB2.out⟩
 ·rw[←Qx.out,←vO.out];exact(MapKept.heap_alloc w1 _).1
 ·rw[←HN.out]
  exact cK (x9 HV.out (Nat.zero_le _)) fun b _ hbw=>HB12.out.block b hbw
 ·have:=wX HV.out b hb;omega
 ·have:=wX HV.out b hb;omega
 ·exact HO.out.step (fun e=>hj e.symm) hs
 ·rw[←vO.out];exact Yj.out
 ·exact Z8.out.move HB2.out.size fun b hb hbw=>⟨⟨(hs.old b hb.2).trans hb.1,Nat.lt_of_lt_of_le hb.2 HB2.out.size⟩,HB2.out.block b hb.2⟩
def iF (M:eF):eF:=⟨bS M.t,M.s,M.now,fun _=>none⟩
set_option maxRecDepth 100000 in
set_option maxHeartbeats 4000000 in
theorem BP {M:eF} (hS:aU o i j k w p M) (hM:Marks W o w) (hT:dI M.t) (wJ:M.s.l.length≤8) (hla:M.s.last.length≤64) {i' j' k' l':Nat} (hk:Mk i' j' k' l') (hni:i'≠i∧j'≠i) (hf:∀b,o b≠j'):
  Calls Tryz.prog 30 #[ptr p] w fun e w'=>∃q o',e= .returned (ptr q)∧Step o (fun m=>m=i'∨m=j'∨m=k') w o' w'∧aU o' i' j' k' w' q (iF M)∧Below w.heap.size w w':=by
 obtain⟨n1,n2,n3,n4,n5,n6,n7,n8,n9,n10⟩:=hk.ne
 obtain⟨t,s,v,h1,h2,h3,h4⟩:=hS.at_
 have hlow:=hS.low
 obtain⟨now,Ea⟩:∃now,now=M.now:=⟨_,rfl⟩
 rw[←Ea]at h1
 have HNOW:=Lib.hid Ea
 have HK:Hid (∀w',Below w.heap.size w w'→w'.cell? ⟨p,0,none⟩=some (ptr t)∧w'.cell? ⟨p,1,none⟩=some (ptr s)∧w'.cell? ⟨p,2,none⟩=some (.int .u64 now)):=fun w' hb=>by
  obtain⟨z0,z1,z2,-⟩:=fH ((hb.block p hlow).trans h1)
  exact⟨z0,z1,z2⟩
 have hbd:Below w.heap.size w w.drew:=(Below.refl _ _).drew
 have Sg:=Lib.hid (hM.grow hbd)
 have gN:=Lib.hid (h2.grow hM hbd)
 have HC:=Lib.hid (rV (h3.grow hbd) Sg.out hT j' n2 hf)
 have HSG:=Lib.hid (Step.grow (I:=fun m=>m=i'∨m=j'∨m=k') hM hbd)
 have FW:=Lib.hid hbd
 clear hS hM hT h1 h2 h3 h4 hf hk Ea hbd
 go_enter Tryz.func30,Tryz.ntmps30
 go_wp2_with fail
 refine wp_region_noPanic ?_
 refine wp_region_held_drew (S:=(fun w'=>w'.cell? ⟨p,0,none⟩=some (ptr t)∧w'.cell? ⟨p,1,none⟩=some (ptr s)∧w'.cell? ⟨p,2,none⟩=some (.int .u64 now))) (by kernel_rfl) ?_ (fun hS=> ?_)
 ·exact HK.out _ (Below.refl _ _).drew
 refine dz 0 (hS:=hS) (h:= ?_)
 refine dz 1 (hS:=hS) (h:= ?_)
 refine dz 2 (hS:=hS) (h:= ?_)
 refine dz 3 (hS:=hS) (h:= ?_)
 refine dz 5 (hS:=hS) (h:= ?_)
 refine dz 6 (hS:=hS) (h:= ?_)
 refine dz 7 (hS:=hS) (h:= ?_)
 refine dz 8 (hS:=hS) (h:= ?_)
 refine dz 10 (hS:=hS) (h:= ?_)
 refine dz 11 (hS:=hS) (h:= ?_)
 refine dz 12 (hS:=hS) (h:= ?_)
 refine dz 13 (hS:=hS) (h:= ?_)
 refine uW 4 (h:=fun K hK=> ?_)
 go_simp
 (with_reducible refine HC.out.mono ?_)
 rintro e w1 ⟨q,o1,rfl,hs1,hT1,hb1⟩
 have hM1:=Sg.out.step (fun e=>n2 e.symm) hs1
 have hS1:=gN.out.step (fun e=>n2 e.symm) (fun e=>hni.2 e.symm) hs1
 have RJ:=Lib.hid (KU hS1 hM1 wJ hla i' n1)
 have jB:=Lib.hid hM1
 have HT1:=Lib.hid hT1
 have mU:=Lib.hid hs1
 have HB1:=Lib.hid (FW.out.trans hb1)
 clear hM1 hS1 hT1 hs1 hb1 gN HC
 go_wp2_with fail
 refine hK.out _ _ (HK.out _ HB1.out) (fun hS=> ?_)
 clear hK K
 try simp only[Act.put,List.setIfInBounds_toArray,List.set_cons_zero,List.set_cons_succ]
 refine uW 9 (h:=fun K hK=> ?_)
 go_simp
 (with_reducible refine RJ.out.mono ?_)
 rintro e w2 ⟨s2,o2,rfl,hs2,hS2,hb2⟩
 have vO:=Lib.hid (jB.out.step (fun e=>n1 e.symm) hs2)
 have HT2:=Lib.hid (HT1.out.step (fun e=>n1 e.symm) (fun e=>n5 e.symm) hs2)
 have HS2:=Lib.hid hs2
 have Pg:=Lib.hid hS2
 have HB2:=Lib.hid (HB1.out.trans (hb2.mono HB1.out.size))
 clear hs2 hS2 hb2 RJ
 go_wp2_with fail
 refine hK.out _ _ (HK.out _ HB2.out) (fun hS=> ?_)
 clear hK K
 try simp only[Act.put,List.setIfInBounds_toArray,List.set_cons_zero,List.set_cons_succ]
 refine dz 14 (hS:=hS) (h:= ?_)
 refine uW 15 (h:=fun K hK=> ?_)
 go_simp
 have hb3:Below w2.heap.size w2 (w2.alloc (.cells (wU q s2 now fun _=> .pointer none) 66)):=wall w2 _
 have HB3:=Lib.hid hb3
 have iq:=Lib.hid (HB2.out.trans (hb3.mono HB2.out.size))
 clear hb3
 refine hK.out _ _ (HK.out _ iq.out) (fun hS=> ?_)
 clear hK K
 try simp only[Act.put,List.setIfInBounds_toArray,List.set_cons_zero,List.set_cons_succ]
 refine dz 16 (hS:=hS) (h:= ?_)
 refine wpAnyH_done (by kernel_rfl) ?_ _
 refine NoPanic.normal ?_
 go_wp2_with fail
 go_ret
 obtain⟨o3,hs3,g1,g2⟩:=fZ vO.out k' (fun b=>b=w2.heap.size) (w':=w2.alloc (.cells (wU q s2 now fun _=> .pointer none) 66)) (fun b hb=>by subst hb;exact⟨Nat.le_refl _,by simp⟩) HB3.out
 have h0k:¬(fun m=>m=k') 0:=fun e=>n3 e.symm
 have hst:Step o (fun m=>m=i'∨m=j'∨m=k') w o3 _:=((HSG.out.trans (mU.out.mono fun m hm=> .inr (.inl hm))).trans (HS2.out.mono fun m hm=> .inl hm)).trans (hs3.mono fun m hm=> .inr (.inr hm))
 exact⟨w2.heap.size,o3,rfl,hst,⟨⟨q,s2,fun _=> .pointer none,by rw[show(iF M).now=now from HNOW.out.symm];exact(MapKept.heap_alloc w2 _).1,Pg.out.step h0k n6 hs3,HT2.out.step h0k n8 hs3,fun n hn=>rfl⟩,g1 _ rfl,by simp⟩,iq.out⟩
theorem miss {I:Nat→Prop} {w w':World} {o o':Mark} {k:Nat} (h:∀b,o b≠k) (hk:k≠0) (hI:¬I k) (hs:Step o I w o' w'):∀b,o' b≠k:=by
 intro b e
 rcases Nat.lt_or_ge b w.heap.size with hb|hb
 ·exact h b ((hs.old b hb).symm.trans e)
 ·have:=(hs.new b hb (by rw[e];exact hk)).1
  rw[e]at this
  exact hI this
theorem eU.settled {c:Int} {M:eF} (h:eU c M):eU c (iF M):=⟨h.t.bS,h.s,h.next,h.now,fun n f hf=>by cases hf⟩
theorem GJ {c:Int} {M:eF} (h:uy W o i w p c M) (hi:0<i) (i':Nat) (hd:i+4<i') (hf:∀b,o b≠i'+1):
  Calls Tryz.prog 30 #[ptr p] w fun e w'=>∃q o',e= .returned (ptr q)∧Step o (Five i') w o' w'∧uy W o' i' w' q c (iF M):=by
 refine(BP h.st h.marks h.ok.t.1 h.ok.s.few h.ok.s.last (mk5 (i:=i') (by omega)).mm (by omega) hf).mono ?_
 rintro e w' ⟨q,o',rfl,hs,hS,hb⟩
 have hs5:Step o (Five i') w o' w':=hs.mono fun m hm=>nT (by omega)
 exact⟨q,o',rfl,hs5,⟨hS,h.marks.step (fun e=>by have:=e.1;omega) hs5,h.ok.settled⟩⟩
end
theorem dR.step1 {w w':World} {o o':Mark} {m j s:Nat} {S:nQ} (h:dR o j w s S) (hm:0<m) (hj:j≠m) (hs:Step o (fun k=>k=m) w o' w'):dR o' j w' s S:=h.step (I:=fun k=>k=m) (fun e=>by have e':0=m:=e;omega) (fun e=>hj e) hs
theorem ze.step1 {w w':World} {o o':Mark} {m j x:Nat} {s:Rd} (h:ze o j w x s) (hm:0<m) (hj:j≠m) (hs:Step o (fun k=>k=m) w o' w'):ze o' j w' x s:=h.step (I:=fun k=>k=m) (fun e=>by have e':0=m:=e;omega) (fun e=>hj e) hs
section
variable {W w:World} {o:Mark} {p:Nat} {T:aK}
set_option maxRecDepth 100000 in
set_option maxHeartbeats 32000000 in
theorem Rx {Q:Nat→Prop} {c:Int} {M:eF} (hM:Marks W o w) (i:Nat) (hi:0<i) (hSt:eU c M) (hc:c≤1000000000) (hG:jE M.s) (hid:kL M.s) (hsl:(iK M.s).length≤60000000) (a:Option Addr) (n cp:Nat) (hr:aj Q w a n ((iD M).map bv)):
  Calls Tryz.prog 29 #[.slice a n cp] w fun e w'=>∃q o',e= .returned (.tuple #[ptr q, .int .i64 0])∧Step o (Five i) w o' w'∧uy W o' i w' q c (iF M):=by
 have hOT:fC (bS M.t):=hSt.t.bS
 have X7:=yc hOT.1
 obtain⟨C,hC⟩:∃C,C=gD (bS M.t):=⟨_,rfl⟩
 obtain⟨sn,hsn⟩:∃sn,sn=iK M.s:=⟨_,rfl⟩
 rw[←hC]at X7
 have e8:(256:Int)^8=18446744073709551616:=rfl
 have Ea:=hSt.now
 have hst:iD M=fF M.now 8++(fF (C.length:Int) 8++(C++sn)):=by
  unfold iD
  rw[←hC,←hsn,List.append_assoc,List.append_assoc]
 have hnl:n=16+C.length+sn.length:=by
  have h9:=hr.length
  rw[hst]at h9
  simp only[List.length_map,List.length_append,bP]at h9
  omega
 rw[←hsn]at hsl
 have n1:bg (iD M,0) 8=(M.now,(fF (C.length:Int) 8++(C++sn),0)):=by
  rw[hst]
  exact fJ 8 _ _ (by omega) (by omega)
 have n2:bg (fF (C.length:Int) 8++(C++sn),0) 8=((C.length:Int),(C++sn,0)):=fJ 8 _ _ (by omega) (by omega)
 have n3:kT (C++sn,0)=C.length+sn.length:=by unfold kT;rw[if_neg (by simp),List.length_append]
 have n4:iV (C++sn,0) (C.length:Int)=(C,(sn,0)):=qX _ _ _ rfl
 have n5:kT (sn,0)=sn.length:=by unfold kT;rw[if_neg (by simp)]
 have n6:iV (sn,0) (sn.length:Int)=(sn,([],0)):=by
  have:=qX sn [] sn.length rfl
  rw[List.append_nil]at this
  exact this
 have rM:=Lib.hid (OT hM (i+3) a n cp (iD M) (by omega) hr)
 have HSTO:=Lib.hid hSt
 have HG:=Lib.hid hG
 have Dz:=Lib.hid (hSt.sv hc hid)
 have fu:Hid (∀x∈M.s.l,fC x.t):=hSt.s.each
 have HM:=Lib.hid hM
 have K4:=Lib.hid hOT
 have VL:=Lib.hid hC
 have P8:=Lib.hid hsn
 have vS:=Lib.hid n1
 have Cm:=Lib.hid n2
 have Ru:=Lib.hid n3
 have Jq:=Lib.hid n4
 have Yd:=Lib.hid n5
 have HN6:=Lib.hid n6
 obtain⟨now,hne⟩:∃now,now=M.now:=⟨_,rfl⟩
 rw[←hne]at vS Ea
 have Gu:=Lib.hid hne
 obtain⟨L,hL⟩:∃L,L=C.length:=⟨_,rfl⟩
 obtain⟨K,hK⟩:∃K,K=sn.length:=⟨_,rfl⟩
 rw[←hL]at Cm vS Ru Jq X7
 rw[←hK]at Ru Yd HN6 hsl
 have rU:=Lib.hid hL
 have HKE:=Lib.hid hK
 clear hM hSt hG hid hr hOT hC hsn hst hnl n1 n2 n3 n4 n5 n6 hne hL hK
 go_enter Tryz.func29,Tryz.ntmps29
 go_wp2_with fail
 (with_reducible refine rM.out.mono ?_)
 rintro e w1 ⟨xr,o1,rfl,kP,hs1⟩
 have jB:=Lib.hid (HM.out.step1 (by omega) hs1)
 have l8:=Lib.hid hs1
 have AA:=Lib.hid (uq kP jB.out vS.out)
 clear kP hs1 rM
 go_wp2_with fail
 (with_reducible refine AA.out.mono ?_)
 rintro e w2 ⟨rfl,hR2,hs2⟩
 have vO:=Lib.hid (jB.out.step1 (by omega) hs2)
 have Ep:=Lib.hid (l8.out.trans hs2)
 have qA:=Lib.hid (uq hR2 vO.out Cm.out)
 clear hR2 hs2 AA jB l8
 go_wp2_with fail
 (with_reducible refine qA.out.mono ?_)
 rintro e w3 ⟨rfl,EH,hs3⟩
 have xO:=Lib.hid (vO.out.step1 (by omega) hs3)
 have Er:=Lib.hid (Ep.out.trans hs3)
 have KM:=Lib.hid (oU now w3)
 rw[decide_eq_true Ea.2]at KM
 have wS:=Lib.hid (BO EH)
 rw[Ru.out]at wS
 have J2:=Lib.hid (Gx EH xO.out (L:Int) (by omega) (by omega) Jq.out)
 have z2:IntKind.u64.wrap ((L+K:Nat):Int)=((L+K:Nat):Int):=by simp[IntKind.wrap,IntKind.bits,IntKind.signed];omega
 have z4:decide (((L+K:Nat):Int)<(L:Int))=false:=decide_eq_false (by omega)
 have z9:IntKind.i64.wrap (L:Int)=(L:Int):=IntWalk.i64_in _ (by omega)
 obtain⟨R,hR⟩:∃R,R=L+K:=⟨_,rfl⟩
 rw[←hR]at wS z2 z4
 have zB:L≤R:=by omega
 have zC:decide (R<L)=false:=decide_eq_false (by omega)
 clear hR EH hs3 qA vO Ep
 go_wp2_with fail
 (with_reducible refine KM.out.mono ?_)
 rintro e _ ⟨rfl,rfl⟩
 go_wp2_with fail
 (with_reducible refine wS.out.mono ?_)
 rintro e _ ⟨rfl,rfl⟩
 go_wp2_with fail
 (with_reducible refine J2.out.mono ?_)
 rintro e w4 ⟨a4,c4,rfl,hc4,hr4,zq,hs4⟩
 rw[←rU.out]at hr4⊢
 have lT:=Lib.hid (xO.out.step1 (by omega) hs4)
 have tX:=Lib.hid (Er.out.trans hs4)
 have iq:Hid (aj (Free o1 w4) w4 a4 L (C.map bv)):=hr4
 have HR4:=Lib.hid zq
 have K3:=Lib.hid (AU a4 L c4 C w4 (by omega) hr4)
 clear hc4 hr4 zq hs4 J2 wS KM xO Er z2 z4 zB zC
 go_wp2_with fail
 (with_reducible refine K3.out.mono ?_)
 intro e w5 hld
 obtain⟨p,rfl,hnt⟩:=jh.yes (T:=bS M.t) (by rw[←VL.out];exact hld) K4.out
 obtain⟨o5,hs5,CP⟩:=hnt.mark lT.out (i+1)
 have EX:=Lib.hid CP
 have wT:=Lib.hid (lT.out.step1 (by omega) hs5)
 have Gz:Hid (Step o (Five i) w o5 w5):=(tX.out.mono fun k hk=>nT (by omega)).trans (hs5.mono fun k hk=>nT (by omega))
 have jI:=Lib.hid (iq.out.Yc (by omega) hs5)
 have oO:=Lib.hid (HR4.out.step1 (by omega) (by omega) hs5)
 have UK:=Lib.hid (lI EX.out wT.out K4.out.1)
 rw[qc]at UK
 clear hld hnt hs5 CP K3 lT tX iq HR4
 go_wp2_with fail
 (with_reducible refine UK.out.mono ?_)
 rintro e w6 ⟨q2,rfl,Fv,hb6⟩
 have GA:=Lib.hid (tQ Fv K4.out.1)
 rw[←VL.out]at GA
 have GD:=Lib.hid hb6
 clear Fv hb6 UK
 go_wp2_with fail
 (with_reducible refine GA.out.mono ?_)
 rintro e w7 ⟨a7,n7,c7,rfl,X4,SF,Cn⟩
 have sI:Below w5.heap.size w5 w7:=GD.out.trans (Cn.mono GD.out.size)
 have RX:=Lib.hid (EX.out.grow sI)
 have Ae:=Lib.hid (wT.out.grow sI)
 have KT:=Lib.hid (Gz.out.trans (Step.grow wT.out sI))
 have YX:=Lib.hid (yY a7 a4 n7 L c7 c4 C w7 SF (jI.out.free (I:=fun _=>False) (fun e=>e) (Step.grow wT.out sI)))
 have VA:=oO.out.grow wT.out sI
 have Yj:=Lib.hid (BO VA)
 rw[Yd.out]at Yj
 have HRW:=Lib.hid (Gx VA Ae.out (K:Int) (by omega) (by omega) HN6.out)
 clear X4 SF Cn sI VA GA GD EX wT Gz oO jI
 go_wp2_with fail
 (with_reducible refine YX.out.mono ?_)
 rintro e _ ⟨rfl,rfl⟩
 go_wp2_with fail
 (with_reducible refine Yj.out.mono ?_)
 rintro e _ ⟨rfl,rfl⟩
 go_wp2_with fail
 (with_reducible refine HRW.out.mono ?_)
 rintro e w8 ⟨a8,c8,rfl,hc8,hr8,hR8,uQ⟩
 rw[←HKE.out]at hr8⊢
 have EB:=Lib.hid (Ae.out.step1 (by omega) uQ)
 have HT8:=Lib.hid (RX.out.step1 (by omega) (by omega) uQ)
 have Ym:=Lib.hid (KT.out.trans (uQ.mono fun k hk=>nT (by omega)))
 have HSL:=Lib.hid (GH (i:=i) (j:=i+4) EB.out (by omega) (by omega) (by omega) a8 K c8 HG.out Dz.out fu.out (by rw[←P8.out];exact hr8) (by rw[←P8.out,←HKE.out];omega))
 clear hc8 hr8 hR8 uQ HRW Yj YX Ae RX KT
 go_wp2_with fail
 (with_reducible refine HSL.out.mono ?_)
 rintro e w9 ⟨s9,o9,rfl,Na,U5⟩
 have h0:True:=trivial
 have YN:=Lib.hid (EB.out.step (I:=fun m=>m=i∨m=i+4) (fun e=>by
  have e':0=i∨0=i+4:=e
  omega) Na)
 have HT9:=Lib.hid (HT8.out.step (I:=fun m=>m=i∨m=i+4) (fun e=>by
  have e':0=i∨0=i+4:=e
  omega) (fun e=>by
  have e':i+1=i∨i+1=i+4:=e
  omega) Na)
 have HST9:=Lib.hid (Ym.out.trans (Na.mono fun k hk=>nT (by omega)))
 have HSN9:=Lib.hid U5
 clear h0 Na U5 HSL EB HT8 Ym
 go_wp2_with fail
 go_ret2
 have hb:Below w9.heap.size w9 (w9.alloc (.cells (wU p s9 now fun _=> .pointer none) 66)):=wall w9 _
 obtain⟨oA,hsA,g1,g2⟩:=fZ YN.out (i+2) (fun b=>b=w9.heap.size) (w':=w9.alloc (.cells (wU p s9 now fun _=> .pointer none) 66)) (fun b hb=>by subst hb;exact⟨Nat.le_refl _,by simp⟩) hb
 have hst:Step o (Five i) w oA _:=HST9.out.trans (hsA.mono fun k hk=>nT (by omega))
 refine⟨w9.heap.size,oA,rfl,hst,⟨⟨⟨p,s9,fun _=> .pointer none,by rw[show(iF M).now=now from Gu.out.symm];exact(MapKept.heap_alloc w9 _).1,HSN9.out.step1 (by omega) (by omega) hsA,HT9.out.step1 (by omega) (by omega) hsA,fun n hn=>rfl⟩,g1 _ rfl,by simp⟩,HM.out.step (fun e=>by have:=e.1;omega) hst,HSTO.out.settled⟩⟩
end
theorem zI {α:Type} {l l':List α} {k:Nat} {x y:α} (hx:l[k]? =some x) (hy:l'[k]? =some y) (h:x≠y):l≠l':=by
 intro e;rw[e,hy]at hx;exact h (Option.some.inj hx).symm
theorem BQ {α:Type} {l l':List α} {k:Nat} {x:α} (h:l.take k=l'.take k) (hx:l[k]? =some x) (hy:l'[k]? =some x):l.take (k+1)=l'.take (k+1):=by
 rw[List.take_add_one,List.take_add_one,h,hx,hy]
theorem KV {x y:ByteArray} (h:x≠y):(x.toList==y.toList)=false:=by
 rw[beq_eq_false_iff_ne,ByteArray.toList_eq,ByteArray.toList_eq]
 intro e
 exact h (WideShapes.bytes_inj e)
theorem OW {S S':Nat→Prop} (a a':Option Addr) (len cap len' cap':Nat) (ss ss':List ByteArray) (w:World) (h:aO S w a len ss) (h':aO S' w a' len' ss'):
  Calls Tryz.prog 35 #[.slice a len cap, .slice a' len' cap'] w fun e w'=>e= .returned (.bool (decide (ss=ss')))∧Below w.heap.size w w':=by
 have hl:=h.length
 have hl':=h'.length
 have hm:=h.row.small
 have hm':=h'.row.small
 unfold maxLen at hm hm'
 by_cases hne:len=len'
 ·subst hne
  have HL:=Lib.hid hl
  have HL':=Lib.hid hl'
  clear hl hl'
  go_enter Tryz.func35,Tryz.ntmps35
  go_wp2
  go_loopw [5] (fun i wr=>∃k:Nat,k≤len∧i= .int .i64 k∧ss.take k=ss'.take k∧Below w.heap.size w wr) (fun i _=>len-(intOf i).toNat)
  case atStart=>exact⟨0,by omega,rfl,rfl,Below.refl _ _⟩
  case round=>
   obtain⟨k,hk,rfl,ht,hb⟩:=hrel
   have HT:=Lib.hid ht
   clear ht
   by_cases hlt:k<len
   ·obtain⟨b,off,x,rfl,_,_,hx,_,hc⟩:=(h.below hb (Nat.le_refl _)).cell k hlt
    obtain⟨b',off',y,rfl,_,_,hy,_,hc'⟩:=(h'.below hb (Nat.le_refl _)).cell k hlt
    have HX:=Lib.hid hx
    have HY:=Lib.hid hy
    clear hx hy h h'
    have hk0:(0:Int)≤(k:Int):=by omega
    have hk1:(k:Int)<(len:Int):=by omega
    by_cases hxy:x=y
    ·subst hxy
     go_wp2
     go_quiet (fail)
     go_wp2
     go_roundw
     case rel=>exact⟨k+1,by omega,by go_num,BQ HT.out HX.out HY.out,hb.trans ⟨rfl,rfl,rfl,Nat.le_refl _,fun _ _=>rfl⟩⟩
     case measure=>simp[intOf];omega
    ·have hxl:=KV hxy
     have HN:=Lib.hid hxy
     clear hxy
     go_wp2
     go_quiet (fail)
     go_wp2
     go_ret
     exact⟨kg (by simp[zI HX.out HY.out HN.out]),hb.trans ⟨rfl,rfl,rfl,Nat.le_refl _,fun _ _=>rfl⟩⟩
   ·go_wp2
    go_ret
    refine⟨kg ?_,hb⟩
    have:=HT.out
    rw[List.take_of_length_le (by have:=HL.out;omega),List.take_of_length_le (by have:=HL'.out;omega)]at this
    simp[this]
 ·have hne':ss≠ss':=fun e=>hne (by rw[←hl,←hl',e])
  have HN:=Lib.hid hne'
  have hb0:((len:Int) !=(len':Int))=true:=by simp;omega
  clear hl hl' hne hne'
  go_enter Tryz.func35,Tryz.ntmps35
  go_wp2
  go_ret
  exact⟨kg (by simp[HN.out]),Below.refl _ _⟩
end Go.Proofs.YtmabllemjkcobaaGreatDoor
