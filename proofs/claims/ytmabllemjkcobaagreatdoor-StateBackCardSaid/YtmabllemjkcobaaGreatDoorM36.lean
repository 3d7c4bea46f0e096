/- package state: paths, kinds 14 15 16 17. package state: paths. package state: how Do turns a state; what is refused. package state: Do: what holds on the way. -/
import Derived.Test.YtmabllemjkcobaaGreatDoorM34
import Derived.Test.YtmabllemjkcobaaGreatDoorM35
import Derived.Test.YtmabllemjkcobaaGreatDoorM33
import Derived.Test.YtmabllemjkcobaaGreatDoorM14
import Derived.Test.YtmabllemjkcobaaGreatDoorM31
namespace Go.Proofs.YtmabllemjkcobaaGreatDoor
open Go.ChangeShapes Go.WideShapes Go.ChangeAt Go.RowKit
set_option linter.unusedVariables false
set_option linter.unusedSimpArgs false
set_option maxRecDepth 100000 in
set_option maxHeartbeats 8000000 in
theorem Kk (p:Nat) (w:World) (pa aA:List UInt8) (fd at_ n au sn:Int) (dt:List UInt8) (da:Option Addr) (dc:Nat) (hpa:pa.length<4294967281) (hto:aA.length<4294967281) (m:Int) (hm:w.cell? ⟨0,0,none⟩=some (.int .i64 m)):
  Calls Tryz.prog 36 #[ptr p, .agg (opC ⟨14,pa,aA,fd,at_,n,au,sn,dt⟩ da dc)] w (aR w (cB [])):=by
 obtain⟨ie,he,hz0,hz1,hz2⟩:=info_parts eH
 have gq:0<w.heap.size:=World.block_lt_of_cell? w _ hm
 obtain⟨w1,hw1⟩:∃w1,w1=w.alloc (.cells (opC ⟨14,pa,aA,fd,at_,n,au,sn,dt⟩ da dc) 28):=⟨_,rfl⟩
 have hb1:Below w.heap.size w w1:=by rw[hw1];exact wall w _
 have hrow:∀k t,([]:List (List UInt8))[k]? =some t→w1.cell? ⟨w.heap.size+1,k,none⟩=some (.string (strOf t))∧t.length<4294967281:=fun k t h=>by simp at h
 have dS:=Lib.hid hrow
 have HB1:=Lib.hid hb1
 have HW:=Lib.hid hw1
 have HM:=Lib.hid hm
 have oK:=Lib.hid gq
 clear hrow hb1 hw1 hm hpa hto gq
 unfold opC at HW
 unfold opC
 go_enter Tryz.func36,Tryz.ntmps36
 go_wp2_with fail
 rw[←HW.out]
 clear HW
 obtain⟨ts,hts⟩:∃ts:List (List UInt8),ts=[]:=⟨_,rfl⟩
 have hnn:ts.length=0:=by rw[hts];rfl
 rw[←hts]at dS
 have oh:=Lib.hid hts
 clear hts
 have gF:=Lib.hid hnn
 clear hnn
 go_loopw [7,44] (fun v iv wr=>∃k:Nat,k≤0∧iv= .int .i64 k∧aG w1 ts k v wr) (fun _ iv _=>0-(intOf iv).toNat)
 case atStart=>exact⟨0,by omega,rfl,aG.start ts (Below.refl _ _)⟩
 case round=>
  obtain⟨k,hk,rfl,hrel⟩:=hrel
  have HR:=Lib.hid hrel
  clear hrel
  obtain rfl:k=0:=by omega
  obtain⟨a,c,vals,rfl,hac,hown⟩:=HR.out.one
  go_wp2_with fail
  go_ret2
  have hd:=HR.out
  rw[←gF.out]at hd
  have:=hd.done
  rw[gF.out,oh.out]at this
  exact this.up HB1.out
set_option maxRecDepth 100000 in
set_option maxHeartbeats 8000000 in
theorem Kl (p:Nat) (w:World) (pa aA:List UInt8) (fd at_ n au sn:Int) (dt:List UInt8) (da:Option Addr) (dc:Nat) (hpa:pa.length<4294967281) (hto:aA.length<4294967281) (m:Int) (hm:w.cell? ⟨0,0,none⟩=some (.int .i64 m)):
  Calls Tryz.prog 36 #[ptr p, .agg (opC ⟨15,pa,aA,fd,at_,n,au,sn,dt⟩ da dc)] w (aR w (cB [])):=by
 obtain⟨ie,he,hz0,hz1,hz2⟩:=info_parts eH
 have gq:0<w.heap.size:=World.block_lt_of_cell? w _ hm
 obtain⟨w1,hw1⟩:∃w1,w1=w.alloc (.cells (opC ⟨15,pa,aA,fd,at_,n,au,sn,dt⟩ da dc) 28):=⟨_,rfl⟩
 have hb1:Below w.heap.size w w1:=by rw[hw1];exact wall w _
 have hrow:∀k t,([]:List (List UInt8))[k]? =some t→w1.cell? ⟨w.heap.size+1,k,none⟩=some (.string (strOf t))∧t.length<4294967281:=fun k t h=>by simp at h
 have dS:=Lib.hid hrow
 have HB1:=Lib.hid hb1
 have HW:=Lib.hid hw1
 have HM:=Lib.hid hm
 have oK:=Lib.hid gq
 clear hrow hb1 hw1 hm hpa hto gq
 unfold opC at HW
 unfold opC
 go_enter Tryz.func36,Tryz.ntmps36
 go_wp2_with fail
 rw[←HW.out]
 clear HW
 obtain⟨ts,hts⟩:∃ts:List (List UInt8),ts=[]:=⟨_,rfl⟩
 have hnn:ts.length=0:=by rw[hts];rfl
 rw[←hts]at dS
 have oh:=Lib.hid hts
 clear hts
 have gF:=Lib.hid hnn
 clear hnn
 go_loopw [7,44] (fun v iv wr=>∃k:Nat,k≤0∧iv= .int .i64 k∧aG w1 ts k v wr) (fun _ iv _=>0-(intOf iv).toNat)
 case atStart=>exact⟨0,by omega,rfl,aG.start ts (Below.refl _ _)⟩
 case round=>
  obtain⟨k,hk,rfl,hrel⟩:=hrel
  have HR:=Lib.hid hrel
  clear hrel
  obtain rfl:k=0:=by omega
  obtain⟨a,c,vals,rfl,hac,hown⟩:=HR.out.one
  go_wp2_with fail
  go_ret2
  have hd:=HR.out
  rw[←gF.out]at hd
  have:=hd.done
  rw[gF.out,oh.out]at this
  exact this.up HB1.out
set_option maxRecDepth 100000 in
set_option maxHeartbeats 8000000 in
theorem Km (p:Nat) (w:World) (pa aA:List UInt8) (fd at_ n au sn:Int) (dt:List UInt8) (da:Option Addr) (dc:Nat) (hpa:pa.length<4294967281) (hto:aA.length<4294967281) (m:Int) (hm:w.cell? ⟨0,0,none⟩=some (.int .i64 m)):
  Calls Tryz.prog 36 #[ptr p, .agg (opC ⟨16,pa,aA,fd,at_,n,au,sn,dt⟩ da dc)] w (aR w (cB [])):=by
 obtain⟨ie,he,hz0,hz1,hz2⟩:=info_parts eH
 have gq:0<w.heap.size:=World.block_lt_of_cell? w _ hm
 obtain⟨w1,hw1⟩:∃w1,w1=w.alloc (.cells (opC ⟨16,pa,aA,fd,at_,n,au,sn,dt⟩ da dc) 28):=⟨_,rfl⟩
 have hb1:Below w.heap.size w w1:=by rw[hw1];exact wall w _
 have hrow:∀k t,([]:List (List UInt8))[k]? =some t→w1.cell? ⟨w.heap.size+1,k,none⟩=some (.string (strOf t))∧t.length<4294967281:=fun k t h=>by simp at h
 have dS:=Lib.hid hrow
 have HB1:=Lib.hid hb1
 have HW:=Lib.hid hw1
 have HM:=Lib.hid hm
 have oK:=Lib.hid gq
 clear hrow hb1 hw1 hm hpa hto gq
 unfold opC at HW
 unfold opC
 go_enter Tryz.func36,Tryz.ntmps36
 go_wp2_with fail
 rw[←HW.out]
 clear HW
 obtain⟨ts,hts⟩:∃ts:List (List UInt8),ts=[]:=⟨_,rfl⟩
 have hnn:ts.length=0:=by rw[hts];rfl
 rw[←hts]at dS
 have oh:=Lib.hid hts
 clear hts
 have gF:=Lib.hid hnn
 clear hnn
 go_loopw [7,44] (fun v iv wr=>∃k:Nat,k≤0∧iv= .int .i64 k∧aG w1 ts k v wr) (fun _ iv _=>0-(intOf iv).toNat)
 case atStart=>exact⟨0,by omega,rfl,aG.start ts (Below.refl _ _)⟩
 case round=>
  obtain⟨k,hk,rfl,hrel⟩:=hrel
  have HR:=Lib.hid hrel
  clear hrel
  obtain rfl:k=0:=by omega
  obtain⟨a,c,vals,rfl,hac,hown⟩:=HR.out.one
  go_wp2_with fail
  go_ret2
  have hd:=HR.out
  rw[←gF.out]at hd
  have:=hd.done
  rw[gF.out,oh.out]at this
  exact this.up HB1.out
set_option maxRecDepth 100000 in
set_option maxHeartbeats 8000000 in
theorem Kn (p:Nat) (w:World) (pa aA:List UInt8) (fd at_ n au sn:Int) (dt:List UInt8) (da:Option Addr) (dc:Nat) (hpa:pa.length<4294967281) (hto:aA.length<4294967281) (m:Int) (hm:w.cell? ⟨0,0,none⟩=some (.int .i64 m)):
  Calls Tryz.prog 36 #[ptr p, .agg (opC ⟨17,pa,aA,fd,at_,n,au,sn,dt⟩ da dc)] w (aR w (cB [])):=by
 obtain⟨ie,he,hz0,hz1,hz2⟩:=info_parts eH
 have gq:0<w.heap.size:=World.block_lt_of_cell? w _ hm
 obtain⟨w1,hw1⟩:∃w1,w1=w.alloc (.cells (opC ⟨17,pa,aA,fd,at_,n,au,sn,dt⟩ da dc) 28):=⟨_,rfl⟩
 have hb1:Below w.heap.size w w1:=by rw[hw1];exact wall w _
 have hrow:∀k t,([]:List (List UInt8))[k]? =some t→w1.cell? ⟨w.heap.size+1,k,none⟩=some (.string (strOf t))∧t.length<4294967281:=fun k t h=>by simp at h
 have dS:=Lib.hid hrow
 have HB1:=Lib.hid hb1
 have HW:=Lib.hid hw1
 have HM:=Lib.hid hm
 have oK:=Lib.hid gq
 clear hrow hb1 hw1 hm hpa hto gq
 unfold opC at HW
 unfold opC
 go_enter Tryz.func36,Tryz.ntmps36
 go_wp2_with fail
 rw[←HW.out]
 clear HW
 obtain⟨ts,hts⟩:∃ts:List (List UInt8),ts=[]:=⟨_,rfl⟩
 have hnn:ts.length=0:=by rw[hts];rfl
 rw[←hts]at dS
 have oh:=Lib.hid hts
 clear hts
 have gF:=Lib.hid hnn
 clear hnn
 go_loopw [7,44] (fun v iv wr=>∃k:Nat,k≤0∧iv= .int .i64 k∧aG w1 ts k v wr) (fun _ iv _=>0-(intOf iv).toNat)
 case atStart=>exact⟨0,by omega,rfl,aG.start ts (Below.refl _ _)⟩
 case round=>
  obtain⟨k,hk,rfl,hrel⟩:=hrel
  have HR:=Lib.hid hrel
  clear hrel
  obtain rfl:k=0:=by omega
  obtain⟨a,c,vals,rfl,hac,hown⟩:=HR.out.one
  go_wp2_with fail
  go_ret2
  have hd:=HR.out
  rw[←gF.out]at hd
  have:=hd.done
  rw[gF.out,oh.out]at this
  exact this.up HB1.out
set_option maxRecDepth 100000 in
set_option maxHeartbeats 8000000 in
theorem Ko (p:Nat) (w:World) (x:kQ) (da:Option Addr) (dc:Nat) (h:¬(1≤x.kind∧x.kind≤17)):
  Calls Tryz.prog 36 #[ptr p, .agg (opC x da dc)] w (aR w ([],30)):=by
 have e1:(x.kind==1)=false:=by simp;omega
 have e2:(x.kind==2)=false:=by simp;omega
 have e3:(x.kind==3)=false:=by simp;omega
 have e4:(x.kind==4)=false:=by simp;omega
 have e5:(x.kind==5)=false:=by simp;omega
 have e6:(x.kind==6)=false:=by simp;omega
 have e7:(x.kind==7)=false:=by simp;omega
 have e8:(x.kind==8)=false:=by simp;omega
 have e9:(x.kind==9)=false:=by simp;omega
 have e10:(x.kind==10)=false:=by simp;omega
 have e11:(x.kind==11)=false:=by simp;omega
 have e12:(x.kind==12)=false:=by simp;omega
 have e13:(x.kind==13)=false:=by simp;omega
 have e14:(x.kind==14)=false:=by simp;omega
 have e15:(x.kind==15)=false:=by simp;omega
 have e16:(x.kind==16)=false:=by simp;omega
 have e17:(x.kind==17)=false:=by simp;omega
 clear h
 unfold opC
 go_enter Tryz.func36,Tryz.ntmps36
 go_wp2_with fail
 go_ret2
 exact⟨none,0,0,[],rfl,rfl,Nat.le_refl _,aj.nil _ _ _,⟨rfl,fun i q hq=>by simp at hq⟩,wall w _⟩
theorem dX (p:Nat) (w:World) (x:kQ) (da:Option Addr) (dc:Nat) (hx:jL x) (m:Int) (hm:w.cell? ⟨0,0,none⟩=some (.int .i64 m)):
  Calls Tryz.prog 36 #[ptr p, .agg (opC x da dc)] w (aR w (bL x)):=by
 by_cases h:1≤x.kind∧x.kind≤17
 ·obtain⟨kd,pa,aA,fd,at_,n,au,sn,dt⟩:=x
  have h':1≤kd∧kd≤17:=h
  have hp:pa.length<4294967281:=hx.wp
  have hq:aA.length<4294967281:=hx.wq
  have e:bL ⟨kd,pa,aA,fd,at_,n,au,sn,dt⟩=cB (H_ ⟨kd,pa,aA,fd,at_,n,au,sn,dt⟩):=if_pos h
  rw[e]
  rcases (show kd=1∨kd=2∨kd=3∨kd=4∨kd=5∨kd=6∨kd=7∨kd=8∨kd=9∨kd=10∨kd=11∨kd=12∨kd=13∨kd=14∨kd=15∨kd=16∨kd=17 by omega)with rfl|rfl|rfl|rfl|rfl|rfl|rfl|rfl|rfl|rfl|rfl|rfl|rfl|rfl|rfl|rfl|rfl
  ·exact Nz p w pa aA fd at_ n au sn dt da dc hp hq m hm
  ·exact NA p w pa aA fd at_ n au sn dt da dc hp hq m hm
  ·exact NC p w pa aA fd at_ n au sn dt da dc hp hq m hm
  ·exact NI p w pa aA fd at_ n au sn dt da dc hp hq m hm
  ·exact NJ p w pa aA fd at_ n au sn dt da dc hp hq m hm
  ·exact NK p w pa aA fd at_ n au sn dt da dc hp hq m hm
  ·exact NH p w pa aA fd at_ n au sn dt da dc hp hq m hm
  ·exact ND p w pa aA fd at_ n au sn dt da dc hp hq m hm
  ·exact NG p w pa aA fd at_ n au sn dt da dc hp hq m hm
  ·exact Kj p w pa aA fd at_ n au sn dt da dc hp hq m hm
  ·exact Kg p w pa aA fd at_ n au sn dt da dc hp hq m hm
  ·exact Kh p w pa aA fd at_ n au sn dt da dc hp hq m hm
  ·exact Ki p w pa aA fd at_ n au sn dt da dc hp hq m hm
  ·exact Kk p w pa aA fd at_ n au sn dt da dc hp hq m hm
  ·exact Kl p w pa aA fd at_ n au sn dt da dc hp hq m hm
  ·exact Km p w pa aA fd at_ n au sn dt da dc hp hq m hm
  ·exact Kn p w pa aA fd at_ n au sn dt da dc hp hq m hm
 ·have e:bL x=([],30):=if_neg h
  rw[e]
  exact Ko p w x da dc h
inductive vW (M:eF) (x:kQ):eF→Prop
 |same:vW M x M
 |make (ls:List Nm) (kind:Int):vW M x (M.tr (cZ M.t ls kind).2)
 |create (ls:List Nm):0≤kS M→(cZ M.t ls 1).1.2=0→vW M x (eF.put (M.tr (cZ M.t ls 1).2) (kS M).toNat (some ⟨true,(cZ M.t ls 1).1.1,[]⟩))
 |opens (T:aK) (ls:List Nm) (y:eB):jq M x.snap=some T→0≤kS M→(bq T ls).2=0→ah (bq T ls).1 T=some y→y.kind≠2→y.closed=true→vW M x (M.put (kS M).toNat (some ⟨false,0,nJ T (bq T ls).1 0 y.b.length⟩))
 |write (f:EC):jK M x.fd true=some f→vW M x (M.tr (dF M.t f.id x.data).2)
 |closes (f:EC):x.kind=6→jK M x.fd true=some f→(fE M.t f.id x.au).1=0→vW M x (eF.put (M.tr (fE M.t f.id x.au).2) x.fd.toNat none)
 |shut (f:EC):x.kind=6→jK M x.fd false=some f→vW M x (M.put x.fd.toNat none)
 |link (p q:List Nm):vW M x (M.tr (gy M.t p q).2)
 |unlink (ls:List Nm):(bU M.t ls).er=0→jN (bU M.t ls).k (bU M.t ls).l (bU M.t ls).u (bU M.t ls).c M.now=0→vW M x (M.tr (dP M.t ls).2)
 |rmdir (ls:List Nm):vW M x (M.tr (eT M.t ls).2)
 |rename (p q:List Nm):vW M x (M.tr (cu M.t p q).2)
 |keep (ls:List Nm):(bU M.t ls).er=0→vW M x (M.tr (gU M.t (bU M.t ls).i x.au).2)
 |take:vW M x (M.sn (iw M.s M.t).2)
 |forget:vW M x (M.sn (f_ M.s x.snap M.now).2)
 |tick:x.kind=16→vW M x {M with now:=oV M.now x.au}
section
variable {M:eF} {x:kQ}
theorem F3 {T:aK} {id t:Int} (h:(fE T id t).1≠0):(fE T id t).2=T:=by
 unfold fE at h⊢
 exact if_neg h
theorem F4 (ls:List Nm):vW M x (iM M ls).2:=by
 unfold iM
 by_cases h1:kS M<0
 ·rw[if_pos h1];exact .same
 ·rw[if_neg h1]
  by_cases h2:(cZ M.t ls 1).1.2≠0
  ·rw[if_pos h2];exact .make ls 1
  ·rw[if_neg h2];exact .create ls (by omega) (by simpa using h2)
theorem NM (ls:List Nm):vW M x (iC M ls x.snap).2:=by
 unfold iC
 split
 ·exact .same
 ·rename_i T hT
  split
  ·exact .same
  ·rename_i hf
   unfold DL
   split
   ·exact .same
   ·rename_i h2
    split
    ·exact .same
    ·rename_i y hy
     split
     ·exact .same
     ·rename_i h3
      split
      ·exact .same
      ·rename_i h4
       exact .opens T ls y hT (by omega) (by simpa using h2) hy h3 (by simpa using h4)
theorem Kq:vW M x (iR M x).2:=by
 unfold iR
 split
 ·exact .same
 ·rename_i f hf
  split
  ·exact .same
  ·exact .write f hf
theorem Kr (h6:x.kind=6):vW M x (iT M x).2:=by
 unfold iT
 split
 ·rename_i f hf
  split
  ·rename_i h2
   have:=F3 h2
   dsimp only
   rw[this]
   exact .same
  ·rename_i h2
   exact .closes f h6 hf (by simpa using h2)
 ·split
  ·exact .same
  ·rename_i f hf
   exact .shut f h6 hf
theorem F7 (ls:List Nm):vW M x (gY M ls).2:=by
 unfold gY
 split
 ·exact .same
 ·split
  ·exact .same
  ·exact .unlink ls (by rename_i h1 h2;simpa using h1) (by rename_i h1 h2;simpa using h2)
theorem NP (ls:List Nm):vW M x (kG M ls x.au).2:=by
 unfold kG
 split
 ·exact .same
 ·split
  ·exact .same
  ·exact .keep ls (by rename_i h1 h2;simpa using h1)
theorem Ie (M:eF) (x:kQ):vW M x (bM M x).2:=by
 unfold bM
 by_cases h0:(bL x).2≠0
 ·rw[if_pos h0];exact .same
 rw[if_neg h0]
 unfold oW
 by_cases h1:x.kind=1
 ·rw[if_pos h1];exact F4 _
 rw[if_neg h1]
 by_cases h2:x.kind=2
 ·rw[if_pos h2];exact .make _ _
 rw[if_neg h2]
 by_cases h3:x.kind=3
 ·rw[if_pos h3];exact NM _
 rw[if_neg h3]
 by_cases h4:x.kind=4
 ·rw[if_pos h4];exact .same
 rw[if_neg h4]
 by_cases h5:x.kind=5
 ·rw[if_pos h5];exact Kq
 rw[if_neg h5]
 by_cases h6:x.kind=6
 ·rw[if_pos h6];exact Kr h6
 rw[if_neg h6]
 by_cases h7:x.kind=7
 ·rw[if_pos h7];exact .link _ _
 rw[if_neg h7]
 by_cases h8:x.kind=8
 ·rw[if_pos h8];exact F7 _
 rw[if_neg h8]
 by_cases h9:x.kind=9
 ·rw[if_pos h9];exact .rmdir _
 rw[if_neg h9]
 by_cases h10:x.kind=10
 ·rw[if_pos h10];exact .rename _ _
 rw[if_neg h10]
 by_cases h11:x.kind=11∨x.kind=12
 ·rw[if_pos h11];exact .same
 rw[if_neg h11]
 by_cases WS:x.kind=13
 ·rw[if_pos WS];exact NP _
 rw[if_neg WS]
 by_cases Vo:x.kind=14
 ·rw[if_pos Vo];exact .take
 rw[if_neg Vo]
 by_cases WT:x.kind=15
 ·rw[if_pos WT];exact .forget
 rw[if_neg WT]
 by_cases h16:x.kind=16
 ·rw[if_pos h16];exact .tick h16
 rw[if_neg h16]
 exact .same
theorem NQ (now tick:Int):now≤oV now tick:=by
 unfold oV
 split
 ·split
  ·omega
  ·omega
 ·omega
theorem vW.now {M':eF} (h:vW M x M'):M.now≤M'.now∧(x.kind≠16→M'.now=M.now):=by
 cases h with
 |tick h16=>exact⟨NQ _ _,fun h=>absurd h16 h⟩
 |same=>exact⟨Int.le_refl _,fun _=>rfl⟩
 |make ls kind=>exact⟨Int.le_refl _,fun _=>rfl⟩
 |create ls h1 h2=>exact⟨Int.le_refl _,fun _=>rfl⟩
 |opens T ls y h1 h2 h3 h4 h5 h6=>exact⟨Int.le_refl _,fun _=>rfl⟩
 |write f h1=>exact⟨Int.le_refl _,fun _=>rfl⟩
 |closes f h1 h2 h3=>exact⟨Int.le_refl _,fun _=>rfl⟩
 |shut f h1 h2=>exact⟨Int.le_refl _,fun _=>rfl⟩
 |link p q=>exact⟨Int.le_refl _,fun _=>rfl⟩
 |unlink ls h1 h2=>exact⟨Int.le_refl _,fun _=>rfl⟩
 |rmdir ls=>exact⟨Int.le_refl _,fun _=>rfl⟩
 |rename p q=>exact⟨Int.le_refl _,fun _=>rfl⟩
 |keep ls h1=>exact⟨Int.le_refl _,fun _=>rfl⟩
 |take=>exact⟨Int.le_refl _,fun _=>rfl⟩
 |forget=>exact⟨Int.le_refl _,fun _=>rfl⟩
theorem NR (M:eF):kS M= -1∨∃n:Nat,n<8∧kS M=n∧M.fds n=none:=by
 unfold kS
 split
 ·rename_i n hn
  have h1:=List.mem_of_find?_eq_some hn
  have h2:=List.find?_some hn
  rw[List.mem_range]at h1
  exact .inr ⟨n,h1,rfl,by cases hf:M.fds n with|none=>rfl|some f=>rw[hf]at h2;cases h2⟩
 ·exact .inl rfl
theorem vC (M:eF) {n m:Nat} (f:Option EC) (h:m≠n):(M.put n f).fds m=M.fds m:=if_neg h
theorem vW.fd {M':eF} (h:vW M x M') {n:Nat} {f:EC} (hf:M.fds n=some f) (hx:¬(x.kind=6∧x.fd.toNat=n)):M'.fds n=some f:=by
 have hfree:∀g,0≤kS M→(M.put (kS M).toNat g).fds n=some f:=fun g h0=>by
  rcases NR M with e|⟨m,h1,h2,h3⟩
  ·omega
  ·rw[vC _ _ (fun e=>by rw[h2]at e;simp at e;subst e;rw[h3]at hf;cases hf)]
   exact hf
 cases h with
 |create ls h1 h2=>exact hfree _ h1
 |opens T ls y h1 h2 h3 h4 h5 h6=>exact hfree _ h2
 |closes g h1 h2 h3=>rw[vC _ _ (fun e=>hx ⟨h1,e.symm⟩)];exact hf
 |shut g h1 h2=>rw[vC _ _ (fun e=>hx ⟨h1,e.symm⟩)];exact hf
 |same=>exact hf
 |make ls kind=>exact hf
 |write g h1=>exact hf
 |link p q=>exact hf
 |unlink ls h1 h2=>exact hf
 |rmdir ls=>exact hf
 |rename p q=>exact hf
 |keep ls h1=>exact hf
 |take=>exact hf
 |forget=>exact hf
 |tick h1=>exact hf
end
structure yB (i j k l n:Nat):Prop where
 mm:Mk i j k l
 ne:n≠0∧n≠i∧n≠j∧n≠k∧n≠l
def jO (o:Mark) (i j k l n:Nat) (w:World) (p:Nat) (q:rO×eF) (e:Ending) (w':World):Prop:=
 ∃o',vk o' q.1 e w'∧Step o (fun m=>m=i∨m=j∨m=k∨m=l∨m=n) w o' w'∧aU o' i j k w' p q.2
structure gJ (W:World) (o:Mark) (i j k l n:Nat) (w:World) (p:Nat) (x:kQ) (da:Option Addr) (dc:Nat) (o1:Mark) (w3:World) (M:eF):Prop where
 mm:yB i j k l n
 st:aU o1 i j k w3 p M
 marks:Marks W o1 w3
 step:Step o (fun m=>m=i∨m=j∨m=k∨m=l∨m=n) w o1 w3
 op:w3.heap[w.heap.size]? =some (.cells (opC x da dc) 28 (0,0))
 re:w3.heap[w.heap.size+1]? =some (.cells (b_ (bW 0) none none 0 0) 36 (0,0))
 om:o1 w.heap.size=0
 rm:o1 (w.heap.size+1)=n
section
variable {W w w3 w4 w5:World} {o o1 o4:Mark} {i j k l n p:Nat} {M M':eF} {x:kQ} {da:Option Addr} {dc:Nat}
theorem gJ.start (hk:yB i j k l n) (hS:aU o i j k w p M) (hM:Marks W o w) (x:kQ) (da:Option Addr) (dc:Nat):∃o1,gJ W o i j k l n w p x da dc o1 ((w.alloc (.cells (opC x da dc) 28)).alloc (.cells (b_ (bW 0) none none 0 0) 36)) M:=by
 obtain⟨w2,hw2⟩:∃w2,w2=(w.alloc (.cells (opC x da dc) 28)).alloc (.cells (b_ (bW 0) none none 0 0) 36):=⟨_,rfl⟩
 have hb2:Below w.heap.size w w2:=by rw[hw2];exact(wall w _).trans ((wall _ _).mono (by simp))
 have hop:w2.heap[w.heap.size]? =some (.cells (opC x da dc) 28 (0,0)):=by
  rw[hw2]
  exact((wall _ _).block _ (by simp)).trans (MapKept.heap_alloc w _).1
 have hre:w2.heap[w.heap.size+1]? =some (.cells (b_ (bW 0) none none 0 0) 36 (0,0)):=by
  rw[hw2]
  have:=(MapKept.heap_alloc (w.alloc (.cells (opC x da dc) 28)) (.cells (b_ (bW 0) none none 0 0) 36)).1
  rw[World.size_alloc]at this
  exact this
 rw[←hw2]
 obtain⟨m0,m1,m2,m3,m4⟩:=hk.ne
 obtain⟨o1,hs1,hl1,hl2⟩:=fZ hM n (fun b=>b=w.heap.size+1) (w':=w2) (fun b hb=>by subst hb;exact⟨by omega,(Array.getElem?_eq_some_iff.1 hre).1⟩) hb2
 exact⟨o1,hk,hS.step (fun e=>m0 e.symm) (fun e=>m1 e.symm) (fun e=>m2 e.symm) (fun e=>m3 e.symm) hs1,hM.step (fun e=>m0 e.symm) hs1,hs1.mono fun m hm=> .inr (.inr (.inr (.inr hm))),hop,hre,(hl2 w.heap.size (by omega)).trans (Decidable.byContradiction fun h9=>by have:=(hM.new _ h9).2;omega),hl1 _ rfl⟩
theorem gJ.n0 (hk:yB i j k l n):¬((0:Nat)=i∨0=j∨0=k∨0=l):=by
 obtain⟨n1,n2,n3,n4,-⟩:=hk.mm.ne
 omega
theorem gJ.grow (h:gJ W o i j k l n w p x da dc o1 w3 M) (hb:Below w3.heap.size w3 w4):gJ W o i j k l n w p x da dc o1 w4 M:=
 ⟨h.mm,h.st.grow h.marks hb,h.marks.grow hb,h.step.trans (Step.grow h.marks hb),(hb.block _ (Array.getElem?_eq_some_iff.1 h.op).1).trans h.op,(hb.block _ (Array.getElem?_eq_some_iff.1 h.re).1).trans h.re,h.om,h.rm⟩
theorem gJ.turn (h:gJ W o i j k l n w p x da dc o1 w3 M) (hs:Step o1 (fun m=>m=i∨m=j∨m=k∨m=l) w3 o4 w4) (hS:aU o4 i j k w4 p M'):gJ W o i j k l n w p x da dc o4 w4 M':=by
 obtain⟨m0,m1,m2,m3,m4⟩:=h.mm.ne
 have h0:=gJ.n0 h.mm
 have hr:=(Array.getElem?_eq_some_iff.1 h.re).1
 have hp:=(Array.getElem?_eq_some_iff.1 h.op).1
 refine⟨h.mm,hS,h.marks.step h0 hs,h.step.trans (hs.mono fun m hm=>by omega),(hs.block hp (by rw[h.om];exact h0)).trans h.op,(hs.block hr (by rw[h.rm];omega)).trans h.re,(hs.old _ hp).trans h.om,(hs.old _ hr).trans h.rm⟩
theorem gJ.stays (h:gJ W o i j k l n w p x da dc o1 w3 M) (hs:Step o1 (fun m=>m=i∨m=j∨m=k∨m=l) w3 o4 w4) {b:Nat} (hb:o1 b=0∧b<w3.heap.size):w4.heap[b]? =w3.heap[b]? :=hs.block hb.2 (by rw[hb.1];exact gJ.n0 h.mm)
theorem gJ.Vv (h:gJ W o i j k l n w p x da dc o1 w3 M):o1 w.heap.size=0∧w.heap.size<w3.heap.size:=⟨h.om,(Array.getElem?_eq_some_iff.1 h.op).1⟩
theorem gJ.Ig (h:gJ W o i j k l n w p x da dc o1 w3 M):∃t,w3.cell? ⟨p,0,none⟩=some (ptr t)∧dN o1 j w3 t M.t∧∀o4 w4 T',Step o1 (fun m=>m=j) w3 o4 w4→dN o4 j w4 t T'→gJ W o i j k l n w p x da dc o4 w4 (M.tr T')∧w4.heap[p]? =w3.heap[p]? :=by
 obtain⟨t,s,v,h1,h2,h3,h4⟩:=h.st.at_
 obtain⟨n1,n2,n3,n4,n5,n6,n7,n8,n9,n10⟩:=h.mm.mm.ne
 exact⟨t,(fH h1).1,h3,fun o4 w4 T' hs hT=>⟨h.turn (hs.mono fun m hm=> .inr (.inl hm)) (aU.tree (M:=M) h.mm.mm h1 h2 h4 h.st.own h.st.low hs hT),hs.block h.st.low (by rw[h.st.own];exact fun e=>n8 e.symm)⟩⟩
theorem gJ.Sm (h:gJ W o i j k l n w p x da dc o1 w3 M):∃t s,w3.cell? ⟨p,0,none⟩=some (ptr t)∧w3.cell? ⟨p,1,none⟩=some (ptr s)∧w3.cell? ⟨p,2,none⟩=some (.int .u64 M.now)∧dN o1 j w3 t M.t∧dR o1 i w3 s M.s∧∀o4 w4 S',Step o1 (fun m=>m=i) w3 o4 w4→dR o4 i w4 s S'→gJ W o i j k l n w p x da dc o4 w4 (M.sn S')∧w4.heap[p]? =w3.heap[p]? :=by
 obtain⟨t,s,v,h1,h2,h3,h4⟩:=h.st.at_
 obtain⟨n1,n2,n3,n4,n5,n6,n7,n8,n9,n10⟩:=h.mm.mm.ne
 obtain⟨z0,z1,z2,-⟩:=fH h1
 refine⟨t,s,z0,z1,z2,h3,h2,fun o4 w4 S' hs hS=> ?_⟩
 have h0:¬(fun m=>m=i) 0:=fun e=>n1 e.symm
 have hpb:=hs.block h.st.low (by rw[h.st.own];exact fun e=>n6 e.symm)
 exact⟨h.turn (hs.mono fun m hm=> .inl hm) ⟨⟨t,s,v,hpb.trans h1,hS,h3.step h0 (fun e=>n5 e.symm) hs,fun q hq=>(h4 q hq).step h0 hs⟩,(hs.old p h.st.low).trans h.st.own,Nat.lt_of_lt_of_le h.st.low hs.keep.size⟩,hpb⟩
theorem gJ.clock (h:gJ W o i j k l n w p x da dc o1 w3 M) (u:Int):w3.cell? ⟨p,2,none⟩=some (.int .u64 M.now)∧w3.frozen? ⟨p,2,none⟩=false∧gJ W o i j k l n w p x da dc o1 (w3.setCell ⟨p,2,none⟩ (.int .u64 u)) {M with now:=u}:=by
 obtain⟨n1,n2,n3,n4,n5,n6,n7,n8,n9,n10⟩:=h.mm.mm.ne
 obtain⟨t,s,v,h1,h2,h3,h4⟩:=h.st.at_
 obtain⟨z0,z1,z2,z3,z4⟩:=fH h1
 have hz:=size_set w3 ⟨p,2,none⟩ (.int .u64 u)
 have hst:Step o1 (fun m=>m=k) w3 o1 (w3.setCell ⟨p,2,none⟩ (.int .u64 u)):=⟨fun _ _=>rfl,fun b hb hn=>absurd (h.marks.new b hn).2 (by omega),(Keeps.lN w3 ⟨p,2,none⟩ _).mono fun x _ hx=>by
  have hx:x=p:=hx
  rw[hx];exact h.st.own⟩
 have h0:¬(fun m=>m=k) 0:=fun e=>n3 e.symm
 refine⟨z2,z4 2,h.turn (hst.mono fun m hm=> .inr (.inr (.inl hm))) ⟨⟨t,s,v,?_,h2.step h0 n6 hst,h3.step h0 n8 hst,fun m hm=>(h4 m hm).step h0 hst⟩,h.st.own,by have:=h.st.low;omega⟩⟩
 have:=aX (i:=2) (v:= .int .u64 u) h1
 rw[TP]at this
 exact this
theorem Kt (a b:Int) (w:World):Calls Tryz.prog 50 #[.int .u64 a, .int .u64 b] w fun e w'=>e= .returned (.int .u64 (oV a b))∧Below w.heap.size w w':=by
 refine(Nj a b w).mono ?_
 rintro e w' ⟨rfl,rfl⟩
 refine⟨?_,Below.refl _ _⟩
 have:yj a b=oV a b:=by
  unfold yj oV
  split
  ·by_cases h:a≤b
   ·rw[if_pos h];omega
   ·rw[if_neg h];omega
  ·rfl
 rw[this]
theorem gJ.fin {r:rO} {Ch Ci:Option Addr} {Cj Ck:Nat} (h:gJ W o i j k l n w p x da dc o1 w4 M) (hs:jC w4 (w.heap.size+1) (b_ r Ch Ci Cj Ck) 36 w5) (k1:r.data.length≤Cj) (k2:r.names.length≤Ck) (k3:aj (Free o1 w4) w4 Ch r.data.length (r.data.map bv)) (k4:aO (Free o1 w4) w4 Ci r.names.length (r.names.map strOf)):
  jO o i j k l n w p (r,M) (.returned (.agg (b_ r Ch Ci Cj Ck))) w5:=by
 obtain⟨m0,m1,m2,m3,m4⟩:=h.mm.ne
 have hst:=hs.step h.marks h.rm
 have hn0:¬(fun m=>m=n) 0:=fun e=>m0 e.symm
 exact⟨o1,⟨_,rfl,Ch,Ci,Cj,Ck,rfl,k1,k2,k3.free hn0 hst,⟨k4.row.free hn0 hst,k4.short⟩⟩,h.step.trans (hst.mono fun m hm=> .inr (.inr (.inr (.inr hm)))),h.st.step hn0 (fun e=>m1 e.symm) (fun e=>m2 e.symm) (fun e=>m3 e.symm) hst⟩
theorem gJ.wK {r:rO} (h:gJ W o i j k l n w p x da dc o1 w4 M) (hs:jC w4 (w.heap.size+1) (b_ r none none 0 0) 36 w5) (k1:r.data=[]) (k2:r.names=[]):
  jO o i j k l n w p (r,M) (.returned (.agg (b_ r none none 0 0))) w5:=
 h.fin hs (by rw[k1];exact Nat.le_refl _) (by rw[k2];exact Nat.le_refl _) (by rw[k1];exact aj.nil _ _ _) (by rw[k2];exact jM _ _)
end
theorem gM {a:List UInt8} (h:(av a).2=0):(av a).1.length≤8:=by
 cases a with
 |nil=>simp[av]
 |cons c r=>
  by_cases hc:c≠47
  ·simp[av,hc]
  ·by_cases hr:r=[]
   ·have e:av (c::r)=([],0):=by unfold av;dsimp only;rw[if_neg hc,if_pos hr]
    rw[e];simp
   ·by_cases hf:bG (dA r)=0
    ·have e:av (c::r)=(dA r,0):=by unfold av;dsimp only;rw[if_neg hc,if_neg hr,if_pos hf]
     rw[e]
     unfold bG at hf
     split at hf
     ·simp at hf
     ·split at hf
      ·simp at hf
      ·dsimp only;omega
    ·have e:av (c::r)=([],bG (dA r)):=by unfold av;dsimp only;rw[if_neg hc,if_neg hr,if_neg hf]
     rw[e];simp
theorem aR.zero {w w':World} {e:Ending} {er:Int} (h:aR w ([],er) e w'):∃a c,e= .returned (.tuple #[.slice a 0 c, .int .i64 er])∧Below w.heap.size w w':=by
 obtain⟨a,n,c,vs,h1,h2,h3,h4,h5,h6⟩:=h
 have h2:n=0:=h2
 subst h2
 exact⟨a,c,h1,h6⟩
structure Ui (B:Nat) (w:World) (b off:Nat) (q:List Nm) (a0:Option Addr) (c0:Nat):Prop where
 cell:w.cell? ⟨b,off,none⟩=some (.slice a0 q.length c0)
 cap:q.length≤c0
 strs:aO (fun b=>B≤b∧b<w.heap.size) w a0 q.length (q.map strOf)
theorem aR.one {w w':World} {e:Ending} {q:List Nm} (h:aR w ([q],0) e w'):∃b off c a0 c0,e= .returned (.tuple #[.slice (some ⟨b,off,none⟩) 1 c, .int .i64 0])∧w.heap.size≤b∧b<w'.heap.size∧Ui w.heap.size w' b off q a0 c0∧Below w.heap.size w w':=by
 obtain⟨a,n,c,vs,h1,h2,h3,h4,h5,h6⟩:=h
 have h2:n=1:=h2
 subst h2
 obtain⟨b,off,rfl,hb,hbw,hc⟩:=h4.at_ (by omega)
 obtain⟨u,hu,a0,c0,rfl,k2,k3⟩:=h5.2 0 q rfl
 exact⟨b,off,c,a0,c0,h1,hb.1,hbw,⟨(hc 0 (by omega)).trans hu,k2,k3⟩,h6⟩
theorem aR.two {w w':World} {e:Ending} {q q':List Nm} (h:aR w ([q,q'],0) e w'):∃b off c a0 c0 a1 c1,e= .returned (.tuple #[.slice (some ⟨b,off,none⟩) 2 c, .int .i64 0])∧w.heap.size≤b∧b<w'.heap.size∧Ui w.heap.size w' b off q a0 c0∧Ui w.heap.size w' b (off+1) q' a1 c1∧Below w.heap.size w w':=by
 obtain⟨a,n,c,vs,h1,h2,h3,h4,h5,h6⟩:=h
 have h2:n=2:=h2
 subst h2
 obtain⟨b,off,rfl,hb,hbw,hc⟩:=h4.at_ (by omega)
 obtain⟨u,hu,a0,c0,rfl,k2,k3⟩:=h5.2 0 q rfl
 obtain⟨u',hu',a1,c1,rfl,k2',k3'⟩:=h5.2 1 q' rfl
 exact⟨b,off,c,a0,c0,a1,c1,h1,hb.1,hbw,⟨(hc 0 (by omega)).trans hu,k2,k3⟩,⟨(hc 1 (by omega)).trans hu',k2',k3'⟩,h6⟩
theorem je {a:List UInt8} (h:(cB [a]).2=0):cB [a]=([(av a).1],0)∧(av a).2=0:=by
 unfold cB at h⊢
 by_cases h1:(av a).2≠0
 ·rw[if_pos h1]at h;exact absurd h h1
 ·rw[if_neg h1]
  exact⟨rfl,by simpa using h1⟩
theorem yC {a b:List UInt8} (h:(cB [a,b]).2=0):cB [a,b]=([(av a).1,(av b).1],0)∧(av a).2=0∧(av b).2=0:=by
 by_cases h1:(av a).2=0
 ·by_cases h2:(av b).2=0
  ·refine⟨sF _ fun t ht=> ?_,h1,h2⟩
   simp only[List.mem_cons,List.not_mem_nil,or_false]at ht
   rcases ht with rfl|rfl
   ·exact h1
   ·exact h2
  ·rw[eG [a,b] 1 b rfl (fun x hx=>by simp at hx;rw[hx];exact h1) h2]at h
   exact absurd h h2
 ·rw[eG [a,b] 0 a rfl (fun x hx=>by simp at hx) h1]at h
  exact absurd h h1
theorem bK {P:Program} {ops:Array Oper} {o:Oper} {a:Act} {w:World} {K:Act→World→Prop} {Q:Exit→Act→World→Prop} {E:Prop} (hgd:o.guard=none) (ty:TypeId) (x y:Operand) (ho:o.op= .store ty x y)
  (g:Nat) (cells:Array Value) (hx:a.eval x= .pointer (some ⟨g,0,none⟩)) (hy:a.eval y= .agg cells)
  (old:Array Value) (hg:w.heap[g]? =some (.cells old ty (0,0))) (hi:(P.info? ty).map (·.size)=some cells.size)
  (hold:old.size=cells.size) (h1:cells.all (·.oneCell')=true)
  (h:∀w',jC w g cells ty w'→K (a.put o.dst undef) w'):if Region.wanted o (yielded ops a.tmps)=true then Oper.wp P o a w K Q else E:=by
 have hw:Region.wanted o (yielded ops a.tmps)=true:=by simp[Region.wanted,hgd]
 rw[if_pos hw]
 exact wp_store_row ty x y ho g cells hx hy ty old hg hi hold h1 (h _ (yg w g old cells ty hg))
end Go.Proofs.YtmabllemjkcobaaGreatDoor
