/- package state: paths, kinds 9 11 12 13. package state: paths, kinds 7 10 4 5 6. -/
import Derived.Test.YtmabllemjkcobaaGreatDoorM34
namespace Go.Proofs.YtmabllemjkcobaaGreatDoor
open Go.ChangeShapes Go.WideShapes Go.ChangeAt Go.RowKit
set_option linter.unusedVariables false
set_option linter.unusedSimpArgs false
set_option maxRecDepth 100000 in
set_option maxHeartbeats 8000000 in
theorem NG (p:Nat) (w:World) (pa aA:List UInt8) (fd at_ n au sn:Int) (dt:List UInt8) (da:Option Addr) (dc:Nat) (hpa:pa.length<4294967281) (hto:aA.length<4294967281) (m:Int) (hm:w.cell? ⟨0,0,none⟩=some (.int .i64 m)):
  Calls Tryz.prog 36 #[ptr p, .agg (opC ⟨9,pa,aA,fd,at_,n,au,sn,dt⟩ da dc)] w (aR w (cB [pa])):=by
 obtain⟨ie,he,hz0,hz1,hz2⟩:=info_parts eH
 have gq:0<w.heap.size:=World.block_lt_of_cell? w _ hm
 obtain⟨w1,hw1⟩:∃w1,w1=(w.alloc (.cells (opC ⟨9,pa,aA,fd,at_,n,au,sn,dt⟩ da dc) 28)).alloc (.cells #[.string (strOf pa)] 9):=⟨_,rfl⟩
 have hb1:Below w.heap.size w w1:=by rw[hw1];exact(wall w _).trans ((wall _ _).mono (by simp))
 have hbl:w1.heap[w.heap.size+1]? =some (.cells #[.string (strOf pa)] 9 (0,0)):=by
  rw[hw1]
  have:=(MapKept.heap_alloc (w.alloc (.cells (opC ⟨9,pa,aA,fd,at_,n,au,sn,dt⟩ da dc) 28)) (.cells #[.string (strOf pa)] 9)).1
  rw[World.size_alloc]at this
  exact this
 have hrow:∀k t,([pa]:List (List UInt8))[k]? =some t→w1.cell? ⟨w.heap.size+1,k,none⟩=some (.string (strOf t))∧t.length<4294967281:=fun k t h=>by
  rcases k with _|k
  ·obtain rfl:pa=t:=by simpa using h
   exact⟨by simp[World.cell?,hbl],hpa⟩
  ·simp at h
 have hbz:w.heap.size+1<w1.heap.size:=(Array.getElem?_eq_some_iff.1 hbl).1
 clear hbl
 have dS:=Lib.hid hrow
 have HB1:=Lib.hid hb1
 have HW:=Lib.hid hw1
 have HM:=Lib.hid hm
 have oK:=Lib.hid gq
 clear hrow hb1 hw1 hm hpa hto gq
 unfold opC at HW
 unfold opC
 go_enter Tryz.func36,Tryz.ntmps36
 go_wp2_with fail
 rw[←HW.out]
 clear HW
 obtain⟨ts,hts⟩:∃ts:List (List UInt8),ts=[pa]:=⟨_,rfl⟩
 have hnn:ts.length=1:=by rw[hts];rfl
 rw[←hts]at dS
 have oh:=Lib.hid hts
 clear hts
 have gF:=Lib.hid hnn
 clear hnn
 go_loopw [7,44] (fun v iv wr=>∃k:Nat,k≤1∧iv= .int .i64 k∧aG w1 ts k v wr) (fun _ iv _=>1-(intOf iv).toNat)
 case atStart=>exact⟨0,by omega,rfl,aG.start ts (Below.refl _ _)⟩
 case round=>
  obtain⟨k,hk,rfl,hrel⟩:=hrel
  have HR:=Lib.hid hrel
  clear hrel
  by_cases hlt:k<1
  ·obtain⟨t,ht⟩:∃t,ts[k]? =some t:=⟨ts[k]'(by rw[gF.out];exact hlt),List.getElem?_eq_getElem _⟩
   obtain⟨hc1,hts⟩:=dS.out k t ht
   obtain⟨vals,hown,hpv,hbw,hok⟩:=HR.out
   have hcell:=(hbw.cell (p:=⟨w.heap.size+1,k,none⟩) hbz).trans hc1
   have hmr:wr.cell? ⟨0,0,none⟩=some (.int .i64 m):=((HB1.out.trans (hbw.mono HB1.out.size)).cell (p:=⟨0,0,none⟩) oK.out).trans HM.out
   have t_:=Lib.hid (iP (strOf t) wr (by rw[dJ];exact hts) m hmr)
   have HT:=Lib.hid ht
   have HOWN:=Lib.hid hown
   have Bz:=Lib.hid hpv
   have nA:=Lib.hid hbw
   have fu:=Lib.hid hok
   have i0:(0:Int)≤(k:Int):=by omega
   have i1:(k:Int)<1:=by omega
   have hsz:=hbw.size
   have hd:decide ((k:Int)<1)=true:=by simpa using i1
   obtain⟨ao,co,rfl,hac⟩:=bF hown
   clear hown hpv hbw hok ht hc1 hts hmr
   go_wp2_with fail
   (with_reducible refine t_.out.mono ?_)
   rintro e w2 ⟨a,len,cap,ss,rfl,hlc,hbs,hS,hb2⟩
   rw[show(strOf t).data.toList=t from rfl]at hbs⊢
   have y9:=Lib.hid hbs
   have HS:=Lib.hid hS
   have HB2:=Lib.hid hb2
   have uw:=Lib.hid hlc
   have hs2:=hb2.size
   clear t_ hbs hS hb2 hlc
   obtain⟨z,hz⟩:∃z,z=(av t).2:=⟨_,rfl⟩
   rw[←hz]
   by_cases hzz:z=0
   ·have HZ:=Lib.hid (hz.symm.trans hzz)
    subst hzz
    clear hz
    go_wp2_with (at_builtin;refine aW (by rfl) _ _ 69 (by rfl) w1.heap.size 32 ie (.slice none 0 0) 24 Tryz.underlying69 he hz0 hz1 hz2 rfl _ _ _ (by rfl) (cK HOWN.out fun b hb _=>((wall w2 (.cells #[.slice a len cap] 32)).block b (by have:=dY HOWN.out b hb;omega)).trans (HB2.out.block b (dY HOWN.out b hb))) (some ⟨w2.heap.size,0,none⟩) 1 1 [.slice a len cap] (by rfl) (jm _ _) (by intro u hu;rw[List.mem_singleton.1 hu];rfl) (by unfold maxLen;omega) (by omega) (by simp;omega) ?_;intro A' c' w4 fI dw _ kI)
    have HN:=Lib.hid (aG.next HOWN.out Bz.out nA.out fu.out HT.out HZ.out uw.out y9.out HS.out HB2.out (wall w2 _) fI dw kI)
    have QM:=Lib.hid dw
    clear fI dw kI
    go_roundw
    case rel=>
     exact⟨k+1,by omega,by go_num,HN.out⟩
    case measure=>simp[intOf];omega
   ·have HZ:=Lib.hid hzz
    have hz2:(z !=0)=true:=by simpa using hzz
    have uf:=Lib.hid hz
    clear hzz hz
    go_wp2_with fail
    go_ret2
    rw[←oh.out,eG ts k t HT.out fu.out (by rw[←uf.out];exact HZ.out)]
    exact⟨none,0,0,[],by rw[uf.out];rfl,rfl,Nat.le_refl _,aj.nil _ _ _,⟨rfl,fun i q hq=>by simp at hq⟩,HB1.out.trans ((nA.out.trans (HB2.out.mono nA.out.size)).mono HB1.out.size)⟩
  ·have hd:decide ((k:Int)<1)=false:=by simp;omega
   obtain rfl:k=1:=by omega
   obtain⟨a,c,vals,rfl,hac,hown⟩:=HR.out.one
   clear hown
   go_wp2_with fail
   go_ret2
   have hd:=HR.out
   rw[←gF.out]at hd
   have:=hd.done
   rw[gF.out,oh.out]at this
   exact this.up HB1.out
set_option maxRecDepth 100000 in
set_option maxHeartbeats 8000000 in
theorem Kg (p:Nat) (w:World) (pa aA:List UInt8) (fd at_ n au sn:Int) (dt:List UInt8) (da:Option Addr) (dc:Nat) (hpa:pa.length<4294967281) (hto:aA.length<4294967281) (m:Int) (hm:w.cell? ⟨0,0,none⟩=some (.int .i64 m)):
  Calls Tryz.prog 36 #[ptr p, .agg (opC ⟨11,pa,aA,fd,at_,n,au,sn,dt⟩ da dc)] w (aR w (cB [pa])):=by
 obtain⟨ie,he,hz0,hz1,hz2⟩:=info_parts eH
 have gq:0<w.heap.size:=World.block_lt_of_cell? w _ hm
 obtain⟨w1,hw1⟩:∃w1,w1=(w.alloc (.cells (opC ⟨11,pa,aA,fd,at_,n,au,sn,dt⟩ da dc) 28)).alloc (.cells #[.string (strOf pa)] 9):=⟨_,rfl⟩
 have hb1:Below w.heap.size w w1:=by rw[hw1];exact(wall w _).trans ((wall _ _).mono (by simp))
 have hbl:w1.heap[w.heap.size+1]? =some (.cells #[.string (strOf pa)] 9 (0,0)):=by
  rw[hw1]
  have:=(MapKept.heap_alloc (w.alloc (.cells (opC ⟨11,pa,aA,fd,at_,n,au,sn,dt⟩ da dc) 28)) (.cells #[.string (strOf pa)] 9)).1
  rw[World.size_alloc]at this
  exact this
 have hrow:∀k t,([pa]:List (List UInt8))[k]? =some t→w1.cell? ⟨w.heap.size+1,k,none⟩=some (.string (strOf t))∧t.length<4294967281:=fun k t h=>by
  rcases k with _|k
  ·obtain rfl:pa=t:=by simpa using h
   exact⟨by simp[World.cell?,hbl],hpa⟩
  ·simp at h
 have hbz:w.heap.size+1<w1.heap.size:=(Array.getElem?_eq_some_iff.1 hbl).1
 clear hbl
 have dS:=Lib.hid hrow
 have HB1:=Lib.hid hb1
 have HW:=Lib.hid hw1
 have HM:=Lib.hid hm
 have oK:=Lib.hid gq
 clear hrow hb1 hw1 hm hpa hto gq
 unfold opC at HW
 unfold opC
 go_enter Tryz.func36,Tryz.ntmps36
 go_wp2_with fail
 rw[←HW.out]
 clear HW
 obtain⟨ts,hts⟩:∃ts:List (List UInt8),ts=[pa]:=⟨_,rfl⟩
 have hnn:ts.length=1:=by rw[hts];rfl
 rw[←hts]at dS
 have oh:=Lib.hid hts
 clear hts
 have gF:=Lib.hid hnn
 clear hnn
 go_loopw [7,44] (fun v iv wr=>∃k:Nat,k≤1∧iv= .int .i64 k∧aG w1 ts k v wr) (fun _ iv _=>1-(intOf iv).toNat)
 case atStart=>exact⟨0,by omega,rfl,aG.start ts (Below.refl _ _)⟩
 case round=>
  obtain⟨k,hk,rfl,hrel⟩:=hrel
  have HR:=Lib.hid hrel
  clear hrel
  by_cases hlt:k<1
  ·obtain⟨t,ht⟩:∃t,ts[k]? =some t:=⟨ts[k]'(by rw[gF.out];exact hlt),List.getElem?_eq_getElem _⟩
   obtain⟨hc1,hts⟩:=dS.out k t ht
   obtain⟨vals,hown,hpv,hbw,hok⟩:=HR.out
   have hcell:=(hbw.cell (p:=⟨w.heap.size+1,k,none⟩) hbz).trans hc1
   have hmr:wr.cell? ⟨0,0,none⟩=some (.int .i64 m):=((HB1.out.trans (hbw.mono HB1.out.size)).cell (p:=⟨0,0,none⟩) oK.out).trans HM.out
   have t_:=Lib.hid (iP (strOf t) wr (by rw[dJ];exact hts) m hmr)
   have HT:=Lib.hid ht
   have HOWN:=Lib.hid hown
   have Bz:=Lib.hid hpv
   have nA:=Lib.hid hbw
   have fu:=Lib.hid hok
   have i0:(0:Int)≤(k:Int):=by omega
   have i1:(k:Int)<1:=by omega
   have hsz:=hbw.size
   have hd:decide ((k:Int)<1)=true:=by simpa using i1
   obtain⟨ao,co,rfl,hac⟩:=bF hown
   clear hown hpv hbw hok ht hc1 hts hmr
   go_wp2_with fail
   (with_reducible refine t_.out.mono ?_)
   rintro e w2 ⟨a,len,cap,ss,rfl,hlc,hbs,hS,hb2⟩
   rw[show(strOf t).data.toList=t from rfl]at hbs⊢
   have y9:=Lib.hid hbs
   have HS:=Lib.hid hS
   have HB2:=Lib.hid hb2
   have uw:=Lib.hid hlc
   have hs2:=hb2.size
   clear t_ hbs hS hb2 hlc
   obtain⟨z,hz⟩:∃z,z=(av t).2:=⟨_,rfl⟩
   rw[←hz]
   by_cases hzz:z=0
   ·have HZ:=Lib.hid (hz.symm.trans hzz)
    subst hzz
    clear hz
    go_wp2_with (at_builtin;refine aW (by rfl) _ _ 69 (by rfl) w1.heap.size 32 ie (.slice none 0 0) 24 Tryz.underlying69 he hz0 hz1 hz2 rfl _ _ _ (by rfl) (cK HOWN.out fun b hb _=>((wall w2 (.cells #[.slice a len cap] 32)).block b (by have:=dY HOWN.out b hb;omega)).trans (HB2.out.block b (dY HOWN.out b hb))) (some ⟨w2.heap.size,0,none⟩) 1 1 [.slice a len cap] (by rfl) (jm _ _) (by intro u hu;rw[List.mem_singleton.1 hu];rfl) (by unfold maxLen;omega) (by omega) (by simp;omega) ?_;intro A' c' w4 fI dw _ kI)
    have HN:=Lib.hid (aG.next HOWN.out Bz.out nA.out fu.out HT.out HZ.out uw.out y9.out HS.out HB2.out (wall w2 _) fI dw kI)
    have QM:=Lib.hid dw
    clear fI dw kI
    go_roundw
    case rel=>
     exact⟨k+1,by omega,by go_num,HN.out⟩
    case measure=>simp[intOf];omega
   ·have HZ:=Lib.hid hzz
    have hz2:(z !=0)=true:=by simpa using hzz
    have uf:=Lib.hid hz
    clear hzz hz
    go_wp2_with fail
    go_ret2
    rw[←oh.out,eG ts k t HT.out fu.out (by rw[←uf.out];exact HZ.out)]
    exact⟨none,0,0,[],by rw[uf.out];rfl,rfl,Nat.le_refl _,aj.nil _ _ _,⟨rfl,fun i q hq=>by simp at hq⟩,HB1.out.trans ((nA.out.trans (HB2.out.mono nA.out.size)).mono HB1.out.size)⟩
  ·have hd:decide ((k:Int)<1)=false:=by simp;omega
   obtain rfl:k=1:=by omega
   obtain⟨a,c,vals,rfl,hac,hown⟩:=HR.out.one
   clear hown
   go_wp2_with fail
   go_ret2
   have hd:=HR.out
   rw[←gF.out]at hd
   have:=hd.done
   rw[gF.out,oh.out]at this
   exact this.up HB1.out
set_option maxRecDepth 100000 in
set_option maxHeartbeats 8000000 in
theorem Kh (p:Nat) (w:World) (pa aA:List UInt8) (fd at_ n au sn:Int) (dt:List UInt8) (da:Option Addr) (dc:Nat) (hpa:pa.length<4294967281) (hto:aA.length<4294967281) (m:Int) (hm:w.cell? ⟨0,0,none⟩=some (.int .i64 m)):
  Calls Tryz.prog 36 #[ptr p, .agg (opC ⟨12,pa,aA,fd,at_,n,au,sn,dt⟩ da dc)] w (aR w (cB [pa])):=by
 obtain⟨ie,he,hz0,hz1,hz2⟩:=info_parts eH
 have gq:0<w.heap.size:=World.block_lt_of_cell? w _ hm
 obtain⟨w1,hw1⟩:∃w1,w1=(w.alloc (.cells (opC ⟨12,pa,aA,fd,at_,n,au,sn,dt⟩ da dc) 28)).alloc (.cells #[.string (strOf pa)] 9):=⟨_,rfl⟩
 have hb1:Below w.heap.size w w1:=by rw[hw1];exact(wall w _).trans ((wall _ _).mono (by simp))
 have hbl:w1.heap[w.heap.size+1]? =some (.cells #[.string (strOf pa)] 9 (0,0)):=by
  rw[hw1]
  have:=(MapKept.heap_alloc (w.alloc (.cells (opC ⟨12,pa,aA,fd,at_,n,au,sn,dt⟩ da dc) 28)) (.cells #[.string (strOf pa)] 9)).1
  rw[World.size_alloc]at this
  exact this
 have hrow:∀k t,([pa]:List (List UInt8))[k]? =some t→w1.cell? ⟨w.heap.size+1,k,none⟩=some (.string (strOf t))∧t.length<4294967281:=fun k t h=>by
  rcases k with _|k
  ·obtain rfl:pa=t:=by simpa using h
   exact⟨by simp[World.cell?,hbl],hpa⟩
  ·simp at h
 have hbz:w.heap.size+1<w1.heap.size:=(Array.getElem?_eq_some_iff.1 hbl).1
 clear hbl
 have dS:=Lib.hid hrow
 have HB1:=Lib.hid hb1
 have HW:=Lib.hid hw1
 have HM:=Lib.hid hm
 have oK:=Lib.hid gq
 clear hrow hb1 hw1 hm hpa hto gq
 unfold opC at HW
 unfold opC
 go_enter Tryz.func36,Tryz.ntmps36
 go_wp2_with fail
 rw[←HW.out]
 clear HW
 obtain⟨ts,hts⟩:∃ts:List (List UInt8),ts=[pa]:=⟨_,rfl⟩
 have hnn:ts.length=1:=by rw[hts];rfl
 rw[←hts]at dS
 have oh:=Lib.hid hts
 clear hts
 have gF:=Lib.hid hnn
 clear hnn
 go_loopw [7,44] (fun v iv wr=>∃k:Nat,k≤1∧iv= .int .i64 k∧aG w1 ts k v wr) (fun _ iv _=>1-(intOf iv).toNat)
 case atStart=>exact⟨0,by omega,rfl,aG.start ts (Below.refl _ _)⟩
 case round=>
  obtain⟨k,hk,rfl,hrel⟩:=hrel
  have HR:=Lib.hid hrel
  clear hrel
  by_cases hlt:k<1
  ·obtain⟨t,ht⟩:∃t,ts[k]? =some t:=⟨ts[k]'(by rw[gF.out];exact hlt),List.getElem?_eq_getElem _⟩
   obtain⟨hc1,hts⟩:=dS.out k t ht
   obtain⟨vals,hown,hpv,hbw,hok⟩:=HR.out
   have hcell:=(hbw.cell (p:=⟨w.heap.size+1,k,none⟩) hbz).trans hc1
   have hmr:wr.cell? ⟨0,0,none⟩=some (.int .i64 m):=((HB1.out.trans (hbw.mono HB1.out.size)).cell (p:=⟨0,0,none⟩) oK.out).trans HM.out
   have t_:=Lib.hid (iP (strOf t) wr (by rw[dJ];exact hts) m hmr)
   have HT:=Lib.hid ht
   have HOWN:=Lib.hid hown
   have Bz:=Lib.hid hpv
   have nA:=Lib.hid hbw
   have fu:=Lib.hid hok
   have i0:(0:Int)≤(k:Int):=by omega
   have i1:(k:Int)<1:=by omega
   have hsz:=hbw.size
   have hd:decide ((k:Int)<1)=true:=by simpa using i1
   obtain⟨ao,co,rfl,hac⟩:=bF hown
   clear hown hpv hbw hok ht hc1 hts hmr
   go_wp2_with fail
   (with_reducible refine t_.out.mono ?_)
   rintro e w2 ⟨a,len,cap,ss,rfl,hlc,hbs,hS,hb2⟩
   rw[show(strOf t).data.toList=t from rfl]at hbs⊢
   have y9:=Lib.hid hbs
   have HS:=Lib.hid hS
   have HB2:=Lib.hid hb2
   have uw:=Lib.hid hlc
   have hs2:=hb2.size
   clear t_ hbs hS hb2 hlc
   obtain⟨z,hz⟩:∃z,z=(av t).2:=⟨_,rfl⟩
   rw[←hz]
   by_cases hzz:z=0
   ·have HZ:=Lib.hid (hz.symm.trans hzz)
    subst hzz
    clear hz
    go_wp2_with (at_builtin;refine aW (by rfl) _ _ 69 (by rfl) w1.heap.size 32 ie (.slice none 0 0) 24 Tryz.underlying69 he hz0 hz1 hz2 rfl _ _ _ (by rfl) (cK HOWN.out fun b hb _=>((wall w2 (.cells #[.slice a len cap] 32)).block b (by have:=dY HOWN.out b hb;omega)).trans (HB2.out.block b (dY HOWN.out b hb))) (some ⟨w2.heap.size,0,none⟩) 1 1 [.slice a len cap] (by rfl) (jm _ _) (by intro u hu;rw[List.mem_singleton.1 hu];rfl) (by unfold maxLen;omega) (by omega) (by simp;omega) ?_;intro A' c' w4 fI dw _ kI)
    have HN:=Lib.hid (aG.next HOWN.out Bz.out nA.out fu.out HT.out HZ.out uw.out y9.out HS.out HB2.out (wall w2 _) fI dw kI)
    have QM:=Lib.hid dw
    clear fI dw kI
    go_roundw
    case rel=>
     exact⟨k+1,by omega,by go_num,HN.out⟩
    case measure=>simp[intOf];omega
   ·have HZ:=Lib.hid hzz
    have hz2:(z !=0)=true:=by simpa using hzz
    have uf:=Lib.hid hz
    clear hzz hz
    go_wp2_with fail
    go_ret2
    rw[←oh.out,eG ts k t HT.out fu.out (by rw[←uf.out];exact HZ.out)]
    exact⟨none,0,0,[],by rw[uf.out];rfl,rfl,Nat.le_refl _,aj.nil _ _ _,⟨rfl,fun i q hq=>by simp at hq⟩,HB1.out.trans ((nA.out.trans (HB2.out.mono nA.out.size)).mono HB1.out.size)⟩
  ·have hd:decide ((k:Int)<1)=false:=by simp;omega
   obtain rfl:k=1:=by omega
   obtain⟨a,c,vals,rfl,hac,hown⟩:=HR.out.one
   clear hown
   go_wp2_with fail
   go_ret2
   have hd:=HR.out
   rw[←gF.out]at hd
   have:=hd.done
   rw[gF.out,oh.out]at this
   exact this.up HB1.out
set_option maxRecDepth 100000 in
set_option maxHeartbeats 8000000 in
theorem Ki (p:Nat) (w:World) (pa aA:List UInt8) (fd at_ n au sn:Int) (dt:List UInt8) (da:Option Addr) (dc:Nat) (hpa:pa.length<4294967281) (hto:aA.length<4294967281) (m:Int) (hm:w.cell? ⟨0,0,none⟩=some (.int .i64 m)):
  Calls Tryz.prog 36 #[ptr p, .agg (opC ⟨13,pa,aA,fd,at_,n,au,sn,dt⟩ da dc)] w (aR w (cB [pa])):=by
 obtain⟨ie,he,hz0,hz1,hz2⟩:=info_parts eH
 have gq:0<w.heap.size:=World.block_lt_of_cell? w _ hm
 obtain⟨w1,hw1⟩:∃w1,w1=(w.alloc (.cells (opC ⟨13,pa,aA,fd,at_,n,au,sn,dt⟩ da dc) 28)).alloc (.cells #[.string (strOf pa)] 9):=⟨_,rfl⟩
 have hb1:Below w.heap.size w w1:=by rw[hw1];exact(wall w _).trans ((wall _ _).mono (by simp))
 have hbl:w1.heap[w.heap.size+1]? =some (.cells #[.string (strOf pa)] 9 (0,0)):=by
  rw[hw1]
  have:=(MapKept.heap_alloc (w.alloc (.cells (opC ⟨13,pa,aA,fd,at_,n,au,sn,dt⟩ da dc) 28)) (.cells #[.string (strOf pa)] 9)).1
  rw[World.size_alloc]at this
  exact this
 have hrow:∀k t,([pa]:List (List UInt8))[k]? =some t→w1.cell? ⟨w.heap.size+1,k,none⟩=some (.string (strOf t))∧t.length<4294967281:=fun k t h=>by
  rcases k with _|k
  ·obtain rfl:pa=t:=by simpa using h
   exact⟨by simp[World.cell?,hbl],hpa⟩
  ·simp at h
 have hbz:w.heap.size+1<w1.heap.size:=(Array.getElem?_eq_some_iff.1 hbl).1
 clear hbl
 have dS:=Lib.hid hrow
 have HB1:=Lib.hid hb1
 have HW:=Lib.hid hw1
 have HM:=Lib.hid hm
 have oK:=Lib.hid gq
 clear hrow hb1 hw1 hm hpa hto gq
 unfold opC at HW
 unfold opC
 go_enter Tryz.func36,Tryz.ntmps36
 go_wp2_with fail
 rw[←HW.out]
 clear HW
 obtain⟨ts,hts⟩:∃ts:List (List UInt8),ts=[pa]:=⟨_,rfl⟩
 have hnn:ts.length=1:=by rw[hts];rfl
 rw[←hts]at dS
 have oh:=Lib.hid hts
 clear hts
 have gF:=Lib.hid hnn
 clear hnn
 go_loopw [7,44] (fun v iv wr=>∃k:Nat,k≤1∧iv= .int .i64 k∧aG w1 ts k v wr) (fun _ iv _=>1-(intOf iv).toNat)
 case atStart=>exact⟨0,by omega,rfl,aG.start ts (Below.refl _ _)⟩
 case round=>
  obtain⟨k,hk,rfl,hrel⟩:=hrel
  have HR:=Lib.hid hrel
  clear hrel
  by_cases hlt:k<1
  ·obtain⟨t,ht⟩:∃t,ts[k]? =some t:=⟨ts[k]'(by rw[gF.out];exact hlt),List.getElem?_eq_getElem _⟩
   obtain⟨hc1,hts⟩:=dS.out k t ht
   obtain⟨vals,hown,hpv,hbw,hok⟩:=HR.out
   have hcell:=(hbw.cell (p:=⟨w.heap.size+1,k,none⟩) hbz).trans hc1
   have hmr:wr.cell? ⟨0,0,none⟩=some (.int .i64 m):=((HB1.out.trans (hbw.mono HB1.out.size)).cell (p:=⟨0,0,none⟩) oK.out).trans HM.out
   have t_:=Lib.hid (iP (strOf t) wr (by rw[dJ];exact hts) m hmr)
   have HT:=Lib.hid ht
   have HOWN:=Lib.hid hown
   have Bz:=Lib.hid hpv
   have nA:=Lib.hid hbw
   have fu:=Lib.hid hok
   have i0:(0:Int)≤(k:Int):=by omega
   have i1:(k:Int)<1:=by omega
   have hsz:=hbw.size
   have hd:decide ((k:Int)<1)=true:=by simpa using i1
   obtain⟨ao,co,rfl,hac⟩:=bF hown
   clear hown hpv hbw hok ht hc1 hts hmr
   go_wp2_with fail
   (with_reducible refine t_.out.mono ?_)
   rintro e w2 ⟨a,len,cap,ss,rfl,hlc,hbs,hS,hb2⟩
   rw[show(strOf t).data.toList=t from rfl]at hbs⊢
   have y9:=Lib.hid hbs
   have HS:=Lib.hid hS
   have HB2:=Lib.hid hb2
   have uw:=Lib.hid hlc
   have hs2:=hb2.size
   clear t_ hbs hS hb2 hlc
   obtain⟨z,hz⟩:∃z,z=(av t).2:=⟨_,rfl⟩
   rw[←hz]
   by_cases hzz:z=0
   ·have HZ:=Lib.hid (hz.symm.trans hzz)
    subst hzz
    clear hz
    go_wp2_with (at_builtin;refine aW (by rfl) _ _ 69 (by rfl) w1.heap.size 32 ie (.slice none 0 0) 24 Tryz.underlying69 he hz0 hz1 hz2 rfl _ _ _ (by rfl) (cK HOWN.out fun b hb _=>((wall w2 (.cells #[.slice a len cap] 32)).block b (by have:=dY HOWN.out b hb;omega)).trans (HB2.out.block b (dY HOWN.out b hb))) (some ⟨w2.heap.size,0,none⟩) 1 1 [.slice a len cap] (by rfl) (jm _ _) (by intro u hu;rw[List.mem_singleton.1 hu];rfl) (by unfold maxLen;omega) (by omega) (by simp;omega) ?_;intro A' c' w4 fI dw _ kI)
    have HN:=Lib.hid (aG.next HOWN.out Bz.out nA.out fu.out HT.out HZ.out uw.out y9.out HS.out HB2.out (wall w2 _) fI dw kI)
    have QM:=Lib.hid dw
    clear fI dw kI
    go_roundw
    case rel=>
     exact⟨k+1,by omega,by go_num,HN.out⟩
    case measure=>simp[intOf];omega
   ·have HZ:=Lib.hid hzz
    have hz2:(z !=0)=true:=by simpa using hzz
    have uf:=Lib.hid hz
    clear hzz hz
    go_wp2_with fail
    go_ret2
    rw[←oh.out,eG ts k t HT.out fu.out (by rw[←uf.out];exact HZ.out)]
    exact⟨none,0,0,[],by rw[uf.out];rfl,rfl,Nat.le_refl _,aj.nil _ _ _,⟨rfl,fun i q hq=>by simp at hq⟩,HB1.out.trans ((nA.out.trans (HB2.out.mono nA.out.size)).mono HB1.out.size)⟩
  ·have hd:decide ((k:Int)<1)=false:=by simp;omega
   obtain rfl:k=1:=by omega
   obtain⟨a,c,vals,rfl,hac,hown⟩:=HR.out.one
   clear hown
   go_wp2_with fail
   go_ret2
   have hd:=HR.out
   rw[←gF.out]at hd
   have:=hd.done
   rw[gF.out,oh.out]at this
   exact this.up HB1.out
set_option maxRecDepth 100000 in
set_option maxHeartbeats 8000000 in
theorem NH (p:Nat) (w:World) (pa aA:List UInt8) (fd at_ n au sn:Int) (dt:List UInt8) (da:Option Addr) (dc:Nat) (hpa:pa.length<4294967281) (hto:aA.length<4294967281) (m:Int) (hm:w.cell? ⟨0,0,none⟩=some (.int .i64 m)):
  Calls Tryz.prog 36 #[ptr p, .agg (opC ⟨7,pa,aA,fd,at_,n,au,sn,dt⟩ da dc)] w (aR w (cB [pa,aA])):=by
 obtain⟨ie,he,hz0,hz1,hz2⟩:=info_parts eH
 have gq:0<w.heap.size:=World.block_lt_of_cell? w _ hm
 obtain⟨w1,hw1⟩:∃w1,w1=(w.alloc (.cells (opC ⟨7,pa,aA,fd,at_,n,au,sn,dt⟩ da dc) 28)).alloc (.cells #[.string (strOf pa), .string (strOf aA)] 9):=⟨_,rfl⟩
 have hb1:Below w.heap.size w w1:=by rw[hw1];exact(wall w _).trans ((wall _ _).mono (by simp))
 have hbl:w1.heap[w.heap.size+1]? =some (.cells #[.string (strOf pa), .string (strOf aA)] 9 (0,0)):=by
  rw[hw1]
  have:=(MapKept.heap_alloc (w.alloc (.cells (opC ⟨7,pa,aA,fd,at_,n,au,sn,dt⟩ da dc) 28)) (.cells #[.string (strOf pa), .string (strOf aA)] 9)).1
  rw[World.size_alloc]at this
  exact this
 have hrow:∀k t,([pa,aA]:List (List UInt8))[k]? =some t→w1.cell? ⟨w.heap.size+1,k,none⟩=some (.string (strOf t))∧t.length<4294967281:=fun k t h=>by
  rcases k with _|k
  ·obtain rfl:pa=t:=by simpa using h
   exact⟨by simp[World.cell?,hbl],hpa⟩
  ·rcases k with _|k
   ·obtain rfl:aA=t:=by simpa using h
    exact⟨by simp[World.cell?,hbl],hto⟩
   ·simp at h
 have hbz:w.heap.size+1<w1.heap.size:=(Array.getElem?_eq_some_iff.1 hbl).1
 clear hbl
 have dS:=Lib.hid hrow
 have HB1:=Lib.hid hb1
 have HW:=Lib.hid hw1
 have HM:=Lib.hid hm
 have oK:=Lib.hid gq
 clear hrow hb1 hw1 hm hpa hto gq
 unfold opC at HW
 unfold opC
 go_enter Tryz.func36,Tryz.ntmps36
 go_wp2_with fail
 rw[←HW.out]
 clear HW
 obtain⟨ts,hts⟩:∃ts:List (List UInt8),ts=[pa,aA]:=⟨_,rfl⟩
 have hnn:ts.length=2:=by rw[hts];rfl
 rw[←hts]at dS
 have oh:=Lib.hid hts
 clear hts
 have gF:=Lib.hid hnn
 clear hnn
 go_loopw [7,44] (fun v iv wr=>∃k:Nat,k≤2∧iv= .int .i64 k∧aG w1 ts k v wr) (fun _ iv _=>2-(intOf iv).toNat)
 case atStart=>exact⟨0,by omega,rfl,aG.start ts (Below.refl _ _)⟩
 case round=>
  obtain⟨k,hk,rfl,hrel⟩:=hrel
  have HR:=Lib.hid hrel
  clear hrel
  by_cases hlt:k<2
  ·obtain⟨t,ht⟩:∃t,ts[k]? =some t:=⟨ts[k]'(by rw[gF.out];exact hlt),List.getElem?_eq_getElem _⟩
   obtain⟨hc1,hts⟩:=dS.out k t ht
   obtain⟨vals,hown,hpv,hbw,hok⟩:=HR.out
   have hcell:=(hbw.cell (p:=⟨w.heap.size+1,k,none⟩) hbz).trans hc1
   have hmr:wr.cell? ⟨0,0,none⟩=some (.int .i64 m):=((HB1.out.trans (hbw.mono HB1.out.size)).cell (p:=⟨0,0,none⟩) oK.out).trans HM.out
   have t_:=Lib.hid (iP (strOf t) wr (by rw[dJ];exact hts) m hmr)
   have HT:=Lib.hid ht
   have HOWN:=Lib.hid hown
   have Bz:=Lib.hid hpv
   have nA:=Lib.hid hbw
   have fu:=Lib.hid hok
   have i0:(0:Int)≤(k:Int):=by omega
   have i1:(k:Int)<2:=by omega
   have hsz:=hbw.size
   have hd:decide ((k:Int)<2)=true:=by simpa using i1
   obtain⟨ao,co,rfl,hac⟩:=bF hown
   clear hown hpv hbw hok ht hc1 hts hmr
   go_wp2_with fail
   (with_reducible refine t_.out.mono ?_)
   rintro e w2 ⟨a,len,cap,ss,rfl,hlc,hbs,hS,hb2⟩
   rw[show(strOf t).data.toList=t from rfl]at hbs⊢
   have y9:=Lib.hid hbs
   have HS:=Lib.hid hS
   have HB2:=Lib.hid hb2
   have uw:=Lib.hid hlc
   have hs2:=hb2.size
   clear t_ hbs hS hb2 hlc
   obtain⟨z,hz⟩:∃z,z=(av t).2:=⟨_,rfl⟩
   rw[←hz]
   by_cases hzz:z=0
   ·have HZ:=Lib.hid (hz.symm.trans hzz)
    subst hzz
    clear hz
    go_wp2_with (at_builtin;refine aW (by rfl) _ _ 69 (by rfl) w1.heap.size 32 ie (.slice none 0 0) 24 Tryz.underlying69 he hz0 hz1 hz2 rfl _ _ _ (by rfl) (cK HOWN.out fun b hb _=>((wall w2 (.cells #[.slice a len cap] 32)).block b (by have:=dY HOWN.out b hb;omega)).trans (HB2.out.block b (dY HOWN.out b hb))) (some ⟨w2.heap.size,0,none⟩) 1 1 [.slice a len cap] (by rfl) (jm _ _) (by intro u hu;rw[List.mem_singleton.1 hu];rfl) (by unfold maxLen;omega) (by omega) (by simp;omega) ?_;intro A' c' w4 fI dw _ kI)
    have HN:=Lib.hid (aG.next HOWN.out Bz.out nA.out fu.out HT.out HZ.out uw.out y9.out HS.out HB2.out (wall w2 _) fI dw kI)
    have QM:=Lib.hid dw
    clear fI dw kI
    go_roundw
    case rel=>
     exact⟨k+1,by omega,by go_num,HN.out⟩
    case measure=>simp[intOf];omega
   ·have HZ:=Lib.hid hzz
    have hz2:(z !=0)=true:=by simpa using hzz
    have uf:=Lib.hid hz
    clear hzz hz
    go_wp2_with fail
    go_ret2
    rw[←oh.out,eG ts k t HT.out fu.out (by rw[←uf.out];exact HZ.out)]
    exact⟨none,0,0,[],by rw[uf.out];rfl,rfl,Nat.le_refl _,aj.nil _ _ _,⟨rfl,fun i q hq=>by simp at hq⟩,HB1.out.trans ((nA.out.trans (HB2.out.mono nA.out.size)).mono HB1.out.size)⟩
  ·have hd:decide ((k:Int)<2)=false:=by simp;omega
   obtain rfl:k=2:=by omega
   obtain⟨a,c,vals,rfl,hac,hown⟩:=HR.out.one
   clear hown
   go_wp2_with fail
   go_ret2
   have hd:=HR.out
   rw[←gF.out]at hd
   have:=hd.done
   rw[gF.out,oh.out]at this
   exact this.up HB1.out
set_option maxRecDepth 100000 in
set_option maxHeartbeats 8000000 in
theorem Kj (p:Nat) (w:World) (pa aA:List UInt8) (fd at_ n au sn:Int) (dt:List UInt8) (da:Option Addr) (dc:Nat) (hpa:pa.length<4294967281) (hto:aA.length<4294967281) (m:Int) (hm:w.cell? ⟨0,0,none⟩=some (.int .i64 m)):
  Calls Tryz.prog 36 #[ptr p, .agg (opC ⟨10,pa,aA,fd,at_,n,au,sn,dt⟩ da dc)] w (aR w (cB [pa,aA])):=by
 obtain⟨ie,he,hz0,hz1,hz2⟩:=info_parts eH
 have gq:0<w.heap.size:=World.block_lt_of_cell? w _ hm
 obtain⟨w1,hw1⟩:∃w1,w1=(w.alloc (.cells (opC ⟨10,pa,aA,fd,at_,n,au,sn,dt⟩ da dc) 28)).alloc (.cells #[.string (strOf pa), .string (strOf aA)] 9):=⟨_,rfl⟩
 have hb1:Below w.heap.size w w1:=by rw[hw1];exact(wall w _).trans ((wall _ _).mono (by simp))
 have hbl:w1.heap[w.heap.size+1]? =some (.cells #[.string (strOf pa), .string (strOf aA)] 9 (0,0)):=by
  rw[hw1]
  have:=(MapKept.heap_alloc (w.alloc (.cells (opC ⟨10,pa,aA,fd,at_,n,au,sn,dt⟩ da dc) 28)) (.cells #[.string (strOf pa), .string (strOf aA)] 9)).1
  rw[World.size_alloc]at this
  exact this
 have hrow:∀k t,([pa,aA]:List (List UInt8))[k]? =some t→w1.cell? ⟨w.heap.size+1,k,none⟩=some (.string (strOf t))∧t.length<4294967281:=fun k t h=>by
  rcases k with _|k
  ·obtain rfl:pa=t:=by simpa using h
   exact⟨by simp[World.cell?,hbl],hpa⟩
  ·rcases k with _|k
   ·obtain rfl:aA=t:=by simpa using h
    exact⟨by simp[World.cell?,hbl],hto⟩
   ·simp at h
 have hbz:w.heap.size+1<w1.heap.size:=(Array.getElem?_eq_some_iff.1 hbl).1
 clear hbl
 have dS:=Lib.hid hrow
 have HB1:=Lib.hid hb1
 have HW:=Lib.hid hw1
 have HM:=Lib.hid hm
 have oK:=Lib.hid gq
 clear hrow hb1 hw1 hm hpa hto gq
 unfold opC at HW
 unfold opC
 go_enter Tryz.func36,Tryz.ntmps36
 go_wp2_with fail
 rw[←HW.out]
 clear HW
 obtain⟨ts,hts⟩:∃ts:List (List UInt8),ts=[pa,aA]:=⟨_,rfl⟩
 have hnn:ts.length=2:=by rw[hts];rfl
 rw[←hts]at dS
 have oh:=Lib.hid hts
 clear hts
 have gF:=Lib.hid hnn
 clear hnn
 go_loopw [7,44] (fun v iv wr=>∃k:Nat,k≤2∧iv= .int .i64 k∧aG w1 ts k v wr) (fun _ iv _=>2-(intOf iv).toNat)
 case atStart=>exact⟨0,by omega,rfl,aG.start ts (Below.refl _ _)⟩
 case round=>
  obtain⟨k,hk,rfl,hrel⟩:=hrel
  have HR:=Lib.hid hrel
  clear hrel
  by_cases hlt:k<2
  ·obtain⟨t,ht⟩:∃t,ts[k]? =some t:=⟨ts[k]'(by rw[gF.out];exact hlt),List.getElem?_eq_getElem _⟩
   obtain⟨hc1,hts⟩:=dS.out k t ht
   obtain⟨vals,hown,hpv,hbw,hok⟩:=HR.out
   have hcell:=(hbw.cell (p:=⟨w.heap.size+1,k,none⟩) hbz).trans hc1
   have hmr:wr.cell? ⟨0,0,none⟩=some (.int .i64 m):=((HB1.out.trans (hbw.mono HB1.out.size)).cell (p:=⟨0,0,none⟩) oK.out).trans HM.out
   have t_:=Lib.hid (iP (strOf t) wr (by rw[dJ];exact hts) m hmr)
   have HT:=Lib.hid ht
   have HOWN:=Lib.hid hown
   have Bz:=Lib.hid hpv
   have nA:=Lib.hid hbw
   have fu:=Lib.hid hok
   have i0:(0:Int)≤(k:Int):=by omega
   have i1:(k:Int)<2:=by omega
   have hsz:=hbw.size
   have hd:decide ((k:Int)<2)=true:=by simpa using i1
   obtain⟨ao,co,rfl,hac⟩:=bF hown
   clear hown hpv hbw hok ht hc1 hts hmr
   go_wp2_with fail
   (with_reducible refine t_.out.mono ?_)
   rintro e w2 ⟨a,len,cap,ss,rfl,hlc,hbs,hS,hb2⟩
   rw[show(strOf t).data.toList=t from rfl]at hbs⊢
   have y9:=Lib.hid hbs
   have HS:=Lib.hid hS
   have HB2:=Lib.hid hb2
   have uw:=Lib.hid hlc
   have hs2:=hb2.size
   clear t_ hbs hS hb2 hlc
   obtain⟨z,hz⟩:∃z,z=(av t).2:=⟨_,rfl⟩
   rw[←hz]
   by_cases hzz:z=0
   ·have HZ:=Lib.hid (hz.symm.trans hzz)
    subst hzz
    clear hz
    go_wp2_with (at_builtin;refine aW (by rfl) _ _ 69 (by rfl) w1.heap.size 32 ie (.slice none 0 0) 24 Tryz.underlying69 he hz0 hz1 hz2 rfl _ _ _ (by rfl) (cK HOWN.out fun b hb _=>((wall w2 (.cells #[.slice a len cap] 32)).block b (by have:=dY HOWN.out b hb;omega)).trans (HB2.out.block b (dY HOWN.out b hb))) (some ⟨w2.heap.size,0,none⟩) 1 1 [.slice a len cap] (by rfl) (jm _ _) (by intro u hu;rw[List.mem_singleton.1 hu];rfl) (by unfold maxLen;omega) (by omega) (by simp;omega) ?_;intro A' c' w4 fI dw _ kI)
    have HN:=Lib.hid (aG.next HOWN.out Bz.out nA.out fu.out HT.out HZ.out uw.out y9.out HS.out HB2.out (wall w2 _) fI dw kI)
    have QM:=Lib.hid dw
    clear fI dw kI
    go_roundw
    case rel=>
     exact⟨k+1,by omega,by go_num,HN.out⟩
    case measure=>simp[intOf];omega
   ·have HZ:=Lib.hid hzz
    have hz2:(z !=0)=true:=by simpa using hzz
    have uf:=Lib.hid hz
    clear hzz hz
    go_wp2_with fail
    go_ret2
    rw[←oh.out,eG ts k t HT.out fu.out (by rw[←uf.out];exact HZ.out)]
    exact⟨none,0,0,[],by rw[uf.out];rfl,rfl,Nat.le_refl _,aj.nil _ _ _,⟨rfl,fun i q hq=>by simp at hq⟩,HB1.out.trans ((nA.out.trans (HB2.out.mono nA.out.size)).mono HB1.out.size)⟩
  ·have hd:decide ((k:Int)<2)=false:=by simp;omega
   obtain rfl:k=2:=by omega
   obtain⟨a,c,vals,rfl,hac,hown⟩:=HR.out.one
   clear hown
   go_wp2_with fail
   go_ret2
   have hd:=HR.out
   rw[←gF.out]at hd
   have:=hd.done
   rw[gF.out,oh.out]at this
   exact this.up HB1.out
set_option maxRecDepth 100000 in
set_option maxHeartbeats 8000000 in
theorem NI (p:Nat) (w:World) (pa aA:List UInt8) (fd at_ n au sn:Int) (dt:List UInt8) (da:Option Addr) (dc:Nat) (hpa:pa.length<4294967281) (hto:aA.length<4294967281) (m:Int) (hm:w.cell? ⟨0,0,none⟩=some (.int .i64 m)):
  Calls Tryz.prog 36 #[ptr p, .agg (opC ⟨4,pa,aA,fd,at_,n,au,sn,dt⟩ da dc)] w (aR w (cB [])):=by
 obtain⟨ie,he,hz0,hz1,hz2⟩:=info_parts eH
 have gq:0<w.heap.size:=World.block_lt_of_cell? w _ hm
 obtain⟨w1,hw1⟩:∃w1,w1=w.alloc (.cells (opC ⟨4,pa,aA,fd,at_,n,au,sn,dt⟩ da dc) 28):=⟨_,rfl⟩
 have hb1:Below w.heap.size w w1:=by rw[hw1];exact wall w _
 have hrow:∀k t,([]:List (List UInt8))[k]? =some t→w1.cell? ⟨w.heap.size+1,k,none⟩=some (.string (strOf t))∧t.length<4294967281:=fun k t h=>by simp at h
 have dS:=Lib.hid hrow
 have HB1:=Lib.hid hb1
 have HW:=Lib.hid hw1
 have HM:=Lib.hid hm
 have oK:=Lib.hid gq
 clear hrow hb1 hw1 hm hpa hto gq
 unfold opC at HW
 unfold opC
 go_enter Tryz.func36,Tryz.ntmps36
 go_wp2_with fail
 rw[←HW.out]
 clear HW
 obtain⟨ts,hts⟩:∃ts:List (List UInt8),ts=[]:=⟨_,rfl⟩
 have hnn:ts.length=0:=by rw[hts];rfl
 rw[←hts]at dS
 have oh:=Lib.hid hts
 clear hts
 have gF:=Lib.hid hnn
 clear hnn
 go_loopw [7,44] (fun v iv wr=>∃k:Nat,k≤0∧iv= .int .i64 k∧aG w1 ts k v wr) (fun _ iv _=>0-(intOf iv).toNat)
 case atStart=>exact⟨0,by omega,rfl,aG.start ts (Below.refl _ _)⟩
 case round=>
  obtain⟨k,hk,rfl,hrel⟩:=hrel
  have HR:=Lib.hid hrel
  clear hrel
  obtain rfl:k=0:=by omega
  obtain⟨a,c,vals,rfl,hac,hown⟩:=HR.out.one
  go_wp2_with fail
  go_ret2
  have hd:=HR.out
  rw[←gF.out]at hd
  have:=hd.done
  rw[gF.out,oh.out]at this
  exact this.up HB1.out
set_option maxRecDepth 100000 in
set_option maxHeartbeats 8000000 in
theorem NJ (p:Nat) (w:World) (pa aA:List UInt8) (fd at_ n au sn:Int) (dt:List UInt8) (da:Option Addr) (dc:Nat) (hpa:pa.length<4294967281) (hto:aA.length<4294967281) (m:Int) (hm:w.cell? ⟨0,0,none⟩=some (.int .i64 m)):
  Calls Tryz.prog 36 #[ptr p, .agg (opC ⟨5,pa,aA,fd,at_,n,au,sn,dt⟩ da dc)] w (aR w (cB [])):=by
 obtain⟨ie,he,hz0,hz1,hz2⟩:=info_parts eH
 have gq:0<w.heap.size:=World.block_lt_of_cell? w _ hm
 obtain⟨w1,hw1⟩:∃w1,w1=w.alloc (.cells (opC ⟨5,pa,aA,fd,at_,n,au,sn,dt⟩ da dc) 28):=⟨_,rfl⟩
 have hb1:Below w.heap.size w w1:=by rw[hw1];exact wall w _
 have hrow:∀k t,([]:List (List UInt8))[k]? =some t→w1.cell? ⟨w.heap.size+1,k,none⟩=some (.string (strOf t))∧t.length<4294967281:=fun k t h=>by simp at h
 have dS:=Lib.hid hrow
 have HB1:=Lib.hid hb1
 have HW:=Lib.hid hw1
 have HM:=Lib.hid hm
 have oK:=Lib.hid gq
 clear hrow hb1 hw1 hm hpa hto gq
 unfold opC at HW
 unfold opC
 go_enter Tryz.func36,Tryz.ntmps36
 go_wp2_with fail
 rw[←HW.out]
 clear HW
 obtain⟨ts,hts⟩:∃ts:List (List UInt8),ts=[]:=⟨_,rfl⟩
 have hnn:ts.length=0:=by rw[hts];rfl
 rw[←hts]at dS
 have oh:=Lib.hid hts
 clear hts
 have gF:=Lib.hid hnn
 clear hnn
 go_loopw [7,44] (fun v iv wr=>∃k:Nat,k≤0∧iv= .int .i64 k∧aG w1 ts k v wr) (fun _ iv _=>0-(intOf iv).toNat)
 case atStart=>exact⟨0,by omega,rfl,aG.start ts (Below.refl _ _)⟩
 case round=>
  obtain⟨k,hk,rfl,hrel⟩:=hrel
  have HR:=Lib.hid hrel
  clear hrel
  obtain rfl:k=0:=by omega
  obtain⟨a,c,vals,rfl,hac,hown⟩:=HR.out.one
  go_wp2_with fail
  go_ret2
  have hd:=HR.out
  rw[←gF.out]at hd
  have:=hd.done
  rw[gF.out,oh.out]at this
  exact this.up HB1.out
set_option maxRecDepth 100000 in
set_option maxHeartbeats 8000000 in
theorem NK (p:Nat) (w:World) (pa aA:List UInt8) (fd at_ n au sn:Int) (dt:List UInt8) (da:Option Addr) (dc:Nat) (hpa:pa.length<4294967281) (hto:aA.length<4294967281) (m:Int) (hm:w.cell? ⟨0,0,none⟩=some (.int .i64 m)):
  Calls Tryz.prog 36 #[ptr p, .agg (opC ⟨6,pa,aA,fd,at_,n,au,sn,dt⟩ da dc)] w (aR w (cB [])):=by
 obtain⟨ie,he,hz0,hz1,hz2⟩:=info_parts eH
 have gq:0<w.heap.size:=World.block_lt_of_cell? w _ hm
 obtain⟨w1,hw1⟩:∃w1,w1=w.alloc (.cells (opC ⟨6,pa,aA,fd,at_,n,au,sn,dt⟩ da dc) 28):=⟨_,rfl⟩
 have hb1:Below w.heap.size w w1:=by rw[hw1];exact wall w _
 have hrow:∀k t,([]:List (List UInt8))[k]? =some t→w1.cell? ⟨w.heap.size+1,k,none⟩=some (.string (strOf t))∧t.length<4294967281:=fun k t h=>by simp at h
 have dS:=Lib.hid hrow
 have HB1:=Lib.hid hb1
 have HW:=Lib.hid hw1
 have HM:=Lib.hid hm
 have oK:=Lib.hid gq
 clear hrow hb1 hw1 hm hpa hto gq
 unfold opC at HW
 unfold opC
 go_enter Tryz.func36,Tryz.ntmps36
 go_wp2_with fail
 rw[←HW.out]
 clear HW
 obtain⟨ts,hts⟩:∃ts:List (List UInt8),ts=[]:=⟨_,rfl⟩
 have hnn:ts.length=0:=by rw[hts];rfl
 rw[←hts]at dS
 have oh:=Lib.hid hts
 clear hts
 have gF:=Lib.hid hnn
 clear hnn
 go_loopw [7,44] (fun v iv wr=>∃k:Nat,k≤0∧iv= .int .i64 k∧aG w1 ts k v wr) (fun _ iv _=>0-(intOf iv).toNat)
 case atStart=>exact⟨0,by omega,rfl,aG.start ts (Below.refl _ _)⟩
 case round=>
  obtain⟨k,hk,rfl,hrel⟩:=hrel
  have HR:=Lib.hid hrel
  clear hrel
  obtain rfl:k=0:=by omega
  obtain⟨a,c,vals,rfl,hac,hown⟩:=HR.out.one
  go_wp2_with fail
  go_ret2
  have hd:=HR.out
  rw[←gF.out]at hd
  have:=hd.done
  rw[gF.out,oh.out]at this
  exact this.up HB1.out
end Go.Proofs.YtmabllemjkcobaaGreatDoor
