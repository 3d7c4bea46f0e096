/- permafrostkeep.Tame: the walk. -/
import Derived.Test.YtmabllemjkcobaaGreatDoorM41
namespace Go.Proofs.YtmabllemjkcobaaGreatDoor
open Go.ChangeShapes Go.WideShapes Go.ChangeAt Go.RowKit
set_option linter.unusedVariables false
set_option linter.unusedSimpArgs false
set_option maxRecDepth 100000 in
set_option maxHeartbeats 16000000 in
theorem Oh {S:Nat→Prop} (w:World) (kd:Int) (pa aA:List UInt8) (fd at_ nn au sn:Int) (dt:List UInt8) (hx:D6 ⟨kd,pa,aA,fd,at_,nn,au,sn,dt⟩) (da:Option Addr) (dc:Nat) (hdc:dt.length≤dc) (hda:aj S w da dt.length (dt.map bv)):
  Calls Tryz.prog 10 #[.agg (opC ⟨kd,pa,aA,fd,at_,nn,au,sn,dt⟩ da dc)] w (BJ S w ⟨kd,pa,aA,fd,at_,nn,au,sn,dt⟩ da):=by
 obtain⟨w2,hw2⟩:∃w2,w2=(w.alloc (.cells (opC ⟨kd,pa,aA,fd,at_,nn,au,sn,dt⟩ da dc) 28)).alloc (.cells #[.int .i64 0, .string ⟨#[]⟩, .string ⟨#[]⟩, .int .i64 0, .int .i64 0, .int .i64 0, .int .u64 0, .int .i64 0, .slice none 0 0] 28):=⟨_,rfl⟩
 have hb2:Below w.heap.size w w2:=by rw[hw2];exact((Below.refl _ _).alloc (Nat.le_refl _) _).trans (((Below.refl _ _).alloc (Nat.le_refl _) _).mono (by simp))
 have hop:w2.heap[w.heap.size]? =some (.cells (opC ⟨kd,pa,aA,fd,at_,nn,au,sn,dt⟩ da dc) 28 (0,0)):=by
  rw[hw2]
  exact(((Below.refl _ _).alloc (Nat.le_refl _) _).block _ (by simp)).trans (MapKept.heap_alloc w _).1
 have hre:w2.heap[w.heap.size+1]? =some (.cells #[.int .i64 0, .string ⟨#[]⟩, .string ⟨#[]⟩, .int .i64 0, .int .i64 0, .int .i64 0, .int .u64 0, .int .i64 0, .slice none 0 0] 28 (0,0)):=by
  rw[hw2]
  have:=(MapKept.heap_alloc (w.alloc (.cells (opC ⟨kd,pa,aA,fd,at_,nn,au,sn,dt⟩ da dc) 28)) (.cells #[.int .i64 0, .string ⟨#[]⟩, .string ⟨#[]⟩, .int .i64 0, .int .i64 0, .int .i64 0, .int .u64 0, .int .i64 0, .slice none 0 0] 28)).1
  rw[World.size_alloc]at this
  exact this
 have jl:Hid (∀w3,Below w2.heap.size w2 w3→(fun w'=>w'.cell? ⟨w.heap.size,0,none⟩=some (.int .i64 kd)∧w'.cell? ⟨w.heap.size,1,none⟩=some (.string (strOf pa))∧w'.cell? ⟨w.heap.size,2,none⟩=some (.string (strOf aA))∧w'.cell? ⟨w.heap.size,3,none⟩=some (.int .i64 fd)∧w'.cell? ⟨w.heap.size,4,none⟩=some (.int .i64 at_)∧w'.cell? ⟨w.heap.size,5,none⟩=some (.int .i64 nn)∧w'.cell? ⟨w.heap.size,6,none⟩=some (.int .u64 au)∧w'.cell? ⟨w.heap.size,7,none⟩=some (.int .i64 sn)∧w'.cell? ⟨w.heap.size,8,none⟩=some (.slice da dt.length dc)) w3):=fun w3 hb=>by
  have:=(hb.block _ (Array.getElem?_eq_some_iff.1 hop).1).trans hop
  unfold opC at this
  refine⟨?_,?_,?_,?_,?_,?_,?_,?_,?_⟩<;>simp[World.cell?,this]
 have HX:=Lib.hid hx
 have mg:=Lib.hid hre
 have wV:=Lib.hid hop
 have HB2:=Lib.hid hb2
 have HW2:=Lib.hid hw2
 have j_:=Lib.hid hda
 have UA:=Lib.hid hdc
 have HZ1:Hid ((Lit.int .i64 (IntKind.i64.wrap (((strOf pa).size:Int)+at_.tmod 7))).wf=true):=wm _
 have HZ2:Hid ((Lit.int .i64 (IntKind.i64.wrap (((strOf aA).size:Int)+nn.tmod 7))).wf=true):=wm _
 obtain⟨d40,UC⟩:∃d40,d40=dt.take 40:=⟨_,rfl⟩
 have HD4:=Lib.hid UC
 have rJ:Hid (∀w:World,Calls Tryz.prog 28 #[.slice da dt.length dc, .int .i64 40] w fun e w'=>e= .returned (.slice da d40.length dc)∧w=w'):=fun w=>by
  have:=Q7 da dt.length dc 40 hdc (by omega) hda.small w
  rw[show min dt.length 40=d40.length by rw[UC,List.length_take,Nat.min_comm]]at this
  exact this
 clear hx hre hb2 hop hda hdc UC
 unfold opC at HW2
 unfold opC
 go_enter Tryz.func10,Tryz.ntmps10
 go_wp2_with fail
 rw[←HW2.out]
 clear HW2 hw2
 refine wp_region_noPanic ?_
 refine bH (last:=38) (S:=(fun w'=>w'.cell? ⟨w.heap.size,0,none⟩=some (.int .i64 kd)∧w'.cell? ⟨w.heap.size,1,none⟩=some (.string (strOf pa))∧w'.cell? ⟨w.heap.size,2,none⟩=some (.string (strOf aA))∧w'.cell? ⟨w.heap.size,3,none⟩=some (.int .i64 fd)∧w'.cell? ⟨w.heap.size,4,none⟩=some (.int .i64 at_)∧w'.cell? ⟨w.heap.size,5,none⟩=some (.int .i64 nn)∧w'.cell? ⟨w.heap.size,6,none⟩=some (.int .u64 au)∧w'.cell? ⟨w.heap.size,7,none⟩=some (.int .i64 sn)∧w'.cell? ⟨w.heap.size,8,none⟩=some (.slice da dt.length dc))) (by kernel_rfl) ?_ (fun hS=> ?_)
 ·exact jl.out _ (Below.refl _ _).drew
 refine bf 0 (hS:=hS) (h:= ?_)
 refine bf 1 (hS:=hS) (h:= ?_)
 refine bf 2 (hS:=hS) (h:= ?_)
 refine bf 3 (hS:=hS) (h:= ?_)
 refine bf 4 (hS:=hS) (h:= ?_)
 refine bf 5 (hS:=hS) (h:= ?_)
 refine bf 6 (hS:=hS) (h:= ?_)
 refine bf 7 (hS:=hS) (h:= ?_)
 refine bf 8 (hS:=hS) (h:= ?_)
 refine bf 10 (hS:=hS) (h:= ?_)
 refine bf 11 (hS:=hS) (h:= ?_)
 refine bf 12 (hS:=hS) (h:= ?_)
 refine bf 13 (hS:=hS) (h:= ?_)
 refine bf 14 (hS:=hS) (h:= ?_)
 refine bf 15 (hS:=hS) (h:= ?_)
 refine bf 16 (hS:=hS) (h:= ?_)
 refine bf 18 (hS:=hS) (h:= ?_)
 refine bf 19 (hS:=hS) (h:= ?_)
 refine bf 21 (hS:=hS) (h:= ?_)
 refine bf 22 (hS:=hS) (h:= ?_)
 refine bf 24 (hS:=hS) (h:= ?_)
 refine bf 25 (hS:=hS) (h:= ?_)
 refine bf 27 (hS:=hS) (h:= ?_)
 refine bf 28 (hS:=hS) (h:= ?_)
 refine bf 29 (hS:=hS) (h:= ?_)
 refine bf 30 (hS:=hS) (h:= ?_)
 refine bf 31 (hS:=hS) (h:= ?_)
 refine bf 33 (hS:=hS) (h:= ?_)
 refine bf 34 (hS:=hS) (h:= ?_)
 refine aS (rs:=[9,37]) (by kernel_rfl) (by simp) ?_
 refine ay.cons (o:= ?o1) ?ho1 (fun K hK=> ?ca1) (ay.cons (o:= ?o2) ?ho2 (fun K hK=> ?cb1) ay.nil)
 case ho1=>simp only[List.getElem?_toArray,List.getElem?_cons_succ,List.getElem?_cons_zero];rfl
 case ho2=>simp only[List.getElem?_toArray,List.getElem?_cons_succ,List.getElem?_cons_zero];rfl
 go_simp
 (with_reducible refine(qU _ HZ1.out w2.drew).mono ?_)
 rintro e x2 ⟨s1,hs2,rfl,XD⟩
 have vS:=Lib.hid hs2
 have Kz:Hid (Below w2.heap.size w2 x2):=Lib.hid (Below.trans ((Below.refl w2.heap.size w2).drew) (XD.mono ((Below.refl w2.heap.size w2).drew).size))
 clear hs2 XD
 go_wp2_with fail
 refine hK.out _ _ (fun _=>jl.out _ Kz.out) (fun hS=> ?_)
 replace hS:=hS (by decide)
 clear hK K
 try simp only[Act.put,List.setIfInBounds_toArray,List.set_cons_zero,List.set_cons_succ]
 refine aS (rs:=[17,37]) (by kernel_rfl) (by simp) ?_
 refine ay.cons (o:= ?o3) ?ho3 (fun K hK=> ?ca3) (ay.cons (o:= ?o4) ?ou (fun K hK=> ?cb3) ay.nil)
 case ho3=>simp only[List.getElem?_toArray,List.getElem?_cons_succ,List.getElem?_cons_zero];rfl
 case ou=>simp only[List.getElem?_toArray,List.getElem?_cons_succ,List.getElem?_cons_zero];rfl
 go_simp
 (with_reducible refine(qU _ HZ2.out x2).mono ?_)
 rintro e x4 ⟨s2,hs4,rfl,XE⟩
 have Cm:=Lib.hid hs4
 have mD:Hid (Below w2.heap.size w2 x4):=Lib.hid (Below.trans (Kz.out) (XE.mono (Kz.out).size))
 clear hs4 XE
 go_wp2_with fail
 refine hK.out _ _ (fun _=>jl.out _ mD.out) (fun hS=> ?_)
 replace hS:=hS (by decide)
 clear hK K
 try simp only[Act.put,List.setIfInBounds_toArray,List.set_cons_zero,List.set_cons_succ]
 refine aS (rs:=[20,37]) (by kernel_rfl) (by simp) ?_
 refine ay.cons (o:= ?o5) ?ho5 (fun K hK=> ?ca5) (ay.cons (o:= ?o6) ?ho6 (fun K hK=> ?cb5) ay.nil)
 case ho5=>simp only[List.getElem?_toArray,List.getElem?_cons_succ,List.getElem?_cons_zero];rfl
 case ho6=>simp only[List.getElem?_toArray,List.getElem?_cons_succ,List.getElem?_cons_zero];rfl
 go_simp
 (with_reducible refine(bO fd 0 3 x4 HX.out.wf (by omega) (by omega) (by omega)).mono ?_)
 rintro e _ ⟨rfl,rfl⟩
 go_wp2_with fail
 refine hK.out _ _ (fun _=>jl.out _ (mD.out)) (fun hS=> ?_)
 replace hS:=hS (by decide)
 clear hK K
 try simp only[Act.put,List.setIfInBounds_toArray,List.set_cons_zero,List.set_cons_succ]
 refine aS (rs:=[23,37]) (by kernel_rfl) (by simp) ?_
 refine ay.cons (o:= ?o7) ?ho7 (fun K hK=> ?ca7) (ay.cons (o:= ?o8) ?YG (fun K hK=> ?cb7) ay.nil)
 case ho7=>simp only[List.getElem?_toArray,List.getElem?_cons_succ,List.getElem?_cons_zero];rfl
 case YG=>simp only[List.getElem?_toArray,List.getElem?_cons_succ,List.getElem?_cons_zero];rfl
 go_simp
 (with_reducible refine(bO at_ 0 50 x4 HX.out.wa (by omega) (by omega) (by omega)).mono ?_)
 rintro e _ ⟨rfl,rfl⟩
 go_wp2_with fail
 refine hK.out _ _ (fun _=>jl.out _ (mD.out)) (fun hS=> ?_)
 replace hS:=hS (by decide)
 clear hK K
 try simp only[Act.put,List.setIfInBounds_toArray,List.set_cons_zero,List.set_cons_succ]
 refine aS (rs:=[26,37]) (by kernel_rfl) (by simp) ?_
 refine ay.cons (o:= ?o9) ?ho9 (fun K hK=> ?ca9) (ay.cons (o:= ?o10) ?ho10 (fun K hK=> ?cb9) ay.nil)
 case ho9=>simp only[List.getElem?_toArray,List.getElem?_cons_succ,List.getElem?_cons_zero];rfl
 case ho10=>simp only[List.getElem?_toArray,List.getElem?_cons_succ,List.getElem?_cons_zero];rfl
 go_simp
 (with_reducible refine(bO nn 0 60 x4 HX.out.wn (by omega) (by omega) (by omega)).mono ?_)
 rintro e _ ⟨rfl,rfl⟩
 go_wp2_with fail
 refine hK.out _ _ (fun _=>jl.out _ (mD.out)) (fun hS=> ?_)
 replace hS:=hS (by decide)
 clear hK K
 try simp only[Act.put,List.setIfInBounds_toArray,List.set_cons_zero,List.set_cons_succ]
 refine aS (rs:=[32,37]) (by kernel_rfl) (by simp) ?_
 refine ay.cons (o:= ?o11) ?ho11 (fun K hK=> ?ca11) (ay.cons (o:= ?o12) ?ho12 (fun K hK=> ?cb11) ay.nil)
 case ho11=>simp only[List.getElem?_toArray,List.getElem?_cons_succ,List.getElem?_cons_zero];rfl
 case ho12=>simp only[List.getElem?_toArray,List.getElem?_cons_succ,List.getElem?_cons_zero];rfl
 go_simp
 (with_reducible refine(bO sn 0 4 x4 HX.out.ws (by omega) (by omega) (by omega)).mono ?_)
 rintro e _ ⟨rfl,rfl⟩
 go_wp2_with fail
 refine hK.out _ _ (fun _=>jl.out _ (mD.out)) (fun hS=> ?_)
 replace hS:=hS (by decide)
 clear hK K
 try simp only[Act.put,List.setIfInBounds_toArray,List.set_cons_zero,List.set_cons_succ]
 refine aS (rs:=[35,37]) (by kernel_rfl) (by simp) ?_
 refine ay.cons (o:= ?o13) ?ho13 (fun K hK=> ?ca13) (ay.cons (o:= ?o14) ?ho14 (fun K hK=> ?cb13) ay.nil)
 case ho13=>simp only[List.getElem?_toArray,List.getElem?_cons_succ,List.getElem?_cons_zero];rfl
 case ho14=>simp only[List.getElem?_toArray,List.getElem?_cons_succ,List.getElem?_cons_zero];rfl
 go_simp
 (with_reducible refine(rJ.out x4).mono ?_)
 rintro e _ ⟨rfl,rfl⟩
 go_wp2_with fail
 refine hK.out _ _ (fun _=>jl.out _ (mD.out)) (fun hS=> ?_)
 replace hS:=hS (by decide)
 clear hK K
 try simp only[Act.put,List.setIfInBounds_toArray,List.set_cons_zero,List.set_cons_succ]
 refine bf 36 (hS:=hS) (h:= ?_)
 refine aS (rs:=[37]) (by kernel_rfl) (by simp) ?_
 refine ay.cons (o:= ?o15) ?ho15 (fun K hK=> ?_) ay.nil
 case ho15=>simp only[List.getElem?_toArray,List.getElem?_cons_succ,List.getElem?_cons_zero];rfl
 go_simp
 have Sr:Hid (Below w2.heap.size w2 (x4.alloc (.cells #[.int .i64 0, .string ⟨#[]⟩, .string ⟨#[]⟩, .int .i64 0, .int .i64 0, .int .i64 0, .int .u64 0, .int .i64 0, .slice none 0 0] 28))):=Lib.hid (Below.alloc (mD.out) (Below.size (mD.out)) _)
 have Sv:Hid ((x4.alloc (.cells #[.int .i64 0, .string ⟨#[]⟩, .string ⟨#[]⟩, .int .i64 0, .int .i64 0, .int .i64 0, .int .u64 0, .int .i64 0, .slice none 0 0] 28)).heap[x4.heap.size]? =some (.cells #[.int .i64 0, .string ⟨#[]⟩, .string ⟨#[]⟩, .int .i64 0, .int .i64 0, .int .i64 0, .int .u64 0, .int .i64 0, .slice none 0 0] 28 (0,0))∧w2.heap.size≤x4.heap.size):=Lib.hid ⟨(MapKept.heap_alloc _ _).1,Below.size (mD.out)⟩
 refine hK.out _ _ (fun _=>jl.out _ Sr.out) (fun hS=> ?_)
 replace hS:=hS (by decide)
 clear hK K
 try simp only[Act.put,List.setIfInBounds_toArray,List.set_cons_zero,List.set_cons_succ]
 refine aS (rs:=[38]) (by kernel_rfl) (by simp) ?_
 refine ay.cons (o:= ?o16) ?ho16 (fun K hK=> ?_) ay.nil
 case ho16=>simp only[List.getElem?_toArray,List.getElem?_cons_succ,List.getElem?_cons_zero];rfl
 refine bK rfl 28 _ _ rfl _ (opC ⟨kd,s1,s2,aH fd 0 3,aH at_ 0 50,aH nn 0 60,au.tmod 12,aH sn 0 4,d40⟩ da dc) rfl rfl _ Sv.out.1 jf rfl (iy _ _ _) ?_
 intro w5 hs5
 have pY:=Lib.hid (iU.of HB2.out wV.out mg.out (Sr.out) Sv.out.2 hs5)
 clear hs5
 refine hK.out _ _ (fun h=>absurd rfl h) (fun hS=> ?_)
 clear hS hK K
 try simp only[Act.put,List.setIfInBounds_toArray,List.set_cons_zero,List.set_cons_succ]
 refine aT (by kernel_rfl) ?_ _
 refine NoPanic.normal ?_
 refine(show Hid _ from ?_).out
 rotate_left
 go_simp
 have Oi:Hid (Below w2.heap.size w2 (x4.alloc (.cells #[.int .i64 0, .string ⟨#[]⟩, .string ⟨#[]⟩, .int .i64 0, .int .i64 0, .int .i64 0, .int .u64 0, .int .i64 0, .slice none 0 0] 28))):=Lib.hid (Below.alloc (mD.out) (Below.size (mD.out)) _)
 have Sw:Hid ((x4.alloc (.cells #[.int .i64 0, .string ⟨#[]⟩, .string ⟨#[]⟩, .int .i64 0, .int .i64 0, .int .i64 0, .int .u64 0, .int .i64 0, .slice none 0 0] 28)).heap[x4.heap.size]? =some (.cells #[.int .i64 0, .string ⟨#[]⟩, .string ⟨#[]⟩, .int .i64 0, .int .i64 0, .int .i64 0, .int .u64 0, .int .i64 0, .slice none 0 0] 28 (0,0))∧w2.heap.size≤x4.heap.size):=Lib.hid ⟨(MapKept.heap_alloc _ _).1,Below.size (mD.out)⟩
 refine hK.out _ _ (fun _=>jl.out _ Oi.out) (fun hS=> ?_)
 replace hS:=hS (by decide)
 clear hK K
 try simp only[Act.put,List.setIfInBounds_toArray,List.set_cons_zero,List.set_cons_succ]
 refine jF 35 (h:=fun K hK=> ?_)
 go_simp
 (with_reducible refine(rJ.out (x4.alloc (.cells #[.int .i64 0, .string ⟨#[]⟩, .string ⟨#[]⟩, .int .i64 0, .int .i64 0, .int .i64 0, .int .u64 0, .int .i64 0, .slice none 0 0] 28))).mono ?_)
 rintro e _ ⟨rfl,rfl⟩
 go_wp2_with fail
 refine hK.out _ _ (fun _=>jl.out _ (Oi.out)) (fun hS=> ?_)
 replace hS:=hS (by decide)
 clear hK K
 try simp only[Act.put,List.setIfInBounds_toArray,List.set_cons_zero,List.set_cons_succ]
 refine bf 36 (hS:=hS) (h:= ?_)
 refine aS (rs:=[38]) (by kernel_rfl) (by simp) ?_
 refine ay.cons (o:= ?o17) ?ho17 (fun K hK=> ?_) ay.nil
 case ho17=>simp only[List.getElem?_toArray,List.getElem?_cons_succ,List.getElem?_cons_zero];rfl
 refine bK rfl 28 _ _ rfl _ (opC ⟨kd,s1,s2,aH fd 0 3,aH at_ 0 50,aH nn 0 60,au.tmod 12,aH sn 0 4,d40⟩ da dc) rfl rfl _ Sw.out.1 jf rfl (iy _ _ _) ?_
 intro w5 hs5
 have pY:=Lib.hid (iU.of HB2.out wV.out mg.out (Oi.out) Sw.out.2 hs5)
 clear hs5
 refine hK.out _ _ (fun h=>absurd rfl h) (fun hS=> ?_)
 clear hS hK K
 try simp only[Act.put,List.setIfInBounds_toArray,List.set_cons_zero,List.set_cons_succ]
 refine aT (by kernel_rfl) ?_ _
 refine NoPanic.normal ?_
 refine(show Hid _ from ?_).out
 rotate_left
 go_simp
 have Im:Hid (Below w2.heap.size w2 (x4.alloc (.cells #[.int .i64 0, .string ⟨#[]⟩, .string ⟨#[]⟩, .int .i64 0, .int .i64 0, .int .i64 0, .int .u64 0, .int .i64 0, .slice none 0 0] 28))):=Lib.hid (Below.alloc (mD.out) (Below.size (mD.out)) _)
 have Sy:Hid ((x4.alloc (.cells #[.int .i64 0, .string ⟨#[]⟩, .string ⟨#[]⟩, .int .i64 0, .int .i64 0, .int .i64 0, .int .u64 0, .int .i64 0, .slice none 0 0] 28)).heap[x4.heap.size]? =some (.cells #[.int .i64 0, .string ⟨#[]⟩, .string ⟨#[]⟩, .int .i64 0, .int .i64 0, .int .i64 0, .int .u64 0, .int .i64 0, .slice none 0 0] 28 (0,0))∧w2.heap.size≤x4.heap.size):=Lib.hid ⟨(MapKept.heap_alloc _ _).1,Below.size (mD.out)⟩
 refine hK.out _ _ (fun _=>jl.out _ Im.out) (fun hS=> ?_)
 replace hS:=hS (by decide)
 clear hK K
 try simp only[Act.put,List.setIfInBounds_toArray,List.set_cons_zero,List.set_cons_succ]
 refine jF 32 (h:=fun K hK=> ?_)
 go_simp
 (with_reducible refine(bO sn 0 4 (x4.alloc (.cells #[.int .i64 0, .string ⟨#[]⟩, .string ⟨#[]⟩, .int .i64 0, .int .i64 0, .int .i64 0, .int .u64 0, .int .i64 0, .slice none 0 0] 28)) HX.out.ws (by omega) (by omega) (by omega)).mono ?_)
 rintro e _ ⟨rfl,rfl⟩
 go_wp2_with fail
 refine hK.out _ _ (fun _=>jl.out _ (Im.out)) (fun hS=> ?_)
 replace hS:=hS (by decide)
 clear hK K
 try simp only[Act.put,List.setIfInBounds_toArray,List.set_cons_zero,List.set_cons_succ]
 refine jF 35 (h:=fun K hK=> ?_)
 go_simp
 (with_reducible refine(rJ.out (x4.alloc (.cells #[.int .i64 0, .string ⟨#[]⟩, .string ⟨#[]⟩, .int .i64 0, .int .i64 0, .int .i64 0, .int .u64 0, .int .i64 0, .slice none 0 0] 28))).mono ?_)
 rintro e _ ⟨rfl,rfl⟩
 go_wp2_with fail
 refine hK.out _ _ (fun _=>jl.out _ (Im.out)) (fun hS=> ?_)
 replace hS:=hS (by decide)
 clear hK K
 try simp only[Act.put,List.setIfInBounds_toArray,List.set_cons_zero,List.set_cons_succ]
 refine bf 36 (hS:=hS) (h:= ?_)
 refine aS (rs:=[38]) (by kernel_rfl) (by simp) ?_
 refine ay.cons (o:= ?o18) ?ho18 (fun K hK=> ?_) ay.nil
 case ho18=>simp only[List.getElem?_toArray,List.getElem?_cons_succ,List.getElem?_cons_zero];rfl
 refine bK rfl 28 _ _ rfl _ (opC ⟨kd,s1,s2,aH fd 0 3,aH at_ 0 50,aH nn 0 60,au.tmod 12,aH sn 0 4,d40⟩ da dc) rfl rfl _ Sy.out.1 jf rfl (iy _ _ _) ?_
 intro w5 hs5
 have pY:=Lib.hid (iU.of HB2.out wV.out mg.out (Im.out) Sy.out.2 hs5)
 clear hs5
 refine hK.out _ _ (fun h=>absurd rfl h) (fun hS=> ?_)
 clear hS hK K
 try simp only[Act.put,List.setIfInBounds_toArray,List.set_cons_zero,List.set_cons_succ]
 refine aT (by kernel_rfl) ?_ _
 refine NoPanic.normal ?_
 refine(show Hid _ from ?_).out
 rotate_left
 go_simp
 have D7:Hid (Below w2.heap.size w2 (x4.alloc (.cells #[.int .i64 0, .string ⟨#[]⟩, .string ⟨#[]⟩, .int .i64 0, .int .i64 0, .int .i64 0, .int .u64 0, .int .i64 0, .slice none 0 0] 28))):=Lib.hid (Below.alloc (mD.out) (Below.size (mD.out)) _)
 have Sz:Hid ((x4.alloc (.cells #[.int .i64 0, .string ⟨#[]⟩, .string ⟨#[]⟩, .int .i64 0, .int .i64 0, .int .i64 0, .int .u64 0, .int .i64 0, .slice none 0 0] 28)).heap[x4.heap.size]? =some (.cells #[.int .i64 0, .string ⟨#[]⟩, .string ⟨#[]⟩, .int .i64 0, .int .i64 0, .int .i64 0, .int .u64 0, .int .i64 0, .slice none 0 0] 28 (0,0))∧w2.heap.size≤x4.heap.size):=Lib.hid ⟨(MapKept.heap_alloc _ _).1,Below.size (mD.out)⟩
 refine hK.out _ _ (fun _=>jl.out _ D7.out) (fun hS=> ?_)
 replace hS:=hS (by decide)
 clear hK K
 try simp only[Act.put,List.setIfInBounds_toArray,List.set_cons_zero,List.set_cons_succ]
 refine jF 26 (h:=fun K hK=> ?_)
 go_simp
 (with_reducible refine(bO nn 0 60 (x4.alloc (.cells #[.int .i64 0, .string ⟨#[]⟩, .string ⟨#[]⟩, .int .i64 0, .int .i64 0, .int .i64 0, .int .u64 0, .int .i64 0, .slice none 0 0] 28)) HX.out.wn (by omega) (by omega) (by omega)).mono ?_)
 rintro e _ ⟨rfl,rfl⟩
 go_wp2_with fail
 refine hK.out _ _ (fun _=>jl.out _ (D7.out)) (fun hS=> ?_)
 replace hS:=hS (by decide)
 clear hK K
 try simp only[Act.put,List.setIfInBounds_toArray,List.set_cons_zero,List.set_cons_succ]
 refine jF 32 (h:=fun K hK=> ?_)
 go_simp
 (with_reducible refine(bO sn 0 4 (x4.alloc (.cells #[.int .i64 0, .string ⟨#[]⟩, .string ⟨#[]⟩, .int .i64 0, .int .i64 0, .int .i64 0, .int .u64 0, .int .i64 0, .slice none 0 0] 28)) HX.out.ws (by omega) (by omega) (by omega)).mono ?_)
 rintro e _ ⟨rfl,rfl⟩
 go_wp2_with fail
 refine hK.out _ _ (fun _=>jl.out _ (D7.out)) (fun hS=> ?_)
 replace hS:=hS (by decide)
 clear hK K
 try simp only[Act.put,List.setIfInBounds_toArray,List.set_cons_zero,List.set_cons_succ]
 refine jF 35 (h:=fun K hK=> ?_)
 go_simp
 (with_reducible refine(rJ.out (x4.alloc (.cells #[.int .i64 0, .string ⟨#[]⟩, .string ⟨#[]⟩, .int .i64 0, .int .i64 0, .int .i64 0, .int .u64 0, .int .i64 0, .slice none 0 0] 28))).mono ?_)
 rintro e _ ⟨rfl,rfl⟩
 go_wp2_with fail
 refine hK.out _ _ (fun _=>jl.out _ (D7.out)) (fun hS=> ?_)
 replace hS:=hS (by decide)
 clear hK K
 try simp only[Act.put,List.setIfInBounds_toArray,List.set_cons_zero,List.set_cons_succ]
 refine bf 36 (hS:=hS) (h:= ?_)
 refine aS (rs:=[38]) (by kernel_rfl) (by simp) ?_
 refine ay.cons (o:= ?o19) ?ho19 (fun K hK=> ?_) ay.nil
 case ho19=>simp only[List.getElem?_toArray,List.getElem?_cons_succ,List.getElem?_cons_zero];rfl
 refine bK rfl 28 _ _ rfl _ (opC ⟨kd,s1,s2,aH fd 0 3,aH at_ 0 50,aH nn 0 60,au.tmod 12,aH sn 0 4,d40⟩ da dc) rfl rfl _ Sz.out.1 jf rfl (iy _ _ _) ?_
 intro w5 hs5
 have pY:=Lib.hid (iU.of HB2.out wV.out mg.out (D7.out) Sz.out.2 hs5)
 clear hs5
 refine hK.out _ _ (fun h=>absurd rfl h) (fun hS=> ?_)
 clear hS hK K
 try simp only[Act.put,List.setIfInBounds_toArray,List.set_cons_zero,List.set_cons_succ]
 refine aT (by kernel_rfl) ?_ _
 refine NoPanic.normal ?_
 refine(show Hid _ from ?_).out
 rotate_left
 go_simp
 have Ar:Hid (Below w2.heap.size w2 (x4.alloc (.cells #[.int .i64 0, .string ⟨#[]⟩, .string ⟨#[]⟩, .int .i64 0, .int .i64 0, .int .i64 0, .int .u64 0, .int .i64 0, .slice none 0 0] 28))):=Lib.hid (Below.alloc (mD.out) (Below.size (mD.out)) _)
 have SA:Hid ((x4.alloc (.cells #[.int .i64 0, .string ⟨#[]⟩, .string ⟨#[]⟩, .int .i64 0, .int .i64 0, .int .i64 0, .int .u64 0, .int .i64 0, .slice none 0 0] 28)).heap[x4.heap.size]? =some (.cells #[.int .i64 0, .string ⟨#[]⟩, .string ⟨#[]⟩, .int .i64 0, .int .i64 0, .int .i64 0, .int .u64 0, .int .i64 0, .slice none 0 0] 28 (0,0))∧w2.heap.size≤x4.heap.size):=Lib.hid ⟨(MapKept.heap_alloc _ _).1,Below.size (mD.out)⟩
 refine hK.out _ _ (fun _=>jl.out _ Ar.out) (fun hS=> ?_)
 replace hS:=hS (by decide)
 clear hK K
 try simp only[Act.put,List.setIfInBounds_toArray,List.set_cons_zero,List.set_cons_succ]
 refine jF 23 (h:=fun K hK=> ?_)
 go_simp
 (with_reducible refine(bO at_ 0 50 (x4.alloc (.cells #[.int .i64 0, .string ⟨#[]⟩, .string ⟨#[]⟩, .int .i64 0, .int .i64 0, .int .i64 0, .int .u64 0, .int .i64 0, .slice none 0 0] 28)) HX.out.wa (by omega) (by omega) (by omega)).mono ?_)
 rintro e _ ⟨rfl,rfl⟩
 go_wp2_with fail
 refine hK.out _ _ (fun _=>jl.out _ (Ar.out)) (fun hS=> ?_)
 replace hS:=hS (by decide)
 clear hK K
 try simp only[Act.put,List.setIfInBounds_toArray,List.set_cons_zero,List.set_cons_succ]
 refine jF 26 (h:=fun K hK=> ?_)
 go_simp
 (with_reducible refine(bO nn 0 60 (x4.alloc (.cells #[.int .i64 0, .string ⟨#[]⟩, .string ⟨#[]⟩, .int .i64 0, .int .i64 0, .int .i64 0, .int .u64 0, .int .i64 0, .slice none 0 0] 28)) HX.out.wn (by omega) (by omega) (by omega)).mono ?_)
 rintro e _ ⟨rfl,rfl⟩
 go_wp2_with fail
 refine hK.out _ _ (fun _=>jl.out _ (Ar.out)) (fun hS=> ?_)
 replace hS:=hS (by decide)
 clear hK K
 try simp only[Act.put,List.setIfInBounds_toArray,List.set_cons_zero,List.set_cons_succ]
 refine jF 32 (h:=fun K hK=> ?_)
 go_simp
 (with_reducible refine(bO sn 0 4 (x4.alloc (.cells #[.int .i64 0, .string ⟨#[]⟩, .string ⟨#[]⟩, .int .i64 0, .int .i64 0, .int .i64 0, .int .u64 0, .int .i64 0, .slice none 0 0] 28)) HX.out.ws (by omega) (by omega) (by omega)).mono ?_)
 rintro e _ ⟨rfl,rfl⟩
 go_wp2_with fail
 refine hK.out _ _ (fun _=>jl.out _ (Ar.out)) (fun hS=> ?_)
 replace hS:=hS (by decide)
 clear hK K
 try simp only[Act.put,List.setIfInBounds_toArray,List.set_cons_zero,List.set_cons_succ]
 refine jF 35 (h:=fun K hK=> ?_)
 go_simp
 (with_reducible refine(rJ.out (x4.alloc (.cells #[.int .i64 0, .string ⟨#[]⟩, .string ⟨#[]⟩, .int .i64 0, .int .i64 0, .int .i64 0, .int .u64 0, .int .i64 0, .slice none 0 0] 28))).mono ?_)
 rintro e _ ⟨rfl,rfl⟩
 go_wp2_with fail
 refine hK.out _ _ (fun _=>jl.out _ (Ar.out)) (fun hS=> ?_)
 replace hS:=hS (by decide)
 clear hK K
 try simp only[Act.put,List.setIfInBounds_toArray,List.set_cons_zero,List.set_cons_succ]
 refine bf 36 (hS:=hS) (h:= ?_)
 refine aS (rs:=[38]) (by kernel_rfl) (by simp) ?_
 refine ay.cons (o:= ?o20) ?ho20 (fun K hK=> ?_) ay.nil
 case ho20=>simp only[List.getElem?_toArray,List.getElem?_cons_succ,List.getElem?_cons_zero];rfl
 refine bK rfl 28 _ _ rfl _ (opC ⟨kd,s1,s2,aH fd 0 3,aH at_ 0 50,aH nn 0 60,au.tmod 12,aH sn 0 4,d40⟩ da dc) rfl rfl _ SA.out.1 jf rfl (iy _ _ _) ?_
 intro w5 hs5
 have pY:=Lib.hid (iU.of HB2.out wV.out mg.out (Ar.out) SA.out.2 hs5)
 clear hs5
 refine hK.out _ _ (fun h=>absurd rfl h) (fun hS=> ?_)
 clear hS hK K
 try simp only[Act.put,List.setIfInBounds_toArray,List.set_cons_zero,List.set_cons_succ]
 refine aT (by kernel_rfl) ?_ _
 refine NoPanic.normal ?_
 refine(show Hid _ from ?_).out
 rotate_left
 go_simp
 have yE:Hid (Below w2.heap.size w2 (x4.alloc (.cells #[.int .i64 0, .string ⟨#[]⟩, .string ⟨#[]⟩, .int .i64 0, .int .i64 0, .int .i64 0, .int .u64 0, .int .i64 0, .slice none 0 0] 28))):=Lib.hid (Below.alloc (mD.out) (Below.size (mD.out)) _)
 have SB:Hid ((x4.alloc (.cells #[.int .i64 0, .string ⟨#[]⟩, .string ⟨#[]⟩, .int .i64 0, .int .i64 0, .int .i64 0, .int .u64 0, .int .i64 0, .slice none 0 0] 28)).heap[x4.heap.size]? =some (.cells #[.int .i64 0, .string ⟨#[]⟩, .string ⟨#[]⟩, .int .i64 0, .int .i64 0, .int .i64 0, .int .u64 0, .int .i64 0, .slice none 0 0] 28 (0,0))∧w2.heap.size≤x4.heap.size):=Lib.hid ⟨(MapKept.heap_alloc _ _).1,Below.size (mD.out)⟩
 refine hK.out _ _ (fun _=>jl.out _ yE.out) (fun hS=> ?_)
 replace hS:=hS (by decide)
 clear hK K
 try simp only[Act.put,List.setIfInBounds_toArray,List.set_cons_zero,List.set_cons_succ]
 refine jF 20 (h:=fun K hK=> ?_)
 go_simp
 (with_reducible refine(bO fd 0 3 (x4.alloc (.cells #[.int .i64 0, .string ⟨#[]⟩, .string ⟨#[]⟩, .int .i64 0, .int .i64 0, .int .i64 0, .int .u64 0, .int .i64 0, .slice none 0 0] 28)) HX.out.wf (by omega) (by omega) (by omega)).mono ?_)
 rintro e _ ⟨rfl,rfl⟩
 go_wp2_with fail
 refine hK.out _ _ (fun _=>jl.out _ (yE.out)) (fun hS=> ?_)
 replace hS:=hS (by decide)
 clear hK K
 try simp only[Act.put,List.setIfInBounds_toArray,List.set_cons_zero,List.set_cons_succ]
 refine jF 23 (h:=fun K hK=> ?_)
 go_simp
 (with_reducible refine(bO at_ 0 50 (x4.alloc (.cells #[.int .i64 0, .string ⟨#[]⟩, .string ⟨#[]⟩, .int .i64 0, .int .i64 0, .int .i64 0, .int .u64 0, .int .i64 0, .slice none 0 0] 28)) HX.out.wa (by omega) (by omega) (by omega)).mono ?_)
 rintro e _ ⟨rfl,rfl⟩
 go_wp2_with fail
 refine hK.out _ _ (fun _=>jl.out _ (yE.out)) (fun hS=> ?_)
 replace hS:=hS (by decide)
 clear hK K
 try simp only[Act.put,List.setIfInBounds_toArray,List.set_cons_zero,List.set_cons_succ]
 refine jF 26 (h:=fun K hK=> ?_)
 go_simp
 (with_reducible refine(bO nn 0 60 (x4.alloc (.cells #[.int .i64 0, .string ⟨#[]⟩, .string ⟨#[]⟩, .int .i64 0, .int .i64 0, .int .i64 0, .int .u64 0, .int .i64 0, .slice none 0 0] 28)) HX.out.wn (by omega) (by omega) (by omega)).mono ?_)
 rintro e _ ⟨rfl,rfl⟩
 go_wp2_with fail
 refine hK.out _ _ (fun _=>jl.out _ (yE.out)) (fun hS=> ?_)
 replace hS:=hS (by decide)
 clear hK K
 try simp only[Act.put,List.setIfInBounds_toArray,List.set_cons_zero,List.set_cons_succ]
 refine jF 32 (h:=fun K hK=> ?_)
 go_simp
 (with_reducible refine(bO sn 0 4 (x4.alloc (.cells #[.int .i64 0, .string ⟨#[]⟩, .string ⟨#[]⟩, .int .i64 0, .int .i64 0, .int .i64 0, .int .u64 0, .int .i64 0, .slice none 0 0] 28)) HX.out.ws (by omega) (by omega) (by omega)).mono ?_)
 rintro e _ ⟨rfl,rfl⟩
 go_wp2_with fail
 refine hK.out _ _ (fun _=>jl.out _ (yE.out)) (fun hS=> ?_)
 replace hS:=hS (by decide)
 clear hK K
 try simp only[Act.put,List.setIfInBounds_toArray,List.set_cons_zero,List.set_cons_succ]
 refine jF 35 (h:=fun K hK=> ?_)
 go_simp
 (with_reducible refine(rJ.out (x4.alloc (.cells #[.int .i64 0, .string ⟨#[]⟩, .string ⟨#[]⟩, .int .i64 0, .int .i64 0, .int .i64 0, .int .u64 0, .int .i64 0, .slice none 0 0] 28))).mono ?_)
 rintro e _ ⟨rfl,rfl⟩
 go_wp2_with fail
 refine hK.out _ _ (fun _=>jl.out _ (yE.out)) (fun hS=> ?_)
 replace hS:=hS (by decide)
 clear hK K
 try simp only[Act.put,List.setIfInBounds_toArray,List.set_cons_zero,List.set_cons_succ]
 refine bf 36 (hS:=hS) (h:= ?_)
 refine aS (rs:=[38]) (by kernel_rfl) (by simp) ?_
 refine ay.cons (o:= ?o21) ?ho21 (fun K hK=> ?_) ay.nil
 case ho21=>simp only[List.getElem?_toArray,List.getElem?_cons_succ,List.getElem?_cons_zero];rfl
 refine bK rfl 28 _ _ rfl _ (opC ⟨kd,s1,s2,aH fd 0 3,aH at_ 0 50,aH nn 0 60,au.tmod 12,aH sn 0 4,d40⟩ da dc) rfl rfl _ SB.out.1 jf rfl (iy _ _ _) ?_
 intro w5 hs5
 have pY:=Lib.hid (iU.of HB2.out wV.out mg.out (yE.out) SB.out.2 hs5)
 clear hs5
 refine hK.out _ _ (fun h=>absurd rfl h) (fun hS=> ?_)
 clear hS hK K
 try simp only[Act.put,List.setIfInBounds_toArray,List.set_cons_zero,List.set_cons_succ]
 refine aT (by kernel_rfl) ?_ _
 refine NoPanic.normal ?_
 refine(show Hid _ from ?_).out
 rotate_left
 go_simp
 have Oj:Hid (Below w2.heap.size w2 (x2.alloc (.cells #[.int .i64 0, .string ⟨#[]⟩, .string ⟨#[]⟩, .int .i64 0, .int .i64 0, .int .i64 0, .int .u64 0, .int .i64 0, .slice none 0 0] 28))):=Lib.hid (Below.alloc (Kz.out) (Below.size (Kz.out)) _)
 have Ol:Hid ((x2.alloc (.cells #[.int .i64 0, .string ⟨#[]⟩, .string ⟨#[]⟩, .int .i64 0, .int .i64 0, .int .i64 0, .int .u64 0, .int .i64 0, .slice none 0 0] 28)).heap[x2.heap.size]? =some (.cells #[.int .i64 0, .string ⟨#[]⟩, .string ⟨#[]⟩, .int .i64 0, .int .i64 0, .int .i64 0, .int .u64 0, .int .i64 0, .slice none 0 0] 28 (0,0))∧w2.heap.size≤x2.heap.size):=Lib.hid ⟨(MapKept.heap_alloc _ _).1,Below.size (Kz.out)⟩
 refine hK.out _ _ (fun _=>jl.out _ Oj.out) (fun hS=> ?_)
 replace hS:=hS (by decide)
 clear hK K
 try simp only[Act.put,List.setIfInBounds_toArray,List.set_cons_zero,List.set_cons_succ]
 refine jF 17 (h:=fun K hK=> ?_)
 go_simp
 (with_reducible refine(qU _ HZ2.out (x2.alloc (.cells #[.int .i64 0, .string ⟨#[]⟩, .string ⟨#[]⟩, .int .i64 0, .int .i64 0, .int .i64 0, .int .u64 0, .int .i64 0, .slice none 0 0] 28))).mono ?_)
 rintro e UD ⟨s2,XF,rfl,Om⟩
 have Cm:=Lib.hid XF
 have yF:Hid (Below w2.heap.size w2 UD):=Lib.hid (Below.trans (Oj.out) (Om.mono (Oj.out).size))
 have SC:Hid (UD.heap[x2.heap.size]? =some (.cells #[.int .i64 0, .string ⟨#[]⟩, .string ⟨#[]⟩, .int .i64 0, .int .i64 0, .int .i64 0, .int .u64 0, .int .i64 0, .slice none 0 0] 28 (0,0))∧w2.heap.size≤x2.heap.size):=Lib.hid ⟨(Om.block _ (Array.getElem?_eq_some_iff.1 Ol.out.1).1).trans Ol.out.1,Ol.out.2⟩
 clear XF Om
 go_wp2_with fail
 refine hK.out _ _ (fun _=>jl.out _ yF.out) (fun hS=> ?_)
 replace hS:=hS (by decide)
 clear hK K
 try simp only[Act.put,List.setIfInBounds_toArray,List.set_cons_zero,List.set_cons_succ]
 refine jF 20 (h:=fun K hK=> ?_)
 go_simp
 (with_reducible refine(bO fd 0 3 UD HX.out.wf (by omega) (by omega) (by omega)).mono ?_)
 rintro e _ ⟨rfl,rfl⟩
 go_wp2_with fail
 refine hK.out _ _ (fun _=>jl.out _ (yF.out)) (fun hS=> ?_)
 replace hS:=hS (by decide)
 clear hK K
 try simp only[Act.put,List.setIfInBounds_toArray,List.set_cons_zero,List.set_cons_succ]
 refine jF 23 (h:=fun K hK=> ?_)
 go_simp
 (with_reducible refine(bO at_ 0 50 UD HX.out.wa (by omega) (by omega) (by omega)).mono ?_)
 rintro e _ ⟨rfl,rfl⟩
 go_wp2_with fail
 refine hK.out _ _ (fun _=>jl.out _ (yF.out)) (fun hS=> ?_)
 replace hS:=hS (by decide)
 clear hK K
 try simp only[Act.put,List.setIfInBounds_toArray,List.set_cons_zero,List.set_cons_succ]
 refine jF 26 (h:=fun K hK=> ?_)
 go_simp
 (with_reducible refine(bO nn 0 60 UD HX.out.wn (by omega) (by omega) (by omega)).mono ?_)
 rintro e _ ⟨rfl,rfl⟩
 go_wp2_with fail
 refine hK.out _ _ (fun _=>jl.out _ (yF.out)) (fun hS=> ?_)
 replace hS:=hS (by decide)
 clear hK K
 try simp only[Act.put,List.setIfInBounds_toArray,List.set_cons_zero,List.set_cons_succ]
 refine jF 32 (h:=fun K hK=> ?_)
 go_simp
 (with_reducible refine(bO sn 0 4 UD HX.out.ws (by omega) (by omega) (by omega)).mono ?_)
 rintro e _ ⟨rfl,rfl⟩
 go_wp2_with fail
 refine hK.out _ _ (fun _=>jl.out _ (yF.out)) (fun hS=> ?_)
 replace hS:=hS (by decide)
 clear hK K
 try simp only[Act.put,List.setIfInBounds_toArray,List.set_cons_zero,List.set_cons_succ]
 refine jF 35 (h:=fun K hK=> ?_)
 go_simp
 (with_reducible refine(rJ.out UD).mono ?_)
 rintro e _ ⟨rfl,rfl⟩
 go_wp2_with fail
 refine hK.out _ _ (fun _=>jl.out _ (yF.out)) (fun hS=> ?_)
 replace hS:=hS (by decide)
 clear hK K
 try simp only[Act.put,List.setIfInBounds_toArray,List.set_cons_zero,List.set_cons_succ]
 refine bf 36 (hS:=hS) (h:= ?_)
 refine aS (rs:=[38]) (by kernel_rfl) (by simp) ?_
 refine ay.cons (o:= ?o22) ?ho22 (fun K hK=> ?_) ay.nil
 case ho22=>simp only[List.getElem?_toArray,List.getElem?_cons_succ,List.getElem?_cons_zero];rfl
 refine bK rfl 28 _ _ rfl _ (opC ⟨kd,s1,s2,aH fd 0 3,aH at_ 0 50,aH nn 0 60,au.tmod 12,aH sn 0 4,d40⟩ da dc) rfl rfl _ SC.out.1 jf rfl (iy _ _ _) ?_
 intro w5 hs5
 have pY:=Lib.hid (iU.of HB2.out wV.out mg.out (yF.out) SC.out.2 hs5)
 clear hs5
 refine hK.out _ _ (fun h=>absurd rfl h) (fun hS=> ?_)
 clear hS hK K
 try simp only[Act.put,List.setIfInBounds_toArray,List.set_cons_zero,List.set_cons_succ]
 refine aT (by kernel_rfl) ?_ _
 refine NoPanic.normal ?_
 refine(show Hid _ from ?_).out
 rotate_left
 go_simp
 have Oo:Hid (Below w2.heap.size w2 ((w2.alloc (.cells #[.int .i64 0, .string ⟨#[]⟩, .string ⟨#[]⟩, .int .i64 0, .int .i64 0, .int .i64 0, .int .u64 0, .int .i64 0, .slice none 0 0] 28)).drew)):=Lib.hid (((Below.refl w2.heap.size w2).alloc (Nat.le_refl _) _).drew)
 have Oq:Hid (((w2.alloc (.cells #[.int .i64 0, .string ⟨#[]⟩, .string ⟨#[]⟩, .int .i64 0, .int .i64 0, .int .i64 0, .int .u64 0, .int .i64 0, .slice none 0 0] 28)).drew).heap[w2.heap.size]? =some (.cells #[.int .i64 0, .string ⟨#[]⟩, .string ⟨#[]⟩, .int .i64 0, .int .i64 0, .int .i64 0, .int .u64 0, .int .i64 0, .slice none 0 0] 28 (0,0))∧w2.heap.size≤w2.heap.size):=Lib.hid ⟨(MapKept.heap_alloc w2 _).1,Nat.le_refl _⟩
 refine hK.out _ _ (fun _=>jl.out _ Oo.out) (fun hS=> ?_)
 replace hS:=hS (by decide)
 clear hK K
 try simp only[Act.put,List.setIfInBounds_toArray,List.set_cons_zero,List.set_cons_succ]
 refine jF 9 (h:=fun K hK=> ?_)
 go_simp
 (with_reducible refine(qU _ HZ1.out ((w2.alloc (.cells #[.int .i64 0, .string ⟨#[]⟩, .string ⟨#[]⟩, .int .i64 0, .int .i64 0, .int .i64 0, .int .u64 0, .int .i64 0, .slice none 0 0] 28)).drew)).mono ?_)
 rintro e x44 ⟨s1,XG,rfl,Ot⟩
 have vS:=Lib.hid XG
 have Ou:Hid (Below w2.heap.size w2 x44):=Lib.hid (Below.trans (Oo.out) (Ot.mono (Oo.out).size))
 have Ov:Hid (x44.heap[w2.heap.size]? =some (.cells #[.int .i64 0, .string ⟨#[]⟩, .string ⟨#[]⟩, .int .i64 0, .int .i64 0, .int .i64 0, .int .u64 0, .int .i64 0, .slice none 0 0] 28 (0,0))∧w2.heap.size≤w2.heap.size):=Lib.hid ⟨(Ot.block _ (Array.getElem?_eq_some_iff.1 Oq.out.1).1).trans Oq.out.1,Oq.out.2⟩
 clear XG Ot
 go_wp2_with fail
 refine hK.out _ _ (fun _=>jl.out _ Ou.out) (fun hS=> ?_)
 replace hS:=hS (by decide)
 clear hK K
 try simp only[Act.put,List.setIfInBounds_toArray,List.set_cons_zero,List.set_cons_succ]
 refine jF 17 (h:=fun K hK=> ?_)
 go_simp
 (with_reducible refine(qU _ HZ2.out x44).mono ?_)
 rintro e UE ⟨s2,UF,rfl,Ow⟩
 have Cm:=Lib.hid UF
 have yG:Hid (Below w2.heap.size w2 UE):=Lib.hid (Below.trans (Ou.out) (Ow.mono (Ou.out).size))
 have SE:Hid (UE.heap[w2.heap.size]? =some (.cells #[.int .i64 0, .string ⟨#[]⟩, .string ⟨#[]⟩, .int .i64 0, .int .i64 0, .int .i64 0, .int .u64 0, .int .i64 0, .slice none 0 0] 28 (0,0))∧w2.heap.size≤w2.heap.size):=Lib.hid ⟨(Ow.block _ (Array.getElem?_eq_some_iff.1 Ov.out.1).1).trans Ov.out.1,Ov.out.2⟩
 clear UF Ow
 go_wp2_with fail
 refine hK.out _ _ (fun _=>jl.out _ yG.out) (fun hS=> ?_)
 replace hS:=hS (by decide)
 clear hK K
 try simp only[Act.put,List.setIfInBounds_toArray,List.set_cons_zero,List.set_cons_succ]
 refine jF 20 (h:=fun K hK=> ?_)
 go_simp
 (with_reducible refine(bO fd 0 3 UE HX.out.wf (by omega) (by omega) (by omega)).mono ?_)
 rintro e _ ⟨rfl,rfl⟩
 go_wp2_with fail
 refine hK.out _ _ (fun _=>jl.out _ (yG.out)) (fun hS=> ?_)
 replace hS:=hS (by decide)
 clear hK K
 try simp only[Act.put,List.setIfInBounds_toArray,List.set_cons_zero,List.set_cons_succ]
 refine jF 23 (h:=fun K hK=> ?_)
 go_simp
 (with_reducible refine(bO at_ 0 50 UE HX.out.wa (by omega) (by omega) (by omega)).mono ?_)
 rintro e _ ⟨rfl,rfl⟩
 go_wp2_with fail
 refine hK.out _ _ (fun _=>jl.out _ (yG.out)) (fun hS=> ?_)
 replace hS:=hS (by decide)
 clear hK K
 try simp only[Act.put,List.setIfInBounds_toArray,List.set_cons_zero,List.set_cons_succ]
 refine jF 26 (h:=fun K hK=> ?_)
 go_simp
 (with_reducible refine(bO nn 0 60 UE HX.out.wn (by omega) (by omega) (by omega)).mono ?_)
 rintro e _ ⟨rfl,rfl⟩
 go_wp2_with fail
 refine hK.out _ _ (fun _=>jl.out _ (yG.out)) (fun hS=> ?_)
 replace hS:=hS (by decide)
 clear hK K
 try simp only[Act.put,List.setIfInBounds_toArray,List.set_cons_zero,List.set_cons_succ]
 refine jF 32 (h:=fun K hK=> ?_)
 go_simp
 (with_reducible refine(bO sn 0 4 UE HX.out.ws (by omega) (by omega) (by omega)).mono ?_)
 rintro e _ ⟨rfl,rfl⟩
 go_wp2_with fail
 refine hK.out _ _ (fun _=>jl.out _ (yG.out)) (fun hS=> ?_)
 replace hS:=hS (by decide)
 clear hK K
 try simp only[Act.put,List.setIfInBounds_toArray,List.set_cons_zero,List.set_cons_succ]
 refine jF 35 (h:=fun K hK=> ?_)
 go_simp
 (with_reducible refine(rJ.out UE).mono ?_)
 rintro e _ ⟨rfl,rfl⟩
 go_wp2_with fail
 refine hK.out _ _ (fun _=>jl.out _ (yG.out)) (fun hS=> ?_)
 replace hS:=hS (by decide)
 clear hK K
 try simp only[Act.put,List.setIfInBounds_toArray,List.set_cons_zero,List.set_cons_succ]
 refine bf 36 (hS:=hS) (h:= ?_)
 refine aS (rs:=[38]) (by kernel_rfl) (by simp) ?_
 refine ay.cons (o:= ?o23) ?ho23 (fun K hK=> ?_) ay.nil
 case ho23=>simp only[List.getElem?_toArray,List.getElem?_cons_succ,List.getElem?_cons_zero];rfl
 refine bK rfl 28 _ _ rfl _ (opC ⟨kd,s1,s2,aH fd 0 3,aH at_ 0 50,aH nn 0 60,au.tmod 12,aH sn 0 4,d40⟩ da dc) rfl rfl _ SE.out.1 jf rfl (iy _ _ _) ?_
 intro w5 hs5
 have pY:=Lib.hid (iU.of HB2.out wV.out mg.out (yG.out) SE.out.2 hs5)
 clear hs5
 refine hK.out _ _ (fun h=>absurd rfl h) (fun hS=> ?_)
 clear hS hK K
 try simp only[Act.put,List.setIfInBounds_toArray,List.set_cons_zero,List.set_cons_succ]
 refine aT (by kernel_rfl) ?_ _
 refine NoPanic.normal ?_
 refine(show Hid _ from ?_).out
 rotate_left
 all_goals
  refine Lib.hid ?_
  have y0:=pY.out.kind
  have y7:=pY.out.snap
  obtain⟨z0,z1,z2,z3,z4,z5,z6,z7,z8,zf⟩:=pY.out.all
  dsimp only at y0 y7 z0 z1 z2 z3 z4 z5 z6 z7 z8
  obtain⟨SF,Cn⟩:=pY.out.put
  have Vx:=Lib.hid (And.intro SF Cn)
  clear SF Cn
  by_cases h3:kd=3
  ·subst h3
   cases hs:(sn.tmod 3 !=0)
   case false=>
    go_wp2_with (refine ak (by rfl) 28 _ _ (by rfl) (w.heap.size+1) (opC ⟨3,s1,s2,aH fd 0 3,aH at_ 0 50,aH nn 0 60,au.tmod 12,aH sn 0 4,d40⟩ da dc) (by rfl) (by rfl) _ pY.out.res jf rfl (iy _ _ _) ?_;intro w6 hs6;have lg:=Lib.hid hs6;clear hs6)
    exact sH rfl rfl rfl lg.out.1 (ng HX.out UA.out j_.out HD4.out vS.out Cm.out (.inl rfl) rfl rfl rfl rfl rfl (lg.out.below pY.out.below (Nat.le_succ _)))
   case true=>
    go_wp2_with (refine ak (by rfl) 28 _ _ (by rfl) (w.heap.size+1) (opC ⟨3,s1,s2,aH fd 0 3,aH at_ 0 50,aH nn 0 60,au.tmod 12,0,d40⟩ da dc) (by rfl) (by rfl) _ Vx.out.1 jf rfl (iy _ _ _) ?_;intro w6 hs6;have lg:=Lib.hid hs6;clear hs6)
    exact sH rfl rfl rfl lg.out.1 (ng HX.out UA.out j_.out HD4.out vS.out Cm.out (.inr rfl) rfl rfl rfl rfl rfl (lg.out.below Vx.out.2 (Nat.le_succ _)))
  ·have e3:(kd==3)=false:=by simpa using h3
   clear h3
   by_cases h11:kd=11
   ·subst h11
    cases hs:(sn.tmod 3 !=0)
    case false=>
     go_wp2_with (refine ak (by rfl) 28 _ _ (by rfl) (w.heap.size+1) (opC ⟨11,s1,s2,aH fd 0 3,aH at_ 0 50,aH nn 0 60,au.tmod 12,aH sn 0 4,d40⟩ da dc) (by rfl) (by rfl) _ pY.out.res jf rfl (iy _ _ _) ?_;intro w6 hs6;have lg:=Lib.hid hs6;clear hs6)
     exact sH rfl rfl rfl lg.out.1 (ng HX.out UA.out j_.out HD4.out vS.out Cm.out (.inl rfl) rfl rfl rfl rfl rfl (lg.out.below pY.out.below (Nat.le_succ _)))
    case true=>
     go_wp2_with (refine ak (by rfl) 28 _ _ (by rfl) (w.heap.size+1) (opC ⟨11,s1,s2,aH fd 0 3,aH at_ 0 50,aH nn 0 60,au.tmod 12,0,d40⟩ da dc) (by rfl) (by rfl) _ Vx.out.1 jf rfl (iy _ _ _) ?_;intro w6 hs6;have lg:=Lib.hid hs6;clear hs6)
     exact sH rfl rfl rfl lg.out.1 (ng HX.out UA.out j_.out HD4.out vS.out Cm.out (.inr rfl) rfl rfl rfl rfl rfl (lg.out.below Vx.out.2 (Nat.le_succ _)))
   ·have e11:(kd==11)=false:=by simpa using h11
    clear h11
    by_cases h12:kd=12
    ·subst h12
     cases hs:(sn.tmod 3 !=0)
     case false=>
      go_wp2_with (refine ak (by rfl) 28 _ _ (by rfl) (w.heap.size+1) (opC ⟨12,s1,s2,aH fd 0 3,aH at_ 0 50,aH nn 0 60,au.tmod 12,aH sn 0 4,d40⟩ da dc) (by rfl) (by rfl) _ pY.out.res jf rfl (iy _ _ _) ?_;intro w6 hs6;have lg:=Lib.hid hs6;clear hs6)
      exact sH rfl rfl rfl lg.out.1 (ng HX.out UA.out j_.out HD4.out vS.out Cm.out (.inl rfl) rfl rfl rfl rfl rfl (lg.out.below pY.out.below (Nat.le_succ _)))
     case true=>
      go_wp2_with (refine ak (by rfl) 28 _ _ (by rfl) (w.heap.size+1) (opC ⟨12,s1,s2,aH fd 0 3,aH at_ 0 50,aH nn 0 60,au.tmod 12,0,d40⟩ da dc) (by rfl) (by rfl) _ Vx.out.1 jf rfl (iy _ _ _) ?_;intro w6 hs6;have lg:=Lib.hid hs6;clear hs6)
      exact sH rfl rfl rfl lg.out.1 (ng HX.out UA.out j_.out HD4.out vS.out Cm.out (.inr rfl) rfl rfl rfl rfl rfl (lg.out.below Vx.out.2 (Nat.le_succ _)))
    ·have e12:(kd==12)=false:=by simpa using h12
     clear h12
     go_wp2_with (refine ak (by rfl) 28 _ _ (by rfl) (w.heap.size+1) (opC ⟨kd,s1,s2,aH fd 0 3,aH at_ 0 50,aH nn 0 60,au.tmod 12,aH sn 0 4,d40⟩ da dc) (by rfl) (by rfl) _ pY.out.res jf rfl (iy _ _ _) ?_;intro w6 hs6;have lg:=Lib.hid hs6;clear hs6)
     exact sH rfl rfl rfl lg.out.1 (ng HX.out UA.out j_.out HD4.out vS.out Cm.out (.inl rfl) rfl rfl rfl rfl rfl (lg.out.below pY.out.below (Nat.le_succ _)))
end Go.Proofs.YtmabllemjkcobaaGreatDoor
