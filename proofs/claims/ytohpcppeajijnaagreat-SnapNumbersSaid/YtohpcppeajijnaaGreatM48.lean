/- SnapNumbers: the walk. -/
import Derived.Test.YtohpcppeajijnaaGreatM25
import Derived.Test.YtohpcppeajijnaaGreatM45
namespace Go.Proofs.YtohpcppeajijnaaGreat.snapNumbers
open Go.ChangeShapes Go.WideShapes Go.ChangeAt Go.RowKit
set_option linter.unusedVariables false
set_option linter.unusedSimpArgs false
theorem take_nil (s:Nat) (w:World):Calls Tryz.prog 38 #[ptr s, .pointer none] w fun e w'=>e= .returned (.tuple #[.int .i64 0, .int .i64 1])∧w=w':=by
 go_enter Tryz.func38,Tryz.ntmps38
 go_wp2
 go_ret2
 exact⟨rfl,rfl⟩
theorem xH (w:World):Calls Tryz.prog 44 #[.pointer none] w fun e w'=>e= .returned (.pointer none)∧w=w':=by
 go_enter Tryz.func44,Tryz.ntmps44
 go_wp2
 go_ret
 exact⟨rfl,rfl⟩
def Held (W:World) (p s t x y nb:Nat) (w:World):Prop:=∃o A T,gY W o w p s t x y A T A T∧eY A∧A.next≤nb
def bare (kind P id aS:Int):pW:=⟨kind,P,id,[],aS⟩
theorem nE {z:Int} (h:0≤z∧z≤1000000):(Lit.int .i64 z).wf=true:=by
 simp[Lit.wf,IntKind.min,IntKind.max,IntKind.signed,IntKind.bits]
 omega
theorem zV {W w:World} {p s t x y nb:Nat} (h:Held W p s t x y nb w) (hnb:nb≤1000) (kind P id aS:Int) (hk:0≤kind∧kind≤1000000) (hP:0≤P∧P≤1000000) (hid:0≤id∧id≤1000000) (ht:0≤aS∧aS≤1000000):
  Calls Tryz.prog 37 #[ptr p, .agg #[.int .i64 kind, .int .i64 P, .int .i64 id, .slice none 0 0, .int .u64 aS]] w fun e w'=>e= .returned (.bool true)∧Held W p s t x y (nb+1) w':=by
 obtain⟨o,A,T,hW,hG,hn⟩:=h
 have h1:=rR (bare kind P id aS) none 0 0 hW (by omega) (by omega) (nE hP) (nE hid) (nE hk) ⟨ht.1,by show aS≤_;omega⟩ (ak.nil _ _ _) (Nat.le_refl _) (by omega)
 refine h1.mono ?_
 rintro e w' ⟨bb,A2,B2,rfl,hab,hA2,_,o2,hs2,hW2⟩
 obtain⟨rfl,rfl⟩:=hab rfl
 obtain⟨hG2,n2⟩:=hG.ask hA2
 exact⟨rfl,o2,A2,_,hW2,hG2,by omega⟩
theorem Hf {W w:World} {p s t x y nb:Nat} (h:Held W p s t x y nb w) (hnb:nb≤1000):
  Calls Tryz.prog 43 #[ptr p] w fun e w'=>e= .returned (.bool true)∧Below w.heap.size w w'∧Held W p s t x y nb w':=by
 obtain⟨o,A,T,hW,hG,hn⟩:=h
 refine(qK hW hG (by omega)).mono ?_
 rintro e w' ⟨rfl,hb⟩
 exact⟨rfl,hb,o,A,T,hW.grow hb,hG,hn⟩
theorem Held.cell0 {W w:World} {p s t x y nb:Nat} (h:Held W p s t x y nb w):w.cell? ⟨p,0,none⟩=some (ptr s)∧Below W.heap.size W w:=by
 obtain⟨o,A,T,hW,hG,hn⟩:=h
 exact⟨hW.cells.1,hW.marks.below⟩
theorem Held.mono {W w:World} {p s t x y nb nb':Nat} (h:Held W p s t x y nb w) (hb:nb≤nb'):Held W p s t x y nb' w:=by
 obtain⟨o,A,T,hW,hG,hn⟩:=h
 exact⟨o,A,T,hW,hG,by omega⟩
def BJ:Array Value:= #[.int .i64 7, .int .i64 0, .int .i64 0, .slice none 0 0, .int .u64 0, .int .i64 7, .int .i64 0, .int .i64 99, .slice none 0 0, .int .u64 0, .int .i64 7, .int .i64 0, .int .i64 3, .slice none 0 0, .int .u64 8, .int .i64 7, .int .i64 0, .int .i64 3, .slice none 0 0, .int .u64 9, .int .i64 7, .int .i64 0, .int .i64 3, .slice none 0 0, .int .u64 9, .int .i64 6, .int .i64 0, .int .i64 0, .slice none 0 0, .int .u64 0, .int .i64 6, .int .i64 0, .int .i64 0, .slice none 0 0, .int .u64 0]
def RS:Nat→Int
 |1=>99
 |2=>3
 |3=>3
 |4=>3
 |_=>0
def Hg:Nat→Int
 |2=>8
 |3=>9
 |4=>9
 |_=>0
def yR (j:Nat):Int:=if j<5 then 7 else 6
theorem LG (j:Nat) (hj:j<7):BJ[j*5]? =some (.int .i64 (yR j))∧BJ[j*5+1]? =some (.int .i64 0)∧BJ[j*5+2]? =some (.int .i64 (RS j))∧BJ[j*5+3]? =some (.slice none 0 0)∧BJ[j*5+4]? =some (.int .u64 (Hg j)):=by
 match j,hj with
 |0,_=>exact⟨rfl,rfl,rfl,rfl,rfl⟩
 |1,_=>exact⟨rfl,rfl,rfl,rfl,rfl⟩
 |2,_=>exact⟨rfl,rfl,rfl,rfl,rfl⟩
 |3,_=>exact⟨rfl,rfl,rfl,rfl,rfl⟩
 |4,_=>exact⟨rfl,rfl,rfl,rfl,rfl⟩
 |5,_=>exact⟨rfl,rfl,rfl,rfl,rfl⟩
 |6,_=>exact⟨rfl,rfl,rfl,rfl,rfl⟩
theorem Rs (j:Nat):(0≤yR j∧yR j≤1000000)∧(0≤RS j∧RS j≤1000000)∧(0≤Hg j∧Hg j≤1000000):=by
 refine⟨?_,?_,?_⟩
 ·unfold yR;split<;>omega
 ·unfold RS;split<;>omega
 ·unfold Hg;split<;>omega
def mH (W:World) (p s t x y nb lb:Nat) (w:World):Prop:=∃o A T,gY W o w p s t x y A T A T∧eY A∧A.next≤nb∧Free o w lb∧w.heap[lb]? =some (.cells BJ 57 (0,0))
theorem mH.grow {W w w':World} {p s t x y nb lb:Nat} (h:mH W p s t x y nb lb w) (hb:Below w.heap.size w w'):mH W p s t x y nb lb w':=by
 obtain⟨o,A,T,hW,hG,hn,hf,hl⟩:=h
 exact⟨o,A,T,hW.grow hb,hG,hn,⟨hf.1,Nat.lt_of_lt_of_le hf.2 hb.size⟩,(hb.block lb hf.2).trans hl⟩
theorem mH.cells {W w:World} {p s t x y nb lb:Nat} (h:mH W p s t x y nb lb w) (j:Nat) (hj:j<7):w.cell? ⟨lb,j*5,none⟩=some (.int .i64 (yR j))∧w.cell? ⟨lb,j*5+1,none⟩=some (.int .i64 0)∧w.cell? ⟨lb,j*5+2,none⟩=some (.int .i64 (RS j))∧w.cell? ⟨lb,j*5+3,none⟩=some (.slice none 0 0)∧w.cell? ⟨lb,j*5+4,none⟩=some (.int .u64 (Hg j)):=by
 obtain⟨o,A,T,hW,hG,hn,hf,hl⟩:=h
 have h7:=LG j hj
 simp only[World.cell?,hl]
 exact h7
theorem mH.held {W w:World} {p s t x y nb lb:Nat} (h:mH W p s t x y nb lb w):Held W p s t x y nb w:=by
 obtain⟨o,A,T,hW,hG,hn,hf,hl⟩:=h
 exact⟨o,A,T,hW,hG,hn⟩
theorem LH {W w:World} {p s t x y nb lb:Nat} (h:mH W p s t x y nb lb w) (hnb:nb≤1000) (kind P id aS:Int) (hk:0≤kind∧kind≤1000000) (hP:0≤P∧P≤1000000) (hid:0≤id∧id≤1000000) (ht:0≤aS∧aS≤1000000):
  Calls Tryz.prog 37 #[ptr p, .agg #[.int .i64 kind, .int .i64 P, .int .i64 id, .slice none 0 0, .int .u64 aS]] w fun e w'=>e= .returned (.bool true)∧mH W p s t x y (nb+1) lb w':=by
 obtain⟨o,A,T,hW,hG,hn,hf,hl⟩:=h
 have h1:=rR (bare kind P id aS) none 0 0 hW (by omega) (by omega) (nE hP) (nE hid) (nE hk) ⟨ht.1,by show aS≤_;omega⟩ (ak.nil _ _ _) (Nat.le_refl _) (by omega)
 refine h1.mono ?_
 rintro e w' ⟨bb,A2,B2,rfl,hab,hA2,_,o2,hs2,hW2⟩
 obtain⟨rfl,rfl⟩:=hab rfl
 obtain⟨hG2,n2⟩:=hG.ask hA2
 exact⟨rfl,o2,A2,_,hW2,hG2,by omega,⟨(hs2.old lb hf.2).trans hf.1,Nat.lt_of_lt_of_le hf.2 hs2.keep.size⟩,(hs2.same I4.qI hf).trans hl⟩
theorem DN {W w:World} {p s t x y nb lb:Nat} (h:mH W p s t x y nb lb w) (hnb:nb≤1000):
  Calls Tryz.prog 43 #[ptr p] w fun e w'=>e= .returned (.bool true)∧mH W p s t x y nb lb w':=by
 have h0:=h
 obtain⟨o,A,T,hW,hG,hn,hf,hl⟩:=h
 refine(qK hW hG (by omega)).mono ?_
 rintro e w' ⟨rfl,hb⟩
 exact⟨rfl,h0.grow hb⟩
theorem Held.lay {W w:World} {p s t x y nb:Nat} (h:Held W p s t x y nb w):mH W p s t x y nb w.heap.size (w.alloc (.cells BJ 57)):=by
 obtain⟨o,A,T,hW,hG,hn⟩:=h
 exact⟨o,A,T,hW.grow (wall w _),hG,hn,⟨hW.zero (Nat.le_refl _),by simp⟩,(MapKept.heap_alloc w _).1⟩
set_option maxRecDepth 100000 in
set_option maxHeartbeats 64000000 in
theorem walk (W:World):Calls Tryz.prog 5 #[] W (OM W):=by
 go_enter Tryz.func5,Tryz.ntmps5
 go_wp2_with fail
 (with_reducible refine(tH W).mono ?_)
 rintro e w1 ⟨p,s,t,x,y,o1,rfl,hS1⟩
 have HST:Hid (Held W p s t x y 1 w1):=⟨o1,gP,kr,hS1,eY.new,by simp[gP]⟩
 obtain⟨q0,-⟩:=HST.out.cell0
 clear hS1
 go_wp2_with fail
 (with_reducible refine(take_nil s _).mono ?_)
 rintro e w2 ⟨rfl,rfl⟩
 go_wp2_with fail
 go_loopw [4] (fun i wr=>∃k:Nat,i= .int .i64 k∧k≤12∧Held W p s t x y (3*k+1) wr) (fun i _=>12-(intOf i).toNat)
 case atStart=>exact⟨0,rfl,by omega,HST.out⟩
 case round=>
  obtain⟨k,rfl,hk,hH⟩:=hrel
  have HH:=Lib.hid hH
  clear hH
  by_cases hlt:k<12
  ·have hd:decide ((k:Int)<12)=true:=by simp;omega
   obtain⟨pk,hpk⟩:∃pk:Int,pk=(k:Int)%3:=⟨_,rfl⟩
   have Zk:0≤pk∧pk≤1000000:=by omega
   have htm:(k:Int).tmod 3=pk:=by rw[hpk];exact Int.tmod_eq_emod_of_nonneg (by omega)
   have hem:(k:Int)%3=pk:=hpk.symm
   have HD1:=Lib.hid (zV HH.out (by omega) 2 pk 0 0 (by omega) Zk (by omega) (by omega))
   clear hpk
   go_wp2_with fail
   (with_reducible refine HD1.out.mono ?_)
   rintro e w3 ⟨rfl,hH3⟩
   have HH3:=Lib.hid hH3
   have HD2:=Lib.hid (zV hH3 (by omega) 4 0 k 9 (by omega) (by omega) (by omega) (by omega))
   clear hH3
   go_wp2_with fail
   (with_reducible refine HD2.out.mono ?_)
   rintro e w4 ⟨rfl,Vk⟩
   have HD3:=Lib.hid (zV Vk (by omega) 6 0 0 0 (by omega) (by omega) (by omega) (by omega))
   clear Vk
   go_wp2_with fail
   (with_reducible refine HD3.out.mono ?_)
   rintro e w5 ⟨rfl,hH5⟩
   have PG:=Lib.hid (Hf hH5 (by omega))
   clear hH5
   go_wp2_with fail
   (with_reducible refine PG.out.mono ?_)
   rintro e w6 ⟨rfl,_,hH6⟩
   have HH6:=Lib.hid hH6
   clear hH6
   go_wp2_with fail
   go_roundw
   case rel=>exact⟨k+1,by go_num,by omega,HH6.out.mono (by omega)⟩
   case measure=>simp[intOf];omega
  ·have hd:decide ((k:Int)<12)=false:=by simp;omega
   have BQ:=Lib.hid (HH.out.mono (nb':=40) (by omega))
   clear hlt
   go_wp2_with fail
   have Vl:Hid (mH W p s t x y 40 wr.heap.size (wr.alloc (.cells BJ 57))):=BQ.out.lay
   obtain⟨lb,hlb⟩:∃lb,lb=wr.heap.size:=⟨_,rfl⟩
   rw[←hlb]at Vl⊢
   clear hlb
   go_loopw [56] (fun i wr=>∃j:Nat,i= .int .i64 j∧j≤7∧mH W p s t x y (40+j) lb wr) (fun i _=>7-(intOf i).toNat)
   case atStart=>exact⟨0,rfl,by omega,Vl.out⟩
   case round=>
    obtain⟨j,rfl,hj,hH⟩:=hrel
    have HJ:=Lib.hid hH
    clear hH
    by_cases hj7:j<7
    ·have hd:decide ((j:Int)<7)=true:=by simp;omega
     obtain⟨c0,c1,c2,c3,c4⟩:=HJ.out.cells j hj7
     obtain⟨hk0,hi0,ht0⟩:=Rs j
     obtain⟨kd,hkd⟩:∃kd,kd=yR j:=⟨_,rfl⟩
     obtain⟨id,hid⟩:∃id,id=RS j:=⟨_,rfl⟩
     obtain⟨tl,htl⟩:∃tl,tl=Hg j:=⟨_,rfl⟩
     rw[←hkd]at c0 hk0
     rw[←hid]at c2 hi0
     rw[←htl]at c4 ht0
     have i0:(0:Int)≤(j:Int):=by omega
     have i1:(j:Int)<7:=by omega
     have HD:=Lib.hid (LH (HJ.out.grow (wall wr (.cells #[.int .i64 kd, .int .i64 0, .int .i64 id, .slice none 0 0, .int .u64 tl] 57))) (by omega) kd 0 id tl hk0 (by omega) hi0 ht0)
     clear hkd hid htl
     go_wp2_with fail
     (with_reducible refine HD.out.mono ?_)
     rintro e w3 ⟨rfl,hH3⟩
     have PG:=Lib.hid (DN hH3 (by omega))
     clear hH3
     go_wp2_with fail
     (with_reducible refine PG.out.mono ?_)
     rintro e w4 ⟨rfl,Vk⟩
     have HH4:=Lib.hid Vk
     clear Vk
     go_wp2_with fail
     go_roundw
     case rel=>exact⟨j+1,by go_num,by omega,HH4.out⟩
     case measure=>simp[intOf];omega
    ·have hd:decide ((j:Int)<7)=false:=by simp;omega
     clear hj7
     go_wp2_with fail
     (with_reducible refine(xH _).mono ?_)
     rintro e w3 ⟨rfl,rfl⟩
     go_wp2_with fail
     (with_reducible refine(mo _).mono ?_)
     rintro e w4 ⟨rfl,hb4⟩
     have kS:=Lib.hid hb4
     clear hb4
     go_wp2_with fail
     go_ret
     have hb:=HJ.out.held.cell0.2
     exact⟨rfl,hb.trans (kS.out.mono hb.size)⟩
end Go.Proofs.YtohpcppeajijnaaGreat.snapNumbers
