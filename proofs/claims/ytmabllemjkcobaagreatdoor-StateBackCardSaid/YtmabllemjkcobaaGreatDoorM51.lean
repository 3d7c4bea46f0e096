/- permafrostkeep.Reply: two replies that say the same. package state: Tree (a frozen copy). For StateTwins: Tree and Snaps as marked copies; two replies of one answer. package state: Open; Turns. StateBack: the walk. -/
import Derived.Test.YtmabllemjkcobaaGreatDoorM40
import Derived.Test.YtmabllemjkcobaaGreatDoorM50
import Derived.Test.YtmabllemjkcobaaGreatDoorM24
import Derived.Test.YtmabllemjkcobaaGreatDoorM29
import Derived.Test.YtmabllemjkcobaaGreatDoorM43
import Derived.Test.YtmabllemjkcobaaGreatDoorM39
import Derived.Test.YtmabllemjkcobaaGreatDoorM32
namespace Go.Proofs.YtmabllemjkcobaaGreatDoor
open Go.ChangeShapes Go.WideShapes Go.ChangeAt Go.RowKit
set_option linter.unusedVariables false
set_option linter.unusedSimpArgs false
abbrev BR (e n:Int) (da:Option Addr) (dl dc:Nat) (la:Option Addr) (ll lc:Nat) (k0 k1 k2 k3 k4:Int) (k5:Bool):Array Value:= #[.int .i64 e, .int .i64 n, .slice da dl dc, .slice la ll lc, .int .i64 k0, .int .i64 k1, .int .i64 k2, .int .i64 k3, .int .u64 k4, .bool k5]
set_option maxRecDepth 100000 in
set_option maxHeartbeats 16000000 in
theorem GK {S1 S2 S3 S4:Nat→Prop} (e n:Int) (bs:List UInt8) (ss:List ByteArray) (dl ll:Nat) (k0 k1 k2 k3 k4:Int) (k5:Bool) (da la OX la':Option Addr) (dc lc K5 Ry:Nat) (w:World)
  (h1:aj S1 w da dl (bs.map bv)) (h2:aj S2 w OX dl (bs.map bv)) (h3:aO S3 w la ll ss) (h4:aO S4 w la' ll ss):
  Calls Tryz.prog 11 #[.agg (BR e n da dl dc la ll lc k0 k1 k2 k3 k4 k5), .agg (BR e n OX dl K5 la' ll Ry k0 k1 k2 k3 k4 k5)] w fun en w'=>en= .returned (.bool true)∧Below w.heap.size w w':=by
 obtain⟨w2,hw2⟩:∃w2,w2=(w.alloc (.cells (BR e n da dl dc la ll lc k0 k1 k2 k3 k4 k5) 36)).alloc (.cells (BR e n OX dl K5 la' ll Ry k0 k1 k2 k3 k4 k5) 36):=⟨_,rfl⟩
 have hb2:Below w.heap.size w w2:=by rw[hw2];exact(wall w _).trans ((wall _ _).mono (by simp))
 have hA:w2.heap[w.heap.size]? =some (.cells (BR e n da dl dc la ll lc k0 k1 k2 k3 k4 k5) 36 (0,0)):=by
  rw[hw2]
  exact((MapKept.heap_alloc (w.alloc (.cells (BR e n da dl dc la ll lc k0 k1 k2 k3 k4 k5) 36)) _).2 w.heap.size (by simp)).trans (MapKept.heap_alloc w _).1
 have hB:w2.heap[w.heap.size+1]? =some (.cells (BR e n OX dl K5 la' ll Ry k0 k1 k2 k3 k4 k5) 36 (0,0)):=by
  rw[hw2]
  have:=(MapKept.heap_alloc (w.alloc (.cells (BR e n da dl dc la ll lc k0 k1 k2 k3 k4 k5) 36)) (.cells (BR e n OX dl K5 la' ll Ry k0 k1 k2 k3 k4 k5) 36)).1
  simpa using this
 have HK:Hid (∀w',Below w2.heap.size w2 w'→w'.cell? ⟨w.heap.size,0,none⟩=some (.int .i64 e)∧w'.cell? ⟨w.heap.size,1,none⟩=some (.int .i64 n)∧w'.cell? ⟨w.heap.size,2,none⟩=some (.slice da dl dc)∧w'.cell? ⟨w.heap.size,3,none⟩=some (.slice la ll lc)∧w'.cell? ⟨w.heap.size,4,none⟩=some (.int .i64 k0)∧w'.cell? ⟨w.heap.size,5,none⟩=some (.int .i64 k1)∧w'.cell? ⟨w.heap.size,6,none⟩=some (.int .i64 k2)∧w'.cell? ⟨w.heap.size,7,none⟩=some (.int .i64 k3)∧w'.cell? ⟨w.heap.size,8,none⟩=some (.int .u64 k4)∧w'.cell? ⟨w.heap.size,9,none⟩=some (.bool k5)∧w'.cell? ⟨w.heap.size+1,0,none⟩=some (.int .i64 e)∧w'.cell? ⟨w.heap.size+1,1,none⟩=some (.int .i64 n)∧w'.cell? ⟨w.heap.size+1,2,none⟩=some (.slice OX dl K5)∧w'.cell? ⟨w.heap.size+1,3,none⟩=some (.slice la' ll Ry)∧w'.cell? ⟨w.heap.size+1,4,none⟩=some (.int .i64 k0)∧w'.cell? ⟨w.heap.size+1,5,none⟩=some (.int .i64 k1)∧w'.cell? ⟨w.heap.size+1,6,none⟩=some (.int .i64 k2)∧w'.cell? ⟨w.heap.size+1,7,none⟩=some (.int .i64 k3)∧w'.cell? ⟨w.heap.size+1,8,none⟩=some (.int .u64 k4)∧w'.cell? ⟨w.heap.size+1,9,none⟩=some (.bool k5)∧(convert 26 9 (.slice da dl dc)).run Tryz.prog w'= .ok (.string (strOf bs)) w'∧(convert 26 9 (.slice OX dl K5)).run Tryz.prog w'= .ok (.string (strOf bs)) w'):=fun w' hb=>by
  have a1:=(hb.block w.heap.size (Array.getElem?_eq_some_iff.1 hA).1).trans hA
  have a2:=(hb.block (w.heap.size+1) (Array.getElem?_eq_some_iff.1 hB).1).trans hB
  refine⟨?_,?_,?_,?_,?_,?_,?_,?_,?_,?_,?_,?_,?_,?_,?_,?_,?_,?_,?_,?_,?_,?_⟩
  ·simp[World.cell?,a1]
  ·simp[World.cell?,a1]
  ·simp[World.cell?,a1]
  ·simp[World.cell?,a1]
  ·simp[World.cell?,a1]
  ·simp[World.cell?,a1]
  ·simp[World.cell?,a1]
  ·simp[World.cell?,a1]
  ·simp[World.cell?,a1]
  ·simp[World.cell?,a1]
  ·simp[World.cell?,a2]
  ·simp[World.cell?,a2]
  ·simp[World.cell?,a2]
  ·simp[World.cell?,a2]
  ·simp[World.cell?,a2]
  ·simp[World.cell?,a2]
  ·simp[World.cell?,a2]
  ·simp[World.cell?,a2]
  ·simp[World.cell?,a2]
  ·simp[World.cell?,a2]
  ·exact dD ((h1.below hb2 (Nat.le_refl _)).below hb (Nat.le_refl _))
  ·exact dD ((h2.below hb2 (Nat.le_refl _)).below hb (Nat.le_refl _))
 have hsm:=(fun w' (hb:Below w2.heap.size w2 w')=>OW la la' ll lc ll Ry ss ss w' ((h3.below hb2 (Nat.le_refl _)).below hb (Nat.le_refl _)) ((h4.below hb2 (Nat.le_refl _)).below hb (Nat.le_refl _)))
 rw[decide_eq_true (rfl:ss=ss)]at hsm
 have Tz:=Lib.hid hsm
 clear hsm
 have HB2:=Lib.hid hb2
 have HW2:=Lib.hid hw2
 have hq:=HK.out _ (Below.refl _ _)
 rw[hw2]at hq
 obtain⟨p0,p1,p2,p3,-,-,-,-,-,-,z0,z1,z2,z3,-,-,-,-,-,-,cv1,cv2⟩:=hq
 clear h1 h2 h3 h4 hA hB hb2 hw2
 go_enter Tryz.func11,Tryz.ntmps11
 go_wp2_with fail
 (with_reducible refine(Tz.out _ (by rw[HW2.out];exact Below.refl _ _)).mono ?_)
 rintro en w3 ⟨rfl,hb3⟩
 have HB3:Hid (Below w2.heap.size w2 w3):=by rw[HW2.out];exact Lib.hid hb3
 have hq:=HK.out _ HB3.out
 obtain⟨-,-,-,-,q4,q5,q6,q7,q8,q9,-,-,-,-,r4,r5,r6,r7,r8,r9,-,-⟩:=hq
 clear hb3
 go_wp2_with fail
 go_ret
 exact⟨rfl,HB2.out.trans (HB3.out.mono HB2.out.size)⟩
section
variable {W w:World} {o:Mark} {i j k p:Nat} {M:eF}
end
section
variable {W w:World} {o:Mark} {i j k p:Nat} {M:eF}
end
theorem KW {S1 S2 S3 S4:Nat→Prop} (r:rO) (da la OX la':Option Addr) (dc lc K5 Ry:Nat) (w:World)
  (h1:aj S1 w da r.data.length (r.data.map bv)) (h2:aj S2 w OX r.data.length (r.data.map bv)) (h3:aO S3 w la r.names.length (r.names.map strOf)) (h4:aO S4 w la' r.names.length (r.names.map strOf)):
  Calls Tryz.prog 11 #[.agg (b_ r da la dc lc), .agg (b_ r OX la' K5 Ry)] w fun en w'=>en= .returned (.bool true)∧Below w.heap.size w w':=
 GK r.er r.n r.data (r.names.map strOf) r.data.length r.names.length _ _ _ _ _ _ da la OX la' dc lc K5 Ry w h1 h2 h3 h4
def lG (M:eF) (k:Nat):List Int:=((List.range k).filter fun n=>(M.fds n).isSome).map fun n:Nat=>(n:Int)
def SY (M:eF):List Int:=lG M 8
theorem Et {M:eF} {k:Nat} {f:EC} (h:M.fds k=some f):lG M (k+1)=lG M k++[(k:Int)]:=by
 unfold lG
 rw[List.range_succ,List.filter_append,List.map_append,List.filter_cons_of_pos (by rw[h];rfl)]
 rfl
theorem wE {M:eF} {k:Nat} (h:M.fds k=none):lG M (k+1)=lG M k:=by
 unfold lG
 rw[List.range_succ,List.filter_append,List.map_append,List.filter_cons_of_neg (by rw[h];simp)]
 simp
theorem GL (M:eF) (k:Nat):(lG M k).length≤k:=by
 unfold lG
 rw[List.length_map]
 have:=List.length_filter_le (fun n=>(M.fds n).isSome) (List.range k)
 rw[List.length_range]at this
 exact this
section
variable {W w:World} {o:Mark} {i j k p:Nat} {M:eF}
set_option maxRecDepth 100000 in
set_option maxHeartbeats 4000000 in
theorem GN (h:aU o i j k w p M):Calls Tryz.prog 19 #[ptr p] w (wN w (SY M)):=by
 obtain⟨ti,hi,hz0,hz1,hz2⟩:=info_parts H9
 obtain⟨t,s,v,h1,h2,h3,h4⟩:=h.at_
 obtain⟨c0,c1,c2,c3,c4⟩:=fH h1
 have e3:=c3 0 (by omega)
 have e4:=c3 1 (by omega)
 have e5:=c3 2 (by omega)
 have e6:=c3 3 (by omega)
 have e7:=c3 4 (by omega)
 have e8:=c3 5 (by omega)
 have e9:=c3 6 (by omega)
 have e10:=c3 7 (by omega)
 have H4:=Lib.hid h4
 clear h h1 h2 h3 h4 c3 c4
 go_enter Tryz.func19,Tryz.ntmps19
 go_wp2_with fail
 go_loopw [3,10] (fun u iv wr=>∃n:Nat,n≤8∧iv= .int .i64 n∧wr.ownsRow w.heap.size 3 1 u (lG M n).length ((lG M n).map (Value.int .i64))∧Below w.heap.size w wr) (fun _ iv _=>8-(intOf iv).toNat)
 case atStart=>exact⟨0,by omega,rfl,⟨rfl, .inl ⟨rfl,rfl⟩⟩,Below.refl _ _⟩
 case round=>
  obtain⟨n,hn,rfl,hO,hb⟩:=hrel
  have hbs:=hb.size
  have HO:=Lib.hid hO
  have HB:=Lib.hid hb
  obtain⟨a5,c5,rfl,Uh⟩:=bF hO
  clear hO hb
  by_cases nD:n<8
  ·have hd:decide ((n:Int)<8)=true:=by simp;omega
   have hix:=DF v n nD wr
   have hf:=H4.out n nD
   have i0:(0:Int)≤n:=by omega
   cases sM:M.fds n with
   |none=>
    rw[sM]at hf
    have hv:v n= .pointer none:=hf
    rw[hv]at hix
    have HE:=Lib.hid (wE sM)
    clear hf hv sM
    go_wp2_with fail
    go_roundw
    case rel=>exact⟨n+1,by omega,by go_num,by rw[HE.out];exact HO.out,HB.out⟩
    case measure=>simp[intOf];omega
   |some f=>
    rw[sM]at hf
    obtain⟨q,fa,fc,hv,_⟩:=hf
    rw[hv]at hix
    have HE:=Lib.hid (Et sM)
    have hb5:Below wr.heap.size wr (wr.alloc (.cells #[.int .i64 n] 3)):=wall wr _
    have TW:=Lib.hid (own_below HO.out hb5)
    have jI:=Lib.hid hb5
    have dS:=Lib.hid (jm (w:=wr) (.int .i64 n) 3)
    have Ua:=hb5.size
    obtain⟨L,hL⟩:∃L,L=(lG M n).length:=⟨_,rfl⟩
    have hLn:L≤8:=by rw[hL];have:=GL M n;omega
    rw[←hL]at TW Uh
    have Ho:=Lib.hid hL
    rw[←hL]
    clear hv sM hb5 hL
    go_wp2_with (at_builtin;(refine aW (by rfl) _ _ 47 (by rfl) w.heap.size 3 ti (.int .i64 0) 8 Tryz.underlying47 hi hz0 hz1 hz2 rfl _ _ _ (by rfl) TW.out (some ⟨wr.heap.size,0,none⟩) 1 1 [.int .i64 n] (by rfl) dS.out (DW [(n:Int)]) (by unfold maxLen;omega) (by omega) (Nat.le_trans hbs Ua) ?_);intro A' c' w6 hown6 yx _ _)
    have HO6:=Lib.hid hown6
    have HG6:=Lib.hid yx
    clear hown6 yx
    go_roundw
    case rel=>
     refine⟨n+1,by omega,by go_num,?_,?_⟩
     ·rw[HE.out,List.map_append,List.length_append,←Ho.out]
      exact HO6.out
     ·exact(HB.out.trans (jI.out.mono hbs)).grown HG6.out (by omega) (dG TW.out)
    case measure=>simp[intOf];omega
  ·have hd:decide ((n:Int)<8)=false:=by simp;omega
   obtain rfl:n=8:=by omega
   go_wp2_with fail
   go_ret
   exact⟨a5,c5,rfl,Uh,(aj.qL HO.out).2.mono (fun b hb=>⟨by omega,hb.2⟩),HB.out⟩
end
end Go.Proofs.YtmabllemjkcobaaGreatDoor
namespace Go.Proofs.YtmabllemjkcobaaGreatDoor.stateBack
open Go.ChangeShapes Go.WideShapes Go.ChangeAt Go.RowKit
set_option linter.unusedVariables false
set_option linter.unusedSimpArgs false
set_option maxRecDepth 100000 in
theorem Eu {H:Type} {enc:TypeId×Value→H} {W:World} {base:Nat} {v0:Value} {d0:DataW H} {p0:List MemPlace} (h0:DataW.Trod enc Tryz.prog W 0 (fun _=>true) true 22 v0 d0 p0) (l0:∀x∈p0,x.block<W.heap.size) (o0:Value.okWide Tryz.prog W .any base 22 v0) (hw:∀n∈d0.weights Tryz.prog 22,n≤reachBytes):
  ∃a len cap,v0= .slice a len cap∧len≤cap∧Sq W a len:=by
 obtain⟨a0,len,cap,rfl⟩:=okWide_slice Tryz.underlying22 o0
 obtain⟨fuel,hf⟩:=h0
 exact Og hf l0 hw
theorem BS {q:Nat} {o:Mark} {w:World} {g:Nat} {x:kQ} {da:Option Addr} {dc:Nat} (h:Ku q o w g x da dc):w.cell? ⟨g,0,none⟩=some (.int .i64 x.kind)∧w.cell? ⟨g,1,none⟩=some (.string (strOf x.path))∧w.cell? ⟨g,2,none⟩=some (.string (strOf x.aA))∧w.cell? ⟨g,3,none⟩=some (.int .i64 x.fd)∧w.cell? ⟨g,4,none⟩=some (.int .i64 x.at_)∧w.cell? ⟨g,5,none⟩=some (.int .i64 x.n)∧w.cell? ⟨g,6,none⟩=some (.int .u64 x.au)∧w.cell? ⟨g,7,none⟩=some (.int .i64 x.snap)∧w.cell? ⟨g,8,none⟩=some (.slice da x.data.length dc):=
 ⟨h.cells.1,h.cells.2.1,h.cells.2.2.1,h.cells.2.2.2.1,h.cells.2.2.2.2.1,h.cells.2.2.2.2.2.1,h.cells.2.2.2.2.2.2.1,h.cells.2.2.2.2.2.2.2.1,h.cells.2.2.2.2.2.2.2.2.1⟩
theorem BU (M:eF):iD (iF M)=iD M:=by
 unfold iD iF
 dsimp only
 rw[qc]
theorem BX (M:eF):SY (iF M)=[]:=by
 have h:∀k,lG (iF M) k=[]:=by
  intro k
  induction k with
  |zero=>rfl
  |succ k ih=>rw[wE rfl,ih]
 exact h 8
def S9 (W:World) (p:Nat) (iv:Value) (wr:World):Prop:=∃(k:Nat) (o:Mark) (M:eF),iv= .int .i64 k∧k≤40∧uy W o 1 wr p (1+k) M∧kL M.s∧jE M.s∧∀b,o b≠7
def Yn (W:World) (c:Int) (p q:Nat) (iv:Value) (wr:World):Prop:=∃(k:Nat) (o:Mark) (M:eF),iv= .int .i64 k∧k≤20∧uy W o 6 wr p (c+k) M∧uy W o 11 wr q (c+k) M∧kL M.s
set_option maxRecDepth 100000 in
set_option maxHeartbeats 64000000 in
theorem walk {H:Type} {enc:TypeId×Value→H} (W:World) (base:Nat) (hsh:W.ShapedOpen Tryz.prog) (v0:Value) (d0:DataW H) (p0:List MemPlace) (o0:Value.okWide Tryz.prog W .any base 22 v0) (h0:DataW.Trod enc Tryz.prog W 0 (fun _=>true) true 22 v0 d0 p0) (l0:∀x∈p0,x.block<W.heap.size) (v1:Value) (d1:DataW H) (p1:List MemPlace) (o1:Value.okWide Tryz.prog W .any base 22 v1) (h1:DataW.Trod enc Tryz.prog W 0 (fun _=>true) true 22 v1 d1 p1) (l1:∀x∈p1,x.block<W.heap.size) (hsz:(DataW.weightsEach Tryz.prog [22,22] ([d0,d1]:List (DataW H))).all (· ≤reachBytes)=true):
  Calls Tryz.prog 8 #[v0,v1] W (Y0 W):=by
 obtain⟨m,hm,-⟩:=D9 hsh
 obtain⟨a,len,cap,rfl,hlc,hops⟩:=Eu h0 l0 o0 (fun n hn=>by
  rw[List.all_eq_true]at hsz
  exact of_decide_eq_true (hsz n (kK (j:=0) rfl rfl n hn)))
 obtain⟨a',len',cap',rfl,hlc',OY⟩:=Eu h1 l1 o1 (fun n hn=>by
  rw[List.all_eq_true]at hsz
  exact of_decide_eq_true (hsz n (kK (j:=1) rfl rfl n hn)))
 have hlm:=hops.1
 have hlm':=OY.1
 unfold maxLen at hlm hlm'
 have HM:=Lib.hid hm
 have HO:=Lib.hid hops
 have HO':=Lib.hid OY
 clear hm hops OY o0 h0 l0 o1 h1 l1 hsz hsh
 go_enter Tryz.func8,Tryz.ntmps8
 go_wp2_with fail
 (with_reducible refine(NT (i:=1) (NU W) (by omega)).mono ?_)
 rintro e w1 ⟨p,o1,rfl,hs1,hS1⟩
 have YS:∀b,o1 b≠7:=miss (k:=7) (fun b=>by decide) (by decide) (fun e=>by have:=e.2;omega) hs1
 have HF7:=Lib.hid YS
 have mU:=Lib.hid hS1
 clear hs1 hS1 YS
 go_upto_block 0 with(fail)
 go_cut [6]from 16 to 32 (fun iv wx=>S9 W p iv wx)
 case first=>
  go_wp2_with fail
  go_loopw [6] (fun iv wr=>S9 W p iv wr) (fun iv _=>40-(intOf iv).toNat)
  case atStart=>exact⟨0,o1,xW,rfl,by omega,mU.out,kL.new,jE.new,HF7.out⟩
  case round=>
   clear mU HF7
   obtain⟨k,o2,M,rfl,hk,hS,Rz,hG,hf⟩:=hrel
   have HS:=Lib.hid hS
   have Af:=Lib.hid Rz
   have HG:=Lib.hid hG
   have HF:=Lib.hid hf
   have hbW:=hS.below
   clear hS Rz hG hf
   by_cases hlt:k<len
   ·by_cases h60:k<40
    ·obtain⟨b,off,rfl,hbl,hat⟩:=HO.out.2 (by omega)
     obtain⟨x,da,dc,hx⟩:=hat k hlt
     obtain⟨d0,d1,d2,d3,d4,d5,d6,d7,d8⟩:=hx.up hbW hbl
     have HX:=Lib.hid hx
     have hd1:decide ((k:Int)<(len:Int))=true:=by simp;omega
     have hd2:decide ((k:Int)<40)=true:=by simp;omega
     have i0:(0:Int)≤(k:Int):=by omega
     have i1:(k:Int)<(len:Int):=by omega
     have HT:=Lib.hid (D8 wr x hx.ok da dc hx.cap (hx.row.below hbW (Nat.le_refl _)))
     unfold opC at HT
     clear hx hat
     go_wp2_with fail
     (with_reducible refine HT.out.mono ?_)
     rintro e w2 ⟨y,Oa,rfl,hty,hcap,hrow,hb2⟩
     have RA:=Lib.hid (hty.ok HX.out.ok)
     have dS:=Lib.hid hrow
     have HS2:=Lib.hid (HS.out.grow hb2)
     clear hty hcap hrow hb2 HT HS d0 d1 d2 d3 d4 d5 d6 d7 d8
     obtain⟨R,M2,he⟩:∃R M2,bM M y=(R,M2):=⟨_,_,rfl⟩
     have RB:Hid (kL M2.s∧jE M2.s):=by
      have h8:=Af.out.do_ HS2.out.ok.next.1 y
      have h9:=HG.out.do_ y
      rw[he]at h8 h9
      exact Lib.hid ⟨h8,h9⟩
     have HC:=Lib.hid (yD HS2.out (by omega) (by omega) y RA.out da Oa dS.out m HM.out (.agg (opC y da Oa)) rfl he)
     clear he
     go_wp2_with fail
     (with_reducible refine HC.out.mono ?_)
     rintro e w3 ⟨o3,⟨v3,rfl,da3,la3,dc3,lc3,rfl,p1,p2,p3,p4⟩,hs3,EA⟩
     have wG:=Lib.hid EA
     have HF3:=Lib.hid (miss HF.out (by decide) (fun e=>by have:=e.2;omega) hs3)
     clear hs3 EA p1 p2 p3 p4 HC HS2 dS
     go_wp2_with fail
     go_roundw
     case rel=>exact⟨k+1,_,M2,by go_num,by omega,wG.out.mono (by omega),RB.out.1,RB.out.2,HF3.out⟩
     case measure=>simp[intOf];omega
    ·have hd1:decide ((k:Int)<(len:Int))=true:=by simp;omega
     have hd2:decide ((k:Int)<40)=false:=by simp;omega
     go_wp2_with fail
     go_meet
     exact⟨k,o2,M,rfl,hk,HS.out,Af.out,HG.out,HF.out⟩
   ·have hd1:decide ((k:Int)<(len:Int))=false:=by simp;omega
    go_wp2_with fail
    go_meet
    exact⟨k,o2,M,rfl,hk,HS.out,Af.out,HG.out,HF.out⟩
 case rest=>
  clear mU HF7
  obtain⟨k,o2,M,rfl,hk,hS,Rz,hG,hf⟩:=hcut
  obtain⟨w3,rfl⟩:∃w3:World,w3=wc:=⟨_,rfl⟩
  obtain⟨c,hc⟩:∃c:Int,c=1+k:=⟨_,rfl⟩
  rw[←hc]at hS
  have hc1:c≤41∧1≤c:=by omega
  have wG:=Lib.hid hS
  have Af:=Lib.hid Rz
  have HG:=Lib.hid hG
  have HF:=Lib.hid hf
  have hsv:D_ M.s:=hS.ok.sv (by omega) Rz
  have Dz:=Lib.hid hsv
  obtain⟨t1,s1,v1,-,Yo,-,-⟩:=hS.st.at_
  have HSL:=Lib.hid (yI Yo hsv)
  clear hS Rz hG hf hsv Yo hc hk
  have K7:=Lib.hid (lq wG.out.st wG.out.marks wG.out.ok Dz.out)
  go_wp2_with fail
  (with_reducible refine K7.out.mono ?_)
  rintro e w4 ⟨ra,rn,rc,rfl,hrc,hrr,hb4⟩
  have wD:=Lib.hid (hrr.xJ wG.out.marks)
  have iH:=Lib.hid (wG.out.grow hb4)
  clear hrr hb4 K7 wG
  have HST:=Lib.hid (GJ iH.out (by omega) 6 (by omega) HF.out)
  go_wp2_with fail
  (with_reducible refine HST.out.mono ?_)
  rintro e w5 ⟨q,o5,rfl,hs5,Yp⟩
  have VF:=Lib.hid Yp
  have fQ:=Lib.hid (iH.out.other (by omega) (by omega) (by omega) hs5)
  have vT:=Lib.hid (wD.out.free (I:=Five 6) (fun e=>by have:=e.1;omega) hs5)
  clear hs5 Yp HST iH wD HF
  have K3:=Lib.hid (Rx VF.out.marks 11 (by omega) fQ.out.ok (by omega) HG.out Af.out (by have:=HSL.out;omega) ra rn rc vT.out)
  go_wp2_with fail
  (with_reducible refine K3.out.mono ?_)
  rintro e w6 ⟨r,o6,rfl,hs6,hV6⟩
  have Sn:=Lib.hid hV6
  have lg:=Lib.hid (fQ.out.other (by omega) (by omega) (by omega) hs6)
  have YZ:=Lib.hid (VF.out.other (by omega) (by omega) (by omega) hs6)
  have IJ:=Lib.hid (vT.out.free (I:=Five 11) (fun e=>by have:=e.1;omega) hs6)
  clear hs6 hV6 K3 fQ VF vT
  go_wp2_with fail
  have Ev:=Lib.hid (lg.out.grow (Below.refl _ _).drew)
  have OZ:=Lib.hid (YZ.out.grow (Below.refl _ _).drew)
  have RD:=Lib.hid (Sn.out.grow (Below.refl _ _).drew)
  have VG:=Lib.hid (IJ.out.below (Below.refl _ _).drew (Nat.le_refl _))
  clear lg YZ Sn IJ
  refine wp_region_noPanic ?_
  refine wp_region_held_drew (S:=(fun w'=>(convert 26 9 (.slice ra rn rc)).run Tryz.prog w'= .ok (.string (strOf (iD M))) w')) (by kernel_rfl) ?_ (fun hS=> ?_)
  ·exact dD (c:=rc) VG.out
  refine dz 0 (hS:=hS) (h:= ?_)
  refine dz 1 (hS:=hS) (h:= ?_)
  refine dz 2 (hS:=hS) (h:= ?_)
  refine dz 3 (hS:=hS) (h:= ?_)
  refine dz 4 (hS:=hS) (h:= ?_)
  refine dz 5 (hS:=hS) (h:= ?_)
  refine dz 6 (hS:=hS) (h:= ?_)
  refine dz 7 (hS:=hS) (h:= ?_)
  refine dz 8 (hS:=hS) (h:= ?_)
  refine dz 9 (hS:=hS) (h:= ?_)
  refine dz 10 (hS:=hS) (h:= ?_)
  refine dz 11 (hS:=hS) (h:= ?_)
  refine dz 14 (hS:=hS) (h:= ?_)
  refine dz 15 (hS:=hS) (h:= ?_)
  have K7:=Lib.hid (lq RD.out.st RD.out.marks RD.out.ok Dz.out)
  rw[BU]at K7
  refine uW 12 (h:=fun K hK=> ?_)
  go_simp
  (with_reducible refine K7.out.mono ?_)
  rintro e w7 ⟨ua,un,uc,rfl,huc,hur,Cn⟩
  have U6:=Lib.hid hur
  have U7:=Lib.hid (VG.out.below Cn (Nat.le_refl _))
  have Uw:=Lib.hid (Ev.out.grow Cn)
  have HU7:=Lib.hid (OZ.out.grow Cn)
  have HV7:=Lib.hid (RD.out.grow Cn)
  clear hur Cn K7 Ev OZ RD VG
  go_wp2_with fail
  refine hK.out _ _ (dD (c:=rc) U7.out) (fun hS=> ?_)
  clear hK K
  try simp only[Act.put,List.setIfInBounds_toArray,List.set_cons_zero,List.set_cons_succ]
  refine j4 (S':=fun w'=>(convert 26 9 (.slice ra rn rc)).run Tryz.prog w'= .ok (.string (strOf (iD M))) w'∧(convert 26 9 (.slice ua un uc)).run Tryz.prog w'= .ok (.string (strOf (iD M))) w') (fun _ h=>h.1) _ _ _ _ ?_
  have Yq:=And.intro hS (dD (c:=uc) U6.out)
  clear hS
  have hS:=Yq
  clear Yq
  refine dz 13 (hS:=hS) (h:= ?_)
  refine dz 16 (hS:=hS) (h:= ?_)
  refine dz 17 (hS:=hS) (h:= ?_)
  refine dz 18 (hS:=hS) (h:= ?_)
  refine dz 19 (hS:=hS) (h:= ?_)
  refine dz 21 (hS:=hS) (h:= ?_)
  refine uW 20 (h:=fun K hK=> ?_)
  go_simp
  (with_reducible refine(Ih HV7.out).mono ?_)
  rintro e w8 ⟨rfl,Ag⟩
  have U8:=Lib.hid (U6.out.kept Ag.size (fun b hb _=>Ag.block b hb.2))
  have U9:=Lib.hid (U7.out.below Ag (Nat.le_refl _))
  have Mv:=Lib.hid (Uw.out.grow Ag)
  have HU8:=Lib.hid (HU7.out.grow Ag)
  have HV8:=Lib.hid (HV7.out.grow Ag)
  clear Ag U6 U7 Uw HU7 HV7
  go_wp2_with fail
  refine hK.out _ _ (⟨dD (c:=rc) U9.out,dD (c:=uc) U8.out⟩) (fun hS=> ?_)
  clear hK K
  try simp only[Act.put,List.setIfInBounds_toArray,List.set_cons_zero,List.set_cons_succ]
  refine uW 22 (h:=fun K hK=> ?_)
  go_simp
  (with_reducible refine(Ih Mv.out).mono ?_)
  rintro e w9 ⟨rfl,fM⟩
  have GQ:=Lib.hid (U8.out.kept fM.size (fun b hb hbw=>fM.block b hbw))
  have GR:=Lib.hid (U9.out.below fM (Nat.le_refl _))
  have HU9:=Lib.hid (HU8.out.grow fM)
  have Vw:=Lib.hid (HV8.out.grow fM)
  clear fM U8 U9 Mv HU8 HV8
  rw[show(iF M).now=M.now from rfl]
  go_wp2_with fail
  refine hK.out _ _ (⟨dD (c:=rc) GR.out,dD (c:=uc) GQ.out⟩) (fun hS=> ?_)
  clear hK K
  try simp only[Act.put,List.setIfInBounds_toArray,List.set_cons_zero,List.set_cons_succ]
  refine dz 23 (hS:=hS) (h:= ?_)
  refine dz 24 (hS:=hS) (h:= ?_)
  refine dz 25 (hS:=hS) (h:= ?_)
  refine dz 26 (hS:=hS) (h:= ?_)
  have wV:=Lib.hid (GN Vw.out.st)
  rw[BX]at wV
  refine uW 27 (h:=fun K hK=> ?_)
  go_simp
  (with_reducible refine wV.out.mono ?_)
  rintro e wa ⟨oa,oc,rfl,hoc,hor,hba⟩
  have Yr:=Lib.hid (GQ.out.kept hba.size (fun b hb hbw=>hba.block b hbw))
  have Yt:=Lib.hid (GR.out.below hba (Nat.le_refl _))
  have HUA:=Lib.hid (HU9.out.grow hba)
  have HVA:=Lib.hid (Vw.out.grow hba)
  clear hor hba GQ GR HU9 Vw wV
  rw[List.length_nil]
  go_wp2_with fail
  refine hK.out _ _ (⟨dD (c:=rc) Yt.out,dD (c:=uc) Yr.out⟩) (fun hS=> ?_)
  clear hK K
  try simp only[Act.put,List.setIfInBounds_toArray,List.set_cons_zero,List.set_cons_succ]
  refine dz 28 (hS:=hS) (h:= ?_)
  refine dz 29 (hS:=hS) (h:= ?_)
  refine dz 30 (hS:=hS) (h:= ?_)
  refine wpAnyH_done (by kernel_rfl) ?_ _
  refine NoPanic.normal ?_
  clear hS Yr Yt
  have J7:Hid (kL (iF M).s):=Af.out
  obtain⟨M0,hM0⟩:∃M0,M0=iF M:=⟨_,rfl⟩
  rw[←hM0]at HUA HVA J7
  clear hM0 HG Dz HSL Af
  go_wp2_with fail
  go_loopw [11,12] (fun iv _ wr=>Yn W c q r iv wr) (fun iv _ _=>20-(intOf iv).toNat)
  case atStart=>exact⟨0,o6,M0,rfl,by omega,HUA.out.mono (by omega),HVA.out.mono (by omega),J7.out⟩
  case round=>
   clear HUA HVA J7
   obtain⟨k,o2,M,rfl,hk,hS,hU,Rz⟩:=hrel
   have HS:=Lib.hid hS
   have HU:=Lib.hid hU
   have Af:=Lib.hid Rz
   have hbW:=hS.below
   clear hS hU Rz
   by_cases hlt:k<len'
   ·by_cases h60:k<20
    ·obtain⟨b,off,rfl,hbl,hat⟩:=HO'.out.2 (by omega)
     obtain⟨x,da,dc,hx⟩:=hat k hlt
     obtain⟨d0,d1,d2,d3,d4,d5,d6,d7,d8⟩:=hx.up hbW hbl
     have HX:=Lib.hid hx
     have hd1:decide ((k:Int)<(len':Int))=true:=by simp;omega
     have hd2:decide ((k:Int)<20)=true:=by simp;omega
     have i0:(0:Int)≤(k:Int):=by omega
     have i1:(k:Int)<(len':Int):=by omega
     have HT:=Lib.hid (D8 wr x hx.ok da dc hx.cap (hx.row.below hbW (Nat.le_refl _)))
     unfold opC at HT
     clear hx hat
     go_wp2_with fail
     (with_reducible refine HT.out.mono ?_)
     rintro e w2 ⟨y,Oa,rfl,hty,hcap,hrow,hb2⟩
     have RA:=Lib.hid (hty.ok HX.out.ok)
     have dS:=Lib.hid hrow
     have HS2:=Lib.hid (HS.out.grow hb2)
     have YQ:=Lib.hid (HU.out.grow hb2)
     have hbw2:=HS2.out.below.size
     clear hty hcap hrow hb2 HT HS HU d0 d1 d2 d3 d4 d5 d6 d7 d8
     go_wp2_with (refine ak (by rfl) 28 _ _ (by rfl) _ (opC y da Oa) (by rfl) (by rfl) _ (MapKept.heap_alloc _ _).1 jf rfl (iy _ _ _) ?_;intro w3 hs3;obtain⟨o3,U_,hv3⟩:=Uv HS2.out.marks 16 hs3;have HR3:=Lib.hid (dS.out.below (hs3.below (wall w2 (.cells opZ 28)) (Nat.le_refl _)) (by have:=HS2.out.below.size;omega));have YP:=Lib.hid hv3;have wG:=Lib.hid (HS2.out.one (by omega) U_);have Vs:=Lib.hid (YQ.out.one (by omega) U_);clear hs3 U_ hv3 HS2 YQ dS)
     obtain⟨R,M2,he⟩:∃R M2,bM M y=(R,M2):=⟨_,_,rfl⟩
     have RB:Hid (kL M2.s):=by
      have:=Af.out.do_ wG.out.ok.next.1 y
      rw[he]at this;exact Lib.hid this
     have HE:=Lib.hid he
     clear he
     have Ev:=Lib.hid (wG.out.grow (Below.refl _ _).drew)
     have OZ:=Lib.hid (Vs.out.grow (Below.refl _ _).drew)
     have RD:=Lib.hid (YP.out.grow wG.out.marks (Below.refl _ _).drew)
     have VG:=Lib.hid (HR3.out.below (Below.refl _ _).drew (Nat.le_refl _))
     have Yu:Hid (∀w',Below W.heap.size W w'→aj (fun b=>b<W.heap.size) w' da y.data.length (y.data.map bv)):=fun w' hb=>by
      have hb3:=wG.out.below
      have h9:=HR3.out
      exact⟨h9.length,h9.small,fun h0=>by
       obtain⟨b9,f9,e9,U5,fM,KY⟩:=h9.at_ h0
       exact⟨b9,f9,e9,U5,Nat.lt_of_lt_of_le U5 hb.size,fun i hi=>((hb.cell (p:=⟨b9,f9+i,none⟩) U5).trans (hb3.cell (p:=⟨b9,f9+i,none⟩) U5).symm).trans (KY i hi)⟩⟩
     have AA:=Lib.hid (yD Ev.out (by omega) (by omega) y RA.out da Oa VG.out m HM.out (.agg (opC y da Oa)) rfl HE.out)
     unfold opC at AA
     clear wG Vs HR3
     refine wp_region_noPanic ?_
     refine wp_region_held_drew (S:=(fun w'=>w'.cell? ⟨w2.heap.size,0,none⟩=some (.int .i64 y.kind)∧w'.cell? ⟨w2.heap.size,1,none⟩=some (.string (strOf y.path))∧w'.cell? ⟨w2.heap.size,2,none⟩=some (.string (strOf y.aA))∧w'.cell? ⟨w2.heap.size,3,none⟩=some (.int .i64 y.fd)∧w'.cell? ⟨w2.heap.size,4,none⟩=some (.int .i64 y.at_)∧w'.cell? ⟨w2.heap.size,5,none⟩=some (.int .i64 y.n)∧w'.cell? ⟨w2.heap.size,6,none⟩=some (.int .u64 y.au)∧w'.cell? ⟨w2.heap.size,7,none⟩=some (.int .i64 y.snap)∧w'.cell? ⟨w2.heap.size,8,none⟩=some (.slice da y.data.length Oa))) (by kernel_rfl) ?_ (fun hS=> ?_)
     ·exact BS RD.out
     refine dz 0 (hS:=hS) (h:= ?_)
     refine dz 1 (hS:=hS) (h:= ?_)
     refine dz 3 (hS:=hS) (h:= ?_)
     refine dz 4 (hS:=hS) (h:= ?_)
     refine uW 2 (h:=fun K hK=> ?_)
     go_simp
     (with_reducible refine AA.out.mono ?_)
     rintro e w4 ⟨o4,⟨v4,rfl,Ch,Ci,Cj,Ck,rfl,p1,p2,p3,p4⟩,hs4,nS⟩
     have iH:=Lib.hid nS
     have K8:=Lib.hid (OZ.out.other (by omega) (by omega) (by omega) hs4)
     have HV4:=Lib.hid (RD.out.five (by omega) hs4)
     have HP3:=Lib.hid p3
     have HP4:=Lib.hid p4
     have HR4:=Lib.hid (Yu.out w4 nS.below)
     clear hs4 nS p1 p2 p3 p4 AA Ev OZ RD VG
     go_wp2_with fail
     refine hK.out _ _ (BS HV4.out) (fun hS=> ?_)
     clear hK K
     try simp only[Act.put,List.setIfInBounds_toArray,List.set_cons_zero,List.set_cons_succ]
     have qA:=Lib.hid (yD K8.out (by omega) (by omega) y RA.out da Oa HR4.out m HM.out (.agg (opC y da Oa)) rfl HE.out)
     unfold opC at qA
     refine uW 5 (h:=fun K hK=> ?_)
     go_simp
     (with_reducible refine qA.out.mono ?_)
     rintro e w5 ⟨o5,⟨v5,rfl,da5,la5,dc5,lc5,rfl,p1,p2,p3,p4⟩,hs5,Yp⟩
     have VF:=Lib.hid Yp
     have fQ:=Lib.hid (iH.out.other (by omega) (by omega) (by omega) hs5)
     have HV5:=Lib.hid (HV4.out.five (by omega) hs5)
     have hn5:¬Five 11 0:=fun e=>by have:=e.1;omega
     have HRP:=Lib.hid (KW R Ch Ci da5 la5 Cj Ck dc5 lc5 w5 (HP3.out.free hn5 hs5) p3 ⟨HP4.out.row.free hn5 hs5,HP4.out.short⟩ p4)
     clear hs5 Yp p1 p2 p3 p4 qA iH K8 HV4 HP3 HP4 HR4 hn5
     go_wp2_with fail
     refine hK.out _ _ (BS HV5.out) (fun hS=> ?_)
     clear hK K
     try simp only[Act.put,List.setIfInBounds_toArray,List.set_cons_zero,List.set_cons_succ]
     refine uW 6 (h:=fun K hK=> ?_)
     go_simp
     (with_reducible refine HRP.out.mono ?_)
     rintro e w6 ⟨rfl,hb6⟩
     have Sn:=Lib.hid (HV5.out.grow fQ.out.marks hb6)
     have lg:=Lib.hid (fQ.out.grow hb6)
     have YZ:=Lib.hid (VF.out.grow hb6)
     clear hb6 HRP fQ VF HV5
     go_wp2_with fail
     refine hK.out _ _ (BS Sn.out) (fun hS=> ?_)
     clear hK K
     try simp only[Act.put,List.setIfInBounds_toArray,List.set_cons_zero,List.set_cons_succ]
     refine dz 7 (hS:=hS) (h:= ?_)
     refine wpAnyH_done (by kernel_rfl) ?_ _
     refine NoPanic.normal ?_
     clear hS Sn
     go_wp2_with fail
     go_roundw
     case rel=>exact⟨k+1,_,M2,by go_num,by omega,lg.out.mono (by omega),YZ.out.mono (by omega),RB.out⟩
     case measure=>simp[intOf];omega
    ·have hd1:decide ((k:Int)<(len':Int))=true:=by simp;omega
     have hd2:decide ((k:Int)<20)=false:=by simp;omega
     have hsv:D_ M.s:=HS.out.ok.sv (by omega) Af.out
     have Dz:=Lib.hid hsv
     clear hsv
     have Ev:=Lib.hid (HS.out.grow (Below.refl _ _).drew)
     have OZ:=Lib.hid (HU.out.grow (Below.refl _ _).drew)
     have K7:=Lib.hid (lq Ev.out.st Ev.out.marks Ev.out.ok Dz.out)
     clear HS HU
     go_wp2_with fail
     refine wp_region_noPanic ?_
     refine wp_region_held_drew (S:=(fun _=>True)) (by kernel_rfl) ?_ (fun hS=> ?_)
     ·exact trivial
     refine dz 0 (hS:=hS) (h:= ?_)
     refine dz 3 (hS:=hS) (h:= ?_)
     refine uW 1 (h:=fun K hK=> ?_)
     go_simp
     (with_reducible refine K7.out.mono ?_)
     rintro e w4 ⟨ra,rn,rc,rfl,hrc,hrr,hb4⟩
     have HRR:=Lib.hid hrr
     have iH:=Lib.hid (Ev.out.grow hb4)
     have K8:=Lib.hid (OZ.out.grow hb4)
     clear hrr hb4 K7 Ev OZ
     go_wp2_with fail
     refine hK.out _ _ (trivial) (fun hS=> ?_)
     clear hK K
     try simp only[Act.put,List.setIfInBounds_toArray,List.set_cons_zero,List.set_cons_succ]
     refine j4 (S':=fun w'=>True∧(convert 26 9 (.slice ra rn rc)).run Tryz.prog w'= .ok (.string (strOf (iD M))) w') (fun _ h=>h.1) _ _ _ _ ?_
     have Yv:=And.intro hS (dD (c:=rc) HRR.out)
     clear hS
     have hS:=Yv
     clear Yv
     refine dz 2 (hS:=hS) (h:= ?_)
     have Yw:=Lib.hid (lq K8.out.st K8.out.marks K8.out.ok Dz.out)
     refine uW 4 (h:=fun K hK=> ?_)
     go_simp
     (with_reducible refine Yw.out.mono ?_)
     rintro e w5 ⟨ua,un,uc,rfl,huc,hur,hb5⟩
     have Va:=Lib.hid hur
     have GU:=Lib.hid (HRR.out.kept hb5.size (fun b hb _=>hb5.block b hb.2))
     have fQ:=Lib.hid (iH.out.grow hb5)
     clear hur hb5 Yw iH K8 HRR
     go_wp2_with fail
     refine hK.out _ _ (⟨trivial,dD (c:=rc) GU.out⟩) (fun hS=> ?_)
     clear hK K
     try simp only[Act.put,List.setIfInBounds_toArray,List.set_cons_zero,List.set_cons_succ]
     refine j4 (S':=fun w'=>(True∧(convert 26 9 (.slice ra rn rc)).run Tryz.prog w'= .ok (.string (strOf (iD M))) w')∧(convert 26 9 (.slice ua un uc)).run Tryz.prog w'= .ok (.string (strOf (iD M))) w') (fun _ h=>h.1) _ _ _ _ ?_
     have Yx:=And.intro hS (dD (c:=uc) Va.out)
     clear hS
     have hS:=Yx
     clear Yx
     refine dz 5 (hS:=hS) (h:= ?_)
     refine dz 6 (hS:=hS) (h:= ?_)
     refine dz 7 (hS:=hS) (h:= ?_)
     have hmr:w5.cell? ⟨0,0,none⟩=some (.int .i64 m):=(fQ.out.below.cell (p:=⟨0,0,none⟩) (World.block_lt_of_cell? W _ HM.out)).trans HM.out
     have HK:=Lib.hid (vY w5 m hmr)
     clear hmr
     refine uW 8 (h:=fun K hK=> ?_)
     go_simp
     (with_reducible refine HK.out.mono ?_)
     rintro e w9 ⟨rfl,fM⟩
     have GQ:=Lib.hid (Va.out.kept fM.size (fun b hb hbw=>fM.block b hbw))
     have GR:=Lib.hid (GU.out.kept fM.size (fun b hb hbw=>fM.block b hbw))
     have qz:=Lib.hid (fQ.out.below.trans (fM.mono fQ.out.below.size))
     clear fM HK GU Va
     go_wp2_with fail
     refine hK.out _ _ (⟨⟨trivial,dD (c:=rc) GR.out⟩,dD (c:=uc) GQ.out⟩) (fun hS=> ?_)
     clear hK K
     try simp only[Act.put,List.setIfInBounds_toArray,List.set_cons_zero,List.set_cons_succ]
     refine dz 9 (hS:=hS) (h:= ?_)
     refine dz 10 (hS:=hS) (h:= ?_)
     refine wpAnyH_done (by kernel_rfl) ?_ _
     refine NoPanic.normal ?_
     clear hS
     go_wp2_with fail
     go_ret
     exact⟨rfl,qz.out⟩
   ·have hd1:decide ((k:Int)<(len':Int))=false:=by simp;omega
    have hsv:D_ M.s:=HS.out.ok.sv (by omega) Af.out
    have Dz:=Lib.hid hsv
    clear hsv
    have Ev:=Lib.hid (HS.out.grow (Below.refl _ _).drew)
    have OZ:=Lib.hid (HU.out.grow (Below.refl _ _).drew)
    have K7:=Lib.hid (lq Ev.out.st Ev.out.marks Ev.out.ok Dz.out)
    clear HS HU
    go_wp2_with fail
    refine wp_region_noPanic ?_
    refine wp_region_held_drew (S:=(fun _=>True)) (by kernel_rfl) ?_ (fun hS=> ?_)
    ·exact trivial
    refine dz 0 (hS:=hS) (h:= ?_)
    refine dz 3 (hS:=hS) (h:= ?_)
    refine uW 1 (h:=fun K hK=> ?_)
    go_simp
    (with_reducible refine K7.out.mono ?_)
    rintro e w4 ⟨ra,rn,rc,rfl,hrc,hrr,hb4⟩
    have HRR:=Lib.hid hrr
    have iH:=Lib.hid (Ev.out.grow hb4)
    have K8:=Lib.hid (OZ.out.grow hb4)
    clear hrr hb4 K7 Ev OZ
    go_wp2_with fail
    refine hK.out _ _ (trivial) (fun hS=> ?_)
    clear hK K
    try simp only[Act.put,List.setIfInBounds_toArray,List.set_cons_zero,List.set_cons_succ]
    refine j4 (S':=fun w'=>True∧(convert 26 9 (.slice ra rn rc)).run Tryz.prog w'= .ok (.string (strOf (iD M))) w') (fun _ h=>h.1) _ _ _ _ ?_
    have Yy:=And.intro hS (dD (c:=rc) HRR.out)
    clear hS
    have hS:=Yy
    clear Yy
    refine dz 2 (hS:=hS) (h:= ?_)
    have Yw:=Lib.hid (lq K8.out.st K8.out.marks K8.out.ok Dz.out)
    refine uW 4 (h:=fun K hK=> ?_)
    go_simp
    (with_reducible refine Yw.out.mono ?_)
    rintro e w5 ⟨ua,un,uc,rfl,huc,hur,hb5⟩
    have Va:=Lib.hid hur
    have GU:=Lib.hid (HRR.out.kept hb5.size (fun b hb _=>hb5.block b hb.2))
    have fQ:=Lib.hid (iH.out.grow hb5)
    clear hur hb5 Yw iH K8 HRR
    go_wp2_with fail
    refine hK.out _ _ (⟨trivial,dD (c:=rc) GU.out⟩) (fun hS=> ?_)
    clear hK K
    try simp only[Act.put,List.setIfInBounds_toArray,List.set_cons_zero,List.set_cons_succ]
    refine j4 (S':=fun w'=>(True∧(convert 26 9 (.slice ra rn rc)).run Tryz.prog w'= .ok (.string (strOf (iD M))) w')∧(convert 26 9 (.slice ua un uc)).run Tryz.prog w'= .ok (.string (strOf (iD M))) w') (fun _ h=>h.1) _ _ _ _ ?_
    have Yz:=And.intro hS (dD (c:=uc) Va.out)
    clear hS
    have hS:=Yz
    clear Yz
    refine dz 5 (hS:=hS) (h:= ?_)
    refine dz 6 (hS:=hS) (h:= ?_)
    refine dz 7 (hS:=hS) (h:= ?_)
    have hmr:w5.cell? ⟨0,0,none⟩=some (.int .i64 m):=(fQ.out.below.cell (p:=⟨0,0,none⟩) (World.block_lt_of_cell? W _ HM.out)).trans HM.out
    have HK:=Lib.hid (vY w5 m hmr)
    clear hmr
    refine uW 8 (h:=fun K hK=> ?_)
    go_simp
    (with_reducible refine HK.out.mono ?_)
    rintro e w9 ⟨rfl,fM⟩
    have GQ:=Lib.hid (Va.out.kept fM.size (fun b hb hbw=>fM.block b hbw))
    have GR:=Lib.hid (GU.out.kept fM.size (fun b hb hbw=>fM.block b hbw))
    have qz:=Lib.hid (fQ.out.below.trans (fM.mono fQ.out.below.size))
    clear fM HK GU Va
    go_wp2_with fail
    refine hK.out _ _ (⟨⟨trivial,dD (c:=rc) GR.out⟩,dD (c:=uc) GQ.out⟩) (fun hS=> ?_)
    clear hK K
    try simp only[Act.put,List.setIfInBounds_toArray,List.set_cons_zero,List.set_cons_succ]
    refine dz 9 (hS:=hS) (h:= ?_)
    refine dz 10 (hS:=hS) (h:= ?_)
    refine wpAnyH_done (by kernel_rfl) ?_ _
    refine NoPanic.normal ?_
    clear hS
    go_wp2_with fail
    go_ret
    exact⟨rfl,qz.out⟩
end Go.Proofs.YtmabllemjkcobaaGreatDoor.stateBack
