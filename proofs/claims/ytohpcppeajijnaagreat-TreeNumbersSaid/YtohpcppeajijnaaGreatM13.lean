/- DERIVED: THE SHELF's CONTRACTS AT THIS DUMP, IN PLAIN WORDS (tools/lay-plain.mjs out of 'YtohpcppeajijnaaGreatLaypGrowLay.lean', which tools/lay-shelf.mjs wrote): THE SAME DECLARATIONS UNDER THE SAME NAMES: 'import', 'namespace', 'open', 'def', 'theorem' AND NOTHING ELSE: no command of the shelf's: FOR A HAND-IN. Each laying: the table of numbers ('.._ren') and one theorem, a field a fact of the dump's own or the kernel's comparison; each contract: ONE APPLICATION. slices.Concat of rows of bytes. slices.Clone of bytes. tree: Seal, Keep, Part, Read, Append. tree: Part, Read, Append. package codec: Short, Byte, Long, Flag, Raw, Bytes, Done, NewWriter. Rows whose elements have more than one cell: append. -/
import Derived.Test.YtohpcppeajijnaaGreatProg
import Derived.Shelf.Spec.SlicesGrow
import Derived.Test.YtohpcppeajijnaaGreatM03
import Derived.Test.YtohpcppeajijnaaGreatM02
import Derived.Lib.SliceRun
import Derived.Test.YtohpcppeajijnaaGreatM12
import Derived.Test.YtohpcppeajijnaaGreatM11
namespace Go.Proofs
open Go.Shelf
def Tryz.rV:Go.Shelf.Ren:=⟨fun|4=>130|n=>n,fun|22=>39|25=>5|3=>3|4=>4|9=>9|20=>20|0=>0|n=>n,fun|n=>n⟩
theorem Tryz.KT:Go.Proofs.Lays8.n4 Tryz.prog Tryz.rV:={
 mixed:=by kernel_rfl
 f4:=⟨Tryz.f130.name,by decide,Tryz.func130.trans (congrArg some (by kernel_rfl))⟩
 t0:=Tryz.underlying0
 a0:=Tryz.isAgg0
 z0:=Tryz.sizeOf0
 v0:=Tryz.zeroValue0
 t3:=Tryz.underlying3
 a3:=Tryz.isAgg3
 z3:=Tryz.sizeOf3
 v3:=Tryz.zeroValue3
 t4:=Tryz.underlying4
 a4:=Tryz.isAgg4
 z4:=Tryz.sizeOf4
 v4:=Tryz.zeroValue4
 t9:=Tryz.underlying9
 a9:=Tryz.isAgg9
 z9:=Tryz.sizeOf9
 v9:=Tryz.zeroValue9
 t20:=Tryz.underlying20
 a20:=Tryz.isAgg20
 z20:=Tryz.sizeOf20
 v20:=Tryz.zeroValue20
 t22:=Tryz.underlying39
 a22:=Tryz.isAgg39
 z22:=Tryz.sizeOf39
 v22:=Tryz.zeroValue39}
end Go.Proofs
namespace Go.Proofs.YtohpcppeajijnaaGreat
open Go.ChangeShapes Go.WideShapes Go.ChangeAt Go.RowKit
set_option linter.unusedVariables false
set_option linter.unusedSimpArgs false
theorem FQ (n:Nat) (w:World) (hn:n≤1000000000):
  Calls Tryz.prog 130 #[.slice none 0 0, .int .i64 n] w fun e w'=>∃v,e= .returned v∧w'.ownsRow w.heap.size 5 1 v 0 []∧Below w.heap.size w w':=by
 obtain⟨i0,hi,hz0,hz1,hz2⟩:=info_parts Tryz.Ca
 by_cases h0:n=0
 ·subst h0
  refine(Any8.slices_Grow_room Tryz.KT none 0 0 0 w (by omega) (by omega) (by omega) (by omega)).mono ?_
  rintro e w' ⟨rfl,rfl⟩
  exact⟨_,rfl,⟨rfl, .inl ⟨rfl,rfl⟩⟩,Below.refl _ _⟩
 ·refine(Any8.slices_Grow_grow Tryz.KT i0 (.int .u8 0) hi hz0 (by rw[hz1];omega) none 0 0 n [] w (by omega) (by omega) (by rw[hz2];omega) (by omega) (by simp) (fun _=>rfl) (fun a h=>by cases h)).mono ?_
  rintro e w' ⟨rfl,rfl⟩
  have h1:=grownCap_ge w (0+n) 0 (Tryz.rV.t 25)
  have h2:=grownCap_le_maxLen w (0+n) 0 (Tryz.rV.t 25) (by unfold maxLen;omega)
  refine⟨_,rfl,⟨rfl, .inr ⟨w.heap.size,_,_,rfl,Nat.le_refl _,(MapKept.heap_alloc w.drew _).1,Nat.zero_le _,h2,?_,rfl⟩⟩,((Below.refl _ _).drew).alloc (Nat.le_refl _) _⟩
  have e1:(Value.cells (.int .u8 0)).size=1:=rfl
  simp only[Array.size_append,size_zeroCells,List.size_toArray,List.length_nil,e1]
  omega
theorem wX {w:World} {base:Nat} {e:TypeId} {size:Nat} {v:Value} {n:Nat} {xs:List Value} (h:w.ownsRow base e size v n xs):∃a c,v= .slice a n c∧n≤c∧c≤maxLen:=by
 rcases h.2 with⟨rfl,rfl⟩|⟨g,cap,cur,rfl,_,_,h,h',_⟩
 ·exact⟨_,_,rfl,Nat.le_refl _,Nat.zero_le _⟩
 ·exact⟨_,_,rfl,h,h'⟩
theorem wY (jG:List (List UInt8)) (k:Nat) (bs:List UInt8) (h:jG[k]? =some bs):(jG.take (k+1)).flatten=(jG.take k).flatten++bs:=by
 obtain⟨hk,e⟩:=List.getElem?_eq_some_iff.1 h
 rw[List.take_succ_eq_append_getElem hk,List.flatten_append,e]
 simp
theorem Jq (jG:List (List UInt8)) (k:Nat):(jG.take k).flatten.length≤jG.flatten.length:=by
 conv=>rhs;rw[←List.take_append_drop k jG,List.flatten_append]
 simp
def m_ (jG:List (List UInt8)) (k:Nat):List UInt8:=(jG.take k).flatten
def lJ (jG:List (List UInt8)) (k:Nat):Nat:=(m_ jG k).length
set_option maxRecDepth 100000 in
set_option maxHeartbeats 4000000 in
theorem Aq {S:Nat→Prop} (B n:Nat) (jG:List (List UInt8)) (w:World) (hn:n=jG.length) (hn2:n≤1000) (hB:B<w.heap.size) (htot:jG.flatten.length≤1000000000)
  (hc:∀k,k<n→∃a l c bs,w.cell? ⟨B,k,none⟩=some (.slice a l c)∧ak S w a l (bs.map bv)∧jG[k]? =some bs):
  Calls Tryz.prog 77 #[.slice (some ⟨B,0,none⟩) n n] w fun e w'=>∃a c,e= .returned (.slice a jG.flatten.length c)∧(jG.flatten.length≤c∧c≤maxLen)∧ak (fun x=>w.heap.size≤x∧x<w'.heap.size) w' a jG.flatten.length (jG.flatten.map bv)∧Below w.heap.size w w':=by
 obtain⟨i0,hi,hz0,hz1,hz2⟩:=info_parts Tryz.Ca
 have HN:=Lib.hid hn
 have HC:=Lib.hid hc
 have hle:∀k,lJ jG k≤jG.flatten.length:=fun k=>Jq jG k
 obtain⟨N,hN⟩:∃N,N=jG.flatten.length:=⟨_,rfl⟩
 obtain⟨fl,LH⟩:∃fl,fl=jG.flatten:=⟨_,rfl⟩
 rw[←hN]at htot hle⊢
 rw[←LH]
 have zW:=Lib.hid hN
 have Yc:=Lib.hid LH
 clear hN LH
 have Ar:=Lib.hid hle
 have hG:=FQ N w htot
 have HG:=Lib.hid hG
 clear hn hc hle hG
 go_enter Tryz.func77,Tryz.ntmps77
 go_wp2
 go_loop [3,11] (fun s i=>∃k:Nat,k≤n∧i= .int .i64 k∧s= .int .i64 (lJ jG k)) (fun _ i=>n-(intOf i).toNat)
 case atStart=>exact⟨0,by omega,rfl,rfl⟩
 case round=>
  obtain⟨k,hk,rfl,rfl⟩:=hrel
  have hlk:=Ar.out k
  by_cases hlt:k<n
  ·obtain⟨a,l,c,bs,hcell,hS,hp⟩:=HC.out k hlt
   have hll:l=bs.length:=by have:=hS.length;simpa using this.symm
   subst hll
   have uO:Hid (lJ jG (k+1)=lJ jG k+bs.length):=by unfold lJ m_;rw[wY jG k bs hp,List.length_append];exact rfl
   have hlk2:lJ jG k+bs.length≤1000000000:=by have:=uO.out;have:=Ar.out (k+1);omega
   clear hp hS
   go_wp2
   go_round
   case rel=>exact⟨k+1,by omega,by go_num,by rw[uO.out];go_num⟩
   case measure=>simp[intOf];omega
  ·obtain rfl:n=k:=by omega
   have HT:Hid (m_ jG n=fl∧lJ jG n=N):=by
    have:jG.take n=jG:=List.take_of_length_le (by have:=HN.out;omega)
    unfold lJ m_
    rw[this];exact⟨Yc.out.symm,zW.out.symm⟩
   rw[HT.out.2]
   go_wp2_with fail
   (with_reducible refine HG.out.mono ?_)
   rintro e w1 ⟨v,rfl,hown,hb1⟩
   have HB1:=Lib.hid hb1
   have hown0:w1.ownsRow w.heap.size 5 1 v (lJ jG 0) ((m_ jG 0).map bv):=hown
   have HO:=Lib.hid hown0
   clear hb1 hown hown0 HG
   go_wp2_with fail
   go_loopw [6,27] (fun v i wr=>∃k:Nat,k≤n∧i= .int .i64 k∧wr.ownsRow w.heap.size 5 1 v (lJ jG k) ((m_ jG k).map bv)∧Below w.heap.size w wr) (fun _ i _=>n-(intOf i).toNat)
   case atStart=>exact⟨0,by omega,rfl,HO.out,HB1.out⟩
   case round=>
    obtain⟨k,hk,rfl,hown,hb⟩:=hrel
    have hbs:=hb.size
    by_cases hlt:k<n
    ·obtain⟨a,l,c,bs,hcell0,hS,hp⟩:=HC.out k hlt
     have hcell:=(hb.cell (p:=⟨B,k,none⟩) hB).trans hcell0
     have uO:Hid (m_ jG (k+1)=m_ jG k++bs∧lJ jG (k+1)=lJ jG k+bs.length):=by unfold lJ m_;rw[wY jG k bs hp,List.length_append];exact⟨rfl,rfl⟩
     have hll:l=bs.length:=by have:=hS.length;simpa using this.symm
     subst hll
     have hlk2:lJ jG k+bs.length≤1000000000:=by have:=uO.out.2;have:=Ar.out (k+1);omega
     have HS:=Lib.hid (hS.below hb (Nat.le_refl _))
     have HOW:=Lib.hid hown
     have HB:=Lib.hid hb
     clear hp hS hown hb hcell0 hlk
     go_wp2_with (at_builtin;refine bC (by rfl) _ _ 39 (by rfl) w.heap.size 5 i0 (.int .u8 0) 1 Tryz.underlying39 hi hz0 hz1 hz2 rfl _ _ _ (by rfl) HOW.out a bs.length c (bs.map bv) (by rfl) HS.out (fE bs) (by unfold maxLen;omega) (by omega) hbs ?_;intro A' c' w2 hown2 hgrow2 _ _)
     have FT:=Lib.hid hown2
     have HG2:=Lib.hid hgrow2
     clear hown2 hgrow2
     go_roundw
     case rel=>
      refine⟨k+1,by omega,by go_num,?_,HB.out.grown HG2.out hbs (fO HOW.out)⟩
      rw[uO.out.1,uO.out.2,List.map_append]
      exact FT.out
     case measure=>simp[intOf];omega
    ·obtain rfl:n=k:=by omega
     rw[HT.out.1,HT.out.2]at hown
     obtain⟨a,c,rfl,hac⟩:=wX hown
     have HOW:=Lib.hid hown
     have HB:=Lib.hid hb
     clear hown hb
     go_wp2
     go_ret
     exact⟨a,c,rfl,hac,(ak.mW HOW.out).2,HB.out⟩
section
variable {g:Nat→Own} {D:Nat→Prop} {p mb:Nat} {ib nb:Int→Nat} {T:aH}
theorem Turn.of {w w':World} {Cn nb':Int→Nat} {T':aH} {v:Value} {e:Ending} (he:e= .returned v) (h:aK g D w' p mb Cn nb' T') (hK:Keeps (fun b=>g b≠ .none) w w'):Turn g D w p mb T' v e w':=
 ⟨he,g,D,Cn,nb',h,fun b h=> .inl h,fun b h=> .inl h,hK⟩
theorem lg {id:Int} (h:bK T id=0):∃x,aj id T=some x∧x.kind≠2:=by
 unfold bK at h
 cases hx:aj id T with
 |none=>rw[hx]at h;cases h
 |some x=>
  rw[hx]at h
  by_cases hk:x.kind=2
  ·simp only[if_pos hk]at h;cases h
  ·exact⟨x,rfl,hk⟩
theorem Du {id aQ:Int} (h:bK T id≠0):nK T id aQ=bK T id:=by
 unfold bK at h⊢
 unfold nK
 cases hx:aj id T with
 |none=>rfl
 |some x=>
  rw[hx]at h
  by_cases hk:x.kind=2
  ·simp only[if_pos hk]
  ·simp only[if_neg hk]at h;exact absurd rfl h
theorem Dv {id aQ:Int} (h:bK T id≠0):nL T id aQ=bK T id:=by
 unfold bK at h⊢
 unfold nL
 cases hx:aj id T with
 |none=>rfl
 |some x=>
  rw[hx]at h
  by_cases hk:x.kind=2
  ·simp only[if_pos hk]
  ·simp only[if_neg hk]at h;exact absurd rfl h
theorem yT {id:Int} {b:List UInt8} (h:bK T id≠0):jc T id b=bK T id:=by
 unfold bK at h⊢
 unfold jc
 cases hx:aj id T with
 |none=>rfl
 |some x=>
  rw[hx]at h
  by_cases hk:x.kind=2
  ·simp only[if_pos hk]
  ·simp only[if_neg hk]at h;exact absurd rfl h
theorem Dw {id:Int} (h:bK T id≠0):kF T id=bK T id:=by
 unfold bK at h⊢
 unfold kF
 cases hx:aj id T with
 |none=>rfl
 |some x=>
  rw[hx]at h
  by_cases hk:x.kind=2
  ·simp only[if_pos hk]
  ·simp only[if_neg hk]at h;exact absurd rfl h
theorem Dx {id at_ n:Int} (h:bK T id≠0):mg T id at_ n=bK T id∧mh T id at_ n=[]:=by
 unfold bK at h⊢
 unfold mg mh
 cases hx:aj id T with
 |none=>exact⟨rfl,rfl⟩
 |some x=>
  rw[hx]at h
  by_cases hk:x.kind=2
  ·simp only[if_pos hk,and_self]
  ·simp only[if_neg hk]at h;exact absurd rfl h
set_option maxHeartbeats 4000000 in
theorem Jr (id aQ:Int) (w:World) (h:aK g D w p mb ib nb T) (hid:(Lit.int .i64 id).wf=true) (ht0:0≤aQ) (ht1:aQ≤18446744073709551615):
  Calls Tryz.prog 23 #[ptr p, .int .i64 id, .int .u64 aQ] w (Turn g D w p mb (eF T id aQ).2 (.int .i64 (eF T id aQ).1)):=by
 have HH:=Lib.hid h
 by_cases hf:bK T id=0
 ·obtain⟨x,hx,hk⟩:=lg hf
  have HF:=Lib.hid (oU id hx hk w h hid)
  obtain⟨c0,c1,c2,c3,c4,c5,c7,hiw⟩:=(h.item id x hx).cell
  have HX:=Lib.hid hx
  have hE:nK T id aQ=if x.closed then 27 else if 1099511627776<aQ then 1 else 0:=by unfold nK;rw[hx];simp only[if_neg hk]
  have HE:=Lib.hid hE
  cases hcl:x.closed with
  |true=>
   have HM:Hid (eF T id aQ=(27,T)):=by
    unfold eF
    rw[HE.out,hcl];simp only[if_pos];exact rfl
   rw[hcl]at c5
   clear hE hcl hx hk hf h c7
   go_enter Tryz.func23,Tryz.ntmps23
   go_wp2_with fail
   (with_reducible refine HF.out.mono ?_)
   rintro e w1 ⟨rfl,rfl⟩
   go_wp2_with fail
   go_ret
   rw[HM.out]
   exact Turn.same HH.out (Below.refl _ _) rfl
  |false=>
   rw[hcl]at c5
   by_cases htl:1099511627776<aQ
   ·have HM:Hid (eF T id aQ=(1,T)):=by
     unfold eF
     rw[HE.out,hcl];simp only[Bool.false_eq_true,if_false,if_pos htl];exact rfl
    clear hE hcl hx hk hf h c7
    go_enter Tryz.func23,Tryz.ntmps23
    go_wp2_with fail
    (with_reducible refine HF.out.mono ?_)
    rintro e w1 ⟨rfl,rfl⟩
    go_wp2_with fail
    go_ret
    rw[HM.out]
    exact Turn.same HH.out (Below.refl _ _) rfl
   ·have HM:Hid (eF T id aQ=(0,fG (bf id (fun x=>{x with closed:=true,aQ:=aQ}) T) id)):=by
     unfold eF
     rw[HE.out,hcl];simp only[Bool.false_eq_true,if_false,if_neg htl];exact rfl
    have Ro:=(h.item id x hx).frozen 4
    have Yd:=(h.item id x hx).frozen 5
    have hA1:aK g D ((w.setCell ⟨ib id,5,none⟩ (.bool true)).setCell ⟨ib id,4,none⟩ (.int .u64 aQ)) p mb ib nb (bf id (fun x=>{x with closed:=true,aQ:=aQ}) T):=by
     refine h.fields hx (fun x=>{x with closed:=true,aQ:=aQ}) rfl rfl rfl (Keeps.set2 w _ _ _ _ _) (by rw[size_set,size_set]) fun a c hc=> ?_
     rw[bJ (bJ hc)]
     rfl
    have hx1:aj id (bf id (fun x=>{x with closed:=true,aQ:=aQ}) T)=some {x with closed:=true,aQ:=aQ}:=by rw[aS,if_pos rfl,hx];rfl
    have HS:=Lib.hid (uP id hx1 hid _ hA1)
    have hgi:=h.lF id x hx
    have hgm:=h.iW
    have Qx:Hid (∀b,(b=ib id∨b=mb)→g b≠ .none):=fun b hb=>by
     rcases hb with rfl|rfl
     ·rw[hgi];simp
     ·rw[hgm];simp
    clear hE hcl hx hk hf h c7 hA1 hx1 hgi hgm
    go_enter Tryz.func23,Tryz.ntmps23
    go_wp2_with fail
    (with_reducible refine HF.out.mono ?_)
    rintro e w1 ⟨rfl,rfl⟩
    go_wp2_with fail
    (with_reducible refine HS.out.mono ?_)
    rintro e w1 ⟨rfl,hA2,hK2,hs2⟩
    have HA2:=Lib.hid hA2
    have yU:=Lib.hid hK2
    clear hA2 hK2
    go_wp2_with fail
    go_ret
    rw[HM.out]
    exact Turn.of rfl HA2.out (((Keeps.set2 w (ib id) 5 4 _ _).mono fun b _ hb=>Qx.out b (.inl hb)).trans (yU.out.mono fun b _ hb=>Qx.out b (.inr hb)) (fun _ _ h=>h))
 ·have hne:(bK T id==0)=false:=by simpa using hf
  have HF:=Lib.hid (ow id _ rfl hf w h hid)
  have HM:Hid (eF T id aQ=(bK T id,T)):=by
   unfold eF
   rw[Du hf,if_neg hf];exact rfl
  obtain⟨k,hk⟩:∃k,k=bK T id:=⟨_,rfl⟩
  rw[←hk]at HF hne HM
  clear hf h hk
  go_enter Tryz.func23,Tryz.ntmps23
  go_wp2_with fail
  (with_reducible refine HF.out.mono ?_)
  rintro e w1 ⟨rfl,rfl⟩
  go_wp2_with fail
  go_ret
  rw[HM.out]
  exact Turn.same HH.out (Below.refl _ _) rfl
set_option maxHeartbeats 4000000 in
theorem Js (id aQ:Int) (w:World) (h:aK g D w p mb ib nb T) (hid:(Lit.int .i64 id).wf=true) (ht0:0≤aQ) (ht1:aQ≤18446744073709551615) (hok:∀x,aj id T=some x→0≤x.aQ∧x.aQ≤1099511627776):
  Calls Tryz.prog 25 #[ptr p, .int .i64 id, .int .u64 aQ] w (Turn g D w p mb (dO T id aQ).2 (.int .i64 (dO T id aQ).1)):=by
 have HH:=Lib.hid h
 by_cases hf:bK T id=0
 ·obtain⟨x,hx,hk⟩:=lg hf
  have HF:=Lib.hid (oU id hx hk w h hid)
  obtain⟨c0,c1,c2,c3,c4,c5,c7,hiw⟩:=(h.item id x hx).cell
  obtain⟨hx0,hx1⟩:=hok x hx
  have hE:nL T id aQ=if x.closed=false then 25 else if aQ<x.aQ then 28 else if 1099511627776<aQ then 1 else 0:=by unfold nL;rw[hx];simp only[if_neg hk]
  have HE:=Lib.hid hE
  cases hcl:x.closed with
  |false=>
   have HM:Hid (dO T id aQ=(25,T)):=by
    unfold dO
    rw[HE.out,hcl];simp only[if_pos];exact rfl
   rw[hcl]at c5
   clear hE hcl hx hk hf h c7 hok
   go_enter Tryz.func25,Tryz.ntmps25
   go_wp2_with fail
   (with_reducible refine HF.out.mono ?_)
   rintro e w1 ⟨rfl,rfl⟩
   go_wp2_with fail
   go_ret
   rw[HM.out]
   exact Turn.same HH.out (Below.refl _ _) rfl
  |true=>
   rw[hcl]at c5
   by_cases hlt:aQ<x.aQ
   ·have HM:Hid (dO T id aQ=(28,T)):=by
     unfold dO
     rw[HE.out,hcl];simp only[Bool.true_eq_false,if_false,if_pos hlt];exact rfl
    clear hE hcl hx hk hf h c7 hok
    go_enter Tryz.func25,Tryz.ntmps25
    go_wp2_with fail
    (with_reducible refine HF.out.mono ?_)
    rintro e w1 ⟨rfl,rfl⟩
    go_wp2_with fail
    go_ret
    rw[HM.out]
    exact Turn.same HH.out (Below.refl _ _) rfl
   ·by_cases htl:1099511627776<aQ
    ·have HM:Hid (dO T id aQ=(1,T)):=by
      unfold dO
      rw[HE.out,hcl];simp only[Bool.true_eq_false,if_false,if_neg hlt,if_pos htl];exact rfl
     clear hE hcl hx hk hf h c7 hok
     go_enter Tryz.func25,Tryz.ntmps25
     go_wp2_with fail
     (with_reducible refine HF.out.mono ?_)
     rintro e w1 ⟨rfl,rfl⟩
     go_wp2_with fail
     go_ret
     rw[HM.out]
     exact Turn.same HH.out (Below.refl _ _) rfl
    ·have HM:Hid (dO T id aQ=(0,bf id (fun x=>{x with aQ:=aQ}) T)):=by
      unfold dO
      rw[HE.out,hcl];simp only[Bool.true_eq_false,if_false,if_neg hlt,if_neg htl];exact rfl
     have Ro:=(h.item id x hx).frozen 4
     have hA1:aK g D (w.setCell ⟨ib id,4,none⟩ (.int .u64 aQ)) p mb ib nb (bf id (fun x=>{x with aQ:=aQ}) T):=by
      refine h.fields hx (fun x=>{x with aQ:=aQ}) rfl rfl rfl (Keeps.gX w ⟨ib id,4,none⟩ _) (by rw[size_set]) fun a c hc=> ?_
      rw[bJ hc]
      rfl
     have HA1:=Lib.hid hA1
     have Qx:Hid (g (ib id)≠ .none):=by rw[h.lF id x hx];exact fun e=>by cases e
     clear hE hcl hx hk hf h c7 hA1 hok
     go_enter Tryz.func25,Tryz.ntmps25
     go_wp2_with fail
     (with_reducible refine HF.out.mono ?_)
     rintro e w1 ⟨rfl,rfl⟩
     go_wp2_with fail
     go_ret
     rw[HM.out]
     exact Turn.of rfl HA1.out ((Keeps.gX w ⟨ib id,4,none⟩ _).mono fun b _ hb=>by rw[show b=ib id from hb];exact Qx.out)
 ·have hne:(bK T id==0)=false:=by simpa using hf
  have HF:=Lib.hid (ow id _ rfl hf w h hid)
  have HM:Hid (dO T id aQ=(bK T id,T)):=by
   unfold dO
   rw[Dv hf,if_neg hf];exact rfl
  obtain⟨k,hk⟩:∃k,k=bK T id:=⟨_,rfl⟩
  rw[←hk]at HF hne HM
  clear hf h hk hok
  go_enter Tryz.func25,Tryz.ntmps25
  go_wp2_with fail
  (with_reducible refine HF.out.mono ?_)
  rintro e w1 ⟨rfl,rfl⟩
  go_wp2_with fail
  go_ret
  rw[HM.out]
  exact Turn.same HH.out (Below.refl _ _) rfl
end
def pV (w:World) (bs:List UInt8) (e:Ending) (w':World):Prop:=
 ∃a n c,e= .returned (.slice a n c)∧n≤c∧ak (fun x=>w.heap.size≤x∧x<w'.heap.size) w' a n (bs.map bv)∧Below w.heap.size w w'
set_option maxHeartbeats 1000000 in
theorem ng {S:Nat→Prop} (a:Option Addr) (n cap:Nat) (bs:List UInt8) (w:World) (hm:n≤1000000000) (hr:ak S w a n (bs.map bv)):
  Calls Tryz.prog 105 #[.slice a n cap] w (pV w bs):=by
 obtain⟨i0,hi,hz0,hz1,hz2⟩:=info_parts Tryz.Ca
 have hll:bs.length=n:=by have:=hr.length;simpa using this
 have heq:=fun w=>Lib.run_eql_slice_nil (P:=Tryz.prog) w 39 5 a n cap 0 0 Tryz.underlying39
 have HR:=Lib.hid hr
 have HL:=Lib.hid hll
 clear hr hll
 cases a with
 |none=>
  have h0:n=0:=by
   rcases Nat.eq_zero_or_pos n with h0|h0
   ·exact h0
   ·obtain⟨_,_,e,_⟩:=HR.out.at_ h0
    cases e
  subst h0
  have hb0:bs=[]:=List.eq_nil_of_length_eq_zero HL.out
  subst hb0
  go_enter Tryz.func105,Tryz.ntmps105
  go_wp2
  go_ret
  exact⟨none,0,_,rfl,Nat.zero_le _,ak.nil _ _ _,Below.refl _ _⟩
 |some ad=>
  have hsz:(w.alloc (.cells #[] 5)).heap.size=w.heap.size+1:=by simp
  have HS:=Lib.hid (HR.out.below (wall w (.cells #[] 5)) (Nat.le_refl _))
  go_enter Tryz.func105,Tryz.ntmps105
  go_wp2_with ((at_builtin;refine bC (by rfl) _ _ 39 (by rfl) w.heap.size 5 i0 (.int .u8 0) 1 Tryz.underlying39 hi hz0 hz1 hz2 rfl _ 0 [] (by rfl) ⟨rfl, .inr ⟨w.heap.size,0,#[],rfl,Nat.le_refl _,(MapKept.heap_alloc w _).1,Nat.le_refl _,Nat.zero_le _,rfl,rfl⟩⟩ (some ad) n cap (bs.map bv) (by rfl) HS.out (fE bs) (by unfold maxLen;omega) (by omega) (by simp) ?_;intro A' c' w2 hown2 hgrow2 _ _))
  go_ret
  have hB2:Below w.heap.size w w2:=(wall w _).grown hgrow2 (by simp) (fun k hk=>by cases hk;exact Nat.le_refl _)
  obtain⟨a3,c3,e3,hac⟩:=eP hown2
  cases e3
  refine⟨_,n,_,rfl,by omega,?_,hB2⟩
  have hro:=(ak.mW hown2).2
  rw[List.nil_append]at hro
  simpa only[Nat.zero_add]using hro
theorem yV {S:Nat→Prop} {a:Option Addr} {l k n:Nat} {bs:List UInt8} {w:World} (A N:Nat) (hr:ak S w a l (bs.map bv)) (hk:k=min A l) (hn:n=min N (l-A)):ak S w (a.map fun x=>x.add k) n (((bs.drop A).take N).map bv):=by
 have hl:bs.length=l:=by have:=hr.length;simpa using this
 have hs:=hr.small
 subst hn
 refine⟨by simp[hl],by omega,fun h0=> ?_⟩
 obtain⟨b,off,rfl,hS,hb,hc⟩:=hr.at_ (by omega)
 have hA:k=A:=by omega
 refine⟨b,off+A,by simp[hA,add_plain],hS,hb,fun i hi=> ?_⟩
 rw[Nat.add_assoc,hc (A+i) (by omega),List.getElem?_map,List.getElem?_map,List.getElem?_take,if_pos (by omega),List.getElem?_drop]
theorem Dy {S:Nat→Prop} {ad:Addr} {l k n:Nat} {bs:List UInt8} {w:World} (A N:Nat) (hr:ak S w (some ad) l (bs.map bv)) (hk:k=min A l) (hn:n=min N (l-A)):ak S w (some (ad.add k)) n (((bs.drop A).take N).map bv):=yV (a:=some ad) A N hr hk hn
theorem Dz {S:Nat→Prop} {l n:Nat} {bs:List UInt8} {w:World} (A N:Nat) (hr:ak S w none l (bs.map bv)) (hn:n=min N (l-A)):ak S w none n (((bs.drop A).take N).map bv):=yV (a:=none) A N hr rfl hn
theorem DC {S:Nat→Prop} (a:Option Addr) {l n:Nat} {bs:List UInt8} {w:World} (A N:Nat) (hl:bs.length=l) (h:l≤A) (hn:n=min N (l-A)):ak S w a n (((bs.drop A).take N).map bv):=by
 refine ak.zero a _ _ (by omega) ?_
 rw[List.drop_of_length_le (by omega),List.take_nil]
 rfl
def qF (w:World) (bs:List UInt8) (k:Int) (e:Ending) (w':World):Prop:=
 ∃a n c,e= .returned (.tuple #[.slice a n c, .int .i64 k])∧n≤c∧ak (fun x=>w.heap.size≤x∧x<w'.heap.size) w' a n (bs.map bv)∧Below w.heap.size w w'
set_option maxHeartbeats 1000000 in
theorem Jt {S:Nat→Prop} (a:Option Addr) (l c:Nat) (bs:List UInt8) (A N:Nat) (w:World) (hl:l≤1000000000) (hlc:l≤c) (hc:c≤maxLen) (hA:A≤9223372036854775807) (hN:N≤9223372036854775807) (hr:ak S w a l (bs.map bv)):
  Calls Tryz.prog 79 #[.slice a l c, .int .i64 A, .int .i64 N] w (qF w ((bs.drop A).take N) 0):=by
 unfold maxLen at hc
 have z1:(0:Int)≤(A:Int):=by omega
 have z2:(0:Int)≤(N:Int):=by omega
 have z3:decide ((A:Int)<0)=false:=by simp
 have z4:decide ((N:Int)<0)=false:=by simp
 have HR:=Lib.hid hr
 have hL:bs.length=l:=by have:=hr.length;simpa using this
 have HL:=Lib.hid hL
 clear hr hL
 by_cases hcap:c=min A l
 ·subst hcap
  go_enter Tryz.func79,Tryz.ntmps79
  go_wp2_with fail
  (with_reducible refine(ng (S:=S) _ _ _ ((bs.drop A).take N) _ (by omega) (DC _ A N HL.out (by omega) (by omega))).mono ?_)
  rintro e w1 ⟨a1,n1,c1,rfl,hn1,hr1,hb1⟩
  have HR1:=Lib.hid hr1
  have HB1:=Lib.hid hb1
  clear hr1 hb1
  go_wp2_with fail
  go_ret2
  exact⟨a1,n1,c1,rfl,hn1,HR1.out,HB1.out⟩
 ·cases a with
  |none=>
   go_enter Tryz.func79,Tryz.ntmps79
   go_wp2_with fail
   (with_reducible refine(ng (S:=S) _ _ _ ((bs.drop A).take N) _ (by omega) (Dz A N HR.out (by omega))).mono ?_)
   rintro e w1 ⟨a1,n1,c1,rfl,hn1,hr1,hb1⟩
   have HR1:=Lib.hid hr1
   have HB1:=Lib.hid hb1
   clear hr1 hb1
   go_wp2_with fail
   go_ret2
   exact⟨a1,n1,c1,rfl,hn1,HR1.out,HB1.out⟩
  |some ad=>
   go_enter Tryz.func79,Tryz.ntmps79
   go_wp2_with fail
   (with_reducible refine(ng (S:=S) _ _ _ ((bs.drop A).take N) _ (by omega) (Dy A N HR.out (by omega) (by omega))).mono ?_)
   rintro e w1 ⟨a1,n1,c1,rfl,hn1,hr1,hb1⟩
   have HR1:=Lib.hid hr1
   have HB1:=Lib.hid hb1
   clear hr1 hb1
   go_wp2_with fail
   go_ret2
   exact⟨a1,n1,c1,rfl,hn1,HR1.out,HB1.out⟩
theorem pQ (w:World):Calls Tryz.prog 82 #[] w fun e w'=>e= .returned (ptr w.heap.size)∧cK w.heap.size w' w.heap.size (.slice none 0 0) []∧Below w.heap.size w w':=by
 go_enter Tryz.func82,Tryz.ntmps82
 go_wp2
 go_ret
 exact⟨rfl,⟨(MapKept.heap_alloc w _).1,⟨rfl, .inl ⟨rfl,rfl⟩⟩,Nat.le_refl _,by simp[Value.ownBlock]⟩,wall w _⟩
section
variable {B x:Nat} {w:World} {v:Value} {bs:List UInt8}
theorem iT.low {bs':List UInt8} {v':Value} {w':World} (h:iT B w x v bs' v' w') (h0:cK B w x v bs):Below B w w':=
 h.2.1.jr (Nat.le_of_lt (Nat.lt_of_le_of_lt h0.low h0.lt)) fun b hb hf=>by
  rcases hf with h1|h1
  ·have:=h0.low;omega
  ·have:=fO h0.own b h1;omega
theorem jN (h:cK B w x v bs) (n:Int) (hn0:0≤n) (hn:n≤1000000000) (hl:bs.length≤100000000):Calls Tryz.prog 83 #[ptr x, .int .i64 n] w (lI B w x v (bs++f_ n 2)):=by
 have HP:Hid (Calls Tryz.prog 131 #[ptr x, .int .u64 n, .int .i64 2] w (lI B w x v (bs++f_ n 2))):=xL h n 2 (by omega) (by omega) (by omega) hl
 have e1:IntKind.u64.wrap n=n:=by simp[IntKind.wrap,IntKind.bits,IntKind.signed];omega
 clear h
 go_enter Tryz.func83,Tryz.ntmps83
 go_wp2_with fail
 (with_reducible refine HP.out.mono ?_)
 rintro e w1 ⟨rfl,v1,hm⟩
 go_wp2_with fail
 go_end0
 exact⟨rfl,v1,hm⟩
theorem uQ (h:cK B w x v bs) (n:Int) (hn0:0≤n) (hn:n≤1000000000) (hl:bs.length≤100000000):Calls Tryz.prog 119 #[ptr x, .int .i64 n] w (lI B w x v (bs++f_ n 1)):=by
 have HP:Hid (Calls Tryz.prog 131 #[ptr x, .int .u64 n, .int .i64 1] w (lI B w x v (bs++f_ n 1))):=xL h n 1 (by omega) (by omega) (by omega) hl
 have e1:IntKind.u64.wrap n=n:=by simp[IntKind.wrap,IntKind.bits,IntKind.signed];omega
 clear h
 go_enter Tryz.func119,Tryz.ntmps119
 go_wp2_with fail
 (with_reducible refine HP.out.mono ?_)
 rintro e w1 ⟨rfl,v1,hm⟩
 go_wp2_with fail
 go_end0
 exact⟨rfl,v1,hm⟩
theorem FU (h:cK B w x v bs) (n:Int) (hn:0≤n) (hn':n≤18446744073709551615) (hl:bs.length≤100000000):Calls Tryz.prog 118 #[ptr x, .int .u64 n] w (lI B w x v (bs++f_ n 8)):=by
 have HP:Hid (Calls Tryz.prog 131 #[ptr x, .int .u64 n, .int .i64 8] w (lI B w x v (bs++f_ n 8))):=xL h n 8 hn hn' (by omega) hl
 clear h
 go_enter Tryz.func118,Tryz.ntmps118
 go_wp2_with fail
 (with_reducible refine HP.out.mono ?_)
 rintro e w1 ⟨rfl,v1,hm⟩
 go_wp2_with fail
 go_end0
 exact⟨rfl,v1,hm⟩
def qG (f:Bool):List UInt8:=f_ (if f then 1 else 0) 1
theorem FV (h:cK B w x v bs) (f:Bool) (hl:bs.length≤100000000):Calls Tryz.prog 135 #[ptr x, .bool f] w (lI B w x v (bs++qG f)):=by
 have nM:=Lib.hid (uQ h 1 (by omega) (by omega) hl)
 have Ye:=Lib.hid (uQ h 0 (by omega) (by omega) hl)
 clear h
 cases f
 ·have HQ:Hid (Calls Tryz.prog 119 #[ptr x, .int .i64 0] w (lI B w x v (bs++qG false))):=Ye.out
  go_enter Tryz.func135,Tryz.ntmps135
  go_wp2_with fail
  (with_reducible refine HQ.out.mono ?_)
  rintro e w1 ⟨rfl,v1,hm⟩
  go_wp2_with fail
  go_end0
  exact⟨rfl,v1,hm⟩
 ·have HQ:Hid (Calls Tryz.prog 119 #[ptr x, .int .i64 1] w (lI B w x v (bs++qG true))):=nM.out
  go_enter Tryz.func135,Tryz.ntmps135
  go_wp2_with fail
  (with_reducible refine HQ.out.mono ?_)
  rintro e w1 ⟨rfl,v1,hm⟩
  go_wp2_with fail
  (try simp only[Exit.inBlock,Exit.then])
  refine bodyPost_ret (results_none rfl _ _ _) rfl ?_
  exact⟨rfl,v1,hm⟩
theorem Au {u1:World} (h:cK B w x v bs) (hg:w.grownBy u1 v.ownBlock):u1.cell? ⟨x,0,none⟩=some v∧u1.frozen? ⟨x,0,none⟩=false:=by
 have Jm:=(hg.block x h.lt (fun e=>h.apart e.symm)).trans h.head
 exact⟨by simp[World.cell?,Jm],by simp[World.frozen?,Jm]⟩
theorem Ju {S:Nat→Prop} (h:cK B w x v bs) (a:Option Addr) (m c:Nat) (l:List UInt8) (hr:ak S w a m (l.map bv)) (hl:bs.length≤100000000) (hm:m≤100000000):Calls Tryz.prog 120 #[ptr x, .slice a m c] w (lI B w x v (bs++l)):=by
 obtain⟨i8,hi⟩:∃i,Tryz.prog.info? 5=some i∧i.zero=some (.int .u8 0)∧i.size=1∧i.bytes=1:=info_parts (by kernel_rfl)
 have HI:=Lib.hid hi
 have HW:=Lib.hid h
 have HR:=Lib.hid hr
 have c0:=h.cell
 have f0:=h.frozen
 have hBw:B≤w.heap.size:=Nat.le_of_lt (Nat.lt_of_le_of_lt h.low h.lt)
 have hlm:l.length=m:=by simpa using hr.length
 have Qy:=Lib.hid hlm
 clear h hi hr hlm
 obtain⟨N,hN⟩:∃N,N=bs.length:=⟨_,rfl⟩
 have HOW:Hid (w.ownsRow B 5 1 v N (bs.map bv)):=by rw[hN];exact HW.out.own
 have zW:=Lib.hid hN
 rw[←hN]at hl
 clear hN
 have hxw:=HW.out.lt
 go_enter Tryz.func120,Tryz.ntmps120
 go_wp2_with (at_builtin;refine bC rfl _ _ 39 rfl B 5 i8 _ 1 Tryz.underlying39 HI.out.1 HI.out.2.1 HI.out.2.2.1 HI.out.2.2.2 rfl v N (bs.map bv) rfl HOW.out a m c (l.map bv) rfl HR.out (fE l) (by unfold maxLen;omega) (by omega) hBw ?_;intro A1 c1 u1 hown1 hg1 _ qE;have Jm:=Au HW.out hg1;have hcx:=Jm.1;have hfx:=Jm.2;clear Jm)
 go_end0
 refine⟨rfl,_,Ck (wa:=w) HW.out (Below.refl _ _) ?_ hg1 qE⟩
 have h9:(bs++l).length=N+m:=by rw[List.length_append,←zW.out,Qy.out]
 rw[h9,List.map_append]
 exact hown1
set_option maxHeartbeats 1000000 in
theorem xO {S:Nat→Prop} (h:cK B w x v bs) (a:Option Addr) (m c:Nat) (l:List UInt8) (hr:ak S w a m (l.map bv)) (hS:∀b,S b→b≠x∧v.ownBlock≠some b) (hc:m≤c) (hl:bs.length≤90000000) (hm:m≤65535):Calls Tryz.prog 86 #[ptr x, .slice a m c] w (lI B w x v (bs++(f_ m 2++l))):=by
 have HS:=Lib.hid (jN h (m:Int) (by omega) (by omega) (by omega))
 have HW:=Lib.hid h
 have HRR:=Lib.hid hr
 have WQ:=Lib.hid hS
 have e1:min (m:Int) 65535=(m:Int):=by omega
 have h0:(0:Int)≤(m:Int):=by omega
 have h1:(m:Int)≤(c:Int):=by omega
 clear h hr hS
 go_enter Tryz.func86,Tryz.ntmps86
 go_wp2_with fail
 (with_reducible refine HS.out.mono ?_)
 rintro e w1 ⟨rfl,v1,hm1⟩
 have HM:=Lib.hid hm1
 have hr1:ak S w1 a m (l.map bv):=HRR.out.kept hm1.2.1.size fun b hb hbw=>hm1.2.1.block b hbw fun hf=>by
  rcases hf with h4|h4
  ·exact(WQ.out b hb).1 h4
  ·exact(WQ.out b hb).2 h4
 have HRW:=Lib.hid (Ju hm1.1 a m c l hr1 (by rw[List.length_append];have:(f_ (m:Int) 2).length=2:=rfl;omega) (by omega))
 clear hm1 hr1
 go_wp2_with fail
 (with_reducible refine HRW.out.mono ?_)
 rintro e w2 ⟨rfl,v2,hm2⟩
 go_wp2_with fail
 go_end0
 refine⟨rfl,v2,?_⟩
 have:=HM.out.trans hm2
 rw[List.append_assoc]at this
 exact this
theorem yX (h:cK B w x v bs) (hl:bs.length≤100000000):Calls Tryz.prog 89 #[ptr x] w (pV w bs):=by
 obtain⟨a,c,rfl,hc⟩:=eP h.own
 obtain⟨_,hr⟩:=ak.mW h.own
 have HC:=Lib.hid (ng a bs.length c bs w (by omega) hr)
 have c0:=h.cell
 clear h hr
 go_enter Tryz.func89,Tryz.ntmps89
 go_wp2_with fail
 (with_reducible refine HC.out.mono ?_)
 rintro e w1 ⟨a1,n1,c1,rfl,hn1,hr1,hb1⟩
 go_wp2_with fail
 go_ret
 exact⟨a1,n1,c1,rfl,hn1,hr1,hb1⟩
end
theorem FW {w:World} {base g:Nat} {e:TypeId} {k:Nat} (hg:w.heap[g]? =some (.cells #[] e)) (hb:base≤g):w.ownsRow base e k (.slice (some ⟨g,0,none⟩) 0 0) 0 []:=by
 refine⟨by simp, .inr ⟨g,0,#[],rfl,hb,hg,Nat.le_refl _,Nat.zero_le _,by simp,by simp⟩⟩
theorem ak.tV {w:World} {base:Nat} {e:TypeId} {k:Nat} {a:Option Addr} {m n c:Nat} {xs:List Value} (h:w.ownsRow base e k (.slice a m c) n xs) (hs:n*k≤maxLen):m=n∧n≤c∧ak (fun x=>base≤x∧x<w.heap.size) w a (n*k) xs:=by
 obtain⟨h1,h2⟩:=h
 rcases h2 with⟨h2,rfl⟩|⟨g,cap,cur,h2,hg,hcur,h3,h4,h5,h6⟩
 ·simp only[Value.slice.injEq]at h2
  obtain⟨rfl,rfl,rfl⟩:=h2
  have:xs=[]:=List.eq_nil_of_length_eq_zero (by omega)
  subst this
  rw[Nat.zero_mul]
  exact⟨rfl,Nat.le_refl _,ak.nil _ _ _⟩
 ·simp only[Value.slice.injEq]at h2
  obtain⟨rfl,rfl,rfl⟩:=h2
  have hgw:=(Array.getElem?_eq_some_iff.1 hcur).1
  refine⟨rfl,h3,h1,hs,fun h0=>⟨g,0,rfl,⟨hg,hgw⟩,hgw,fun i hi=> ?_⟩⟩
  simp only[World.cell?,hcur,Nat.zero_add]
  rw[←h6,List.getElem?_take,if_pos hi]
  simp
theorem kC {P:Program} {S:Nat→Prop} {w:World} (base:Nat) (t ty e:TypeId) (i:TypeInfo) (z:Value) (k bytes:Nat) (ht:P.underlying t=some (.slice e)) (hi:P.info? e=some i) (hz:i.zero=some z)
  (hsize:i.size=k) (hby:i.bytes=bytes) (hzs:z.cells.size=k) (hk:0<k) (v:Value) (n:Nat) (xs:List Value) (hown:w.ownsRow base e k v n xs)
  (A:Option Addr) (m c:Nat) (news:List Value) (hr:ak S w A (m*k) news) (h1:∀u∈news,u.oneCell'=true) (h63:n+m≤maxLen) (hbytes:(n+m)*bytes≤140737488355328) (hbase:base≤w.heap.size):
  ∃A' c' w',(Builtin.append_ #[t,t] ty #[v, .slice A m c]).run P w= .ok (.slice A' (n+m) c') w'∧w'.ownsRow base e k (.slice A' (n+m) c') (n+m) (xs++news)∧w.grownBy w' v.ownBlock∧
   ((Value.slice A' (n+m) c').ownBlock=v.ownBlock∨(Value.slice A' (n+m) c').ownBlock=some w.heap.size):=by
 rcases A with _|ad
 ·have hm:m=0:=by
   rcases Nat.eq_zero_or_pos m with h0|h0
   ·exact h0
   ·obtain⟨_,_,h,_⟩:=hr.at_ (Nat.mul_pos h0 hk)
    cases h
  subst hm
  have hn:news=[]:=List.eq_nil_of_length_eq_zero (by rw[hr.length];omega)
  subst hn
  obtain⟨A',c',rfl,_⟩:=eP hown
  refine⟨A',c',w,?_,by simpa using hown,⟨rfl,rfl,rfl,Nat.le_refl _,fun _ _ _=>rfl⟩,Or.inl rfl⟩
  rcases hown.2 with⟨h2,rfl⟩|⟨g,cap,cur,h2,_,_,hnc,_⟩
  ·simp only[Value.slice.injEq]at h2
   obtain⟨rfl,_,rfl⟩:=h2
   simp[Builtin.append_,run_underlying ht,sizeOf,typeInfo,hi,Builtin.lenOf,Builtin.firstCells]
  ·simp only[Value.slice.injEq]at h2
   obtain⟨rfl,_,rfl⟩:=h2
   simp[Builtin.append_,run_underlying ht,sizeOf,typeInfo,hi,Builtin.lenOf,Builtin.firstCells,hnc,storeCells]
 ·obtain⟨v',w',hr',h2,h3,h4,h5⟩:=run_append_own_at (P:=P) w base t ty e i z k bytes ht hi hz hsize hby hzs hk v n xs hown ad m c news hr.length hr.cells h1 h63 hbytes hbase
  obtain⟨A',c',rfl,_⟩:=eP h2
  exact⟨A',c',w',hr',h2,h3,h5⟩
theorem pW {P:Program} {S:Nat→Prop} {w:World} {ops:Array Oper} {rest:List Oper} {o:Oper} {a:Act} {Q:Exit→Act→World→Prop} (hgd:o.guard=none) (s x:Operand) (t:TypeId)
  (ho:o.op= .call {callee:= .builtin .append,args:= #[s,x],argTypes:= #[t,t]})
  (base:Nat) (e:TypeId) (i:TypeInfo) (z:Value) (k bytes:Nat) (ht:P.underlying t=some (.slice e)) (hi:P.info? e=some i) (hz:i.zero=some z)
  (hsize:i.size=k) (hby:i.bytes=bytes) (hzs:z.cells.size=k) (hk:0<k) (v:Value) (n:Nat) (xs:List Value) (hs:a.eval s=v) (hown:w.ownsRow base e k v n xs)
  (A:Option Addr) (m c:Nat) (news:List Value) (hx:a.eval x= .slice A m c) (hr:ak S w A (m*k) news) (h1:∀u∈news,u.oneCell'=true) (h63:n+m≤maxLen) (hbytes:(n+m)*bytes≤140737488355328) (hbase:base≤w.heap.size)
  (h:∀A' c' w',w'.ownsRow base e k (.slice A' (n+m) c') (n+m) (xs++news)→w.grownBy w' v.ownBlock→((Value.slice A' (n+m) c').ownBlock=v.ownBlock∨(Value.slice A' (n+m) c').ownBlock=some w.heap.size)→wpList P ops Q rest (a.put o.dst (.slice A' (n+m) c')) w'):
  wpList P ops Q (o::rest) a w:=by
 refine wpList_plain hgd fun K hK=> ?_
 obtain⟨A',c',w',hr,h2,h3,h4⟩:=kC (P:=P) base t o.type e i z k bytes ht hi hz hsize hby hzs hk v n xs hown A m c news hr h1 h63 hbytes hbase
 unfold Oper.wp execOp
 simp only[ho,resolve,invoke,builtin,Sem.run_bind,Sem.run_pure,Result.andThen_ok,List.map_toArray,List.map_cons,List.map_nil,hs,hx,hr]
 exact hK _ _ (h A' c' w' h2 h3 h4)
theorem rW {P:Program} {S:Nat→Prop} {ops:Array Oper} {o:Oper} {a:Act} {w:World} {K:Act→World→Prop} {Q:Exit→Act→World→Prop} {E:Prop} (hgd:o.guard=none) (s x:Operand) (t:TypeId)
  (ho:o.op= .call {callee:= .builtin .append,args:= #[s,x],argTypes:= #[t,t]})
  (base:Nat) (e:TypeId) (i:TypeInfo) (z:Value) (k bytes:Nat) (ht:P.underlying t=some (.slice e)) (hi:P.info? e=some i) (hz:i.zero=some z)
  (hsize:i.size=k) (hby:i.bytes=bytes) (hzs:z.cells.size=k) (hk:0<k) (v:Value) (n:Nat) (xs:List Value) (hs:a.eval s=v) (hown:w.ownsRow base e k v n xs)
  (A:Option Addr) (m c:Nat) (news:List Value) (hx:a.eval x= .slice A m c) (hr:ak S w A (m*k) news) (h1:∀u∈news,u.oneCell'=true) (h63:n+m≤maxLen) (hbytes:(n+m)*bytes≤140737488355328) (hbase:base≤w.heap.size)
  (h:∀A' c' w',w'.ownsRow base e k (.slice A' (n+m) c') (n+m) (xs++news)→w.grownBy w' v.ownBlock→((Value.slice A' (n+m) c').ownBlock=v.ownBlock∨(Value.slice A' (n+m) c').ownBlock=some w.heap.size)→K (a.put o.dst (.slice A' (n+m) c')) w'):
  if Region.wanted o (yielded ops a.tmps)=true then Oper.wp P o a w K Q else E:=by
 have hw:Region.wanted o (yielded ops a.tmps)=true:=by simp[Region.wanted,hgd]
 rw[if_pos hw]
 obtain⟨A',c',w',hr,h2,h3,h4⟩:=kC (P:=P) base t o.type e i z k bytes ht hi hz hsize hby hzs hk v n xs hown A m c news hr h1 h63 hbytes hbase
 unfold Oper.wp execOp
 simp only[ho,resolve,invoke,builtin,Sem.run_bind,Sem.run_pure,Result.andThen_ok,List.map_toArray,List.map_cons,List.map_nil,hs,hx,hr]
 exact h A' c' w' h2 h3 h4
theorem gq {P:Program} {S:Nat→Prop} {w:World} {ops:Array Oper} {rest:List Oper} {o:Oper} {a:Act} {Q:Exit→Act→World→Prop} (hgd:o.guard=none) (s x:Operand) (t:TypeId)
  (ho:o.op= .call {callee:= .builtin .append,args:= #[s,x],argTypes:= #[t,t]})
  (base:Nat) (e:TypeId) (i:TypeInfo) (z:Value) (k bytes:Nat) (ht:P.underlying t=some (.slice e)) (hi:P.info? e=some i) (hz:i.zero=some z)
  (hsize:i.size=k) (hby:i.bytes=bytes) (hzs:z.cells.size=k) (hk:0<k) (v:Value) (n:Nat) (xs:List Value) (hs:a.eval s=v) (hown:w.ownsRow base e k v n xs)
  (A:Option Addr) (m c:Nat) (news:List Value) (hx:a.eval x= .slice A m c) (hr:ak S w A (m*k) news) (h1:∀u∈news,u.oneCell'=true) (h63:n+m≤maxLen) (hbytes:(n+m)*bytes≤140737488355328) (hbase:base≤w.heap.size)
  (h:∀A' c' w',w'.ownsRow base e k (.slice A' (n+m) c') (n+m) (xs++news)→Below base w w'→wpList P ops Q rest (a.put o.dst (.slice A' (n+m) c')) w'):
  wpList P ops Q (o::rest) a w:=by
 refine wpList_plain hgd fun K hK=> ?_
 obtain⟨A',c',w',hr,h2,h3,h4⟩:=kC (P:=P) base t o.type e i z k bytes ht hi hz hsize hby hzs hk v n xs hown A m c news hr h1 h63 hbytes hbase
 unfold Oper.wp execOp
 simp only[ho,resolve,invoke,builtin,Sem.run_bind,Sem.run_pure,Result.andThen_ok,List.map_toArray,List.map_cons,List.map_nil,hs,hx,hr]
 exact hK _ _ (h A' c' w' h2 ⟨h3.os,h3.tape,h3.output,h3.size,fun b hb=>h3.block b (by omega) (fun e=>by have:=fO hown b e.symm;omega)⟩)
end Go.Proofs.YtohpcppeajijnaaGreat
