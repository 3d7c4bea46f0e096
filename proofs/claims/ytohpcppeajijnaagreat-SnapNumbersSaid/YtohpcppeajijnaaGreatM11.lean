/- DERIVED: THE SHELF's CONTRACTS AT THIS DUMP, IN PLAIN WORDS (tools/lay-plain.mjs out of 'YtohpcppeajijnaaGreatLaypGrowLay.lean', which tools/lay-shelf.mjs wrote): THE SAME DECLARATIONS UNDER THE SAME NAMES: 'import', 'namespace', 'open', 'def', 'theorem' AND NOTHING ELSE: no command of the shelf's: FOR A HAND-IN. Each laying: the table of numbers ('.._ren') and one theorem, a field a fact of the dump's own or the kernel's comparison; each contract: ONE APPLICATION. slices.Concat of rows of bytes. slices.Clone of bytes. tree: Seal, Keep, Part, Read, Append. tree: Part, Read, Append. tree: Read, Append. tree: New; Drop refused. tree: Link. A law's own tree, beside what else is the law's. -/
import Derived.Test.YtohpcppeajijnaaGreatProg
import Derived.Shelf.Spec.SlicesGrow
import Derived.Test.YtohpcppeajijnaaGreatM10
import Derived.Test.YtohpcppeajijnaaGreatM03
import Derived.Lib.SliceRun
import Derived.Test.YtohpcppeajijnaaGreatM09
namespace Go.Proofs
open Go.Shelf
def Tryz.sF:Go.Shelf.Ren:=⟨fun|4=>130|n=>n,fun|22=>39|25=>5|3=>3|4=>4|9=>9|20=>20|0=>0|n=>n,fun|n=>n⟩
theorem Tryz.N_:Go.Proofs.Lays8.n4 Tryz.prog Tryz.sF:={
 mixed:=by kernel_rfl
 f4:=⟨Tryz.f130.name,by decide,Tryz.func130.trans (congrArg some (by kernel_rfl))⟩
 t0:=Tryz.underlying0
 a0:=Tryz.isAgg0
 z0:=Tryz.sizeOf0
 v0:=Tryz.zeroValue0
 t3:=Tryz.underlying3
 a3:=Tryz.isAgg3
 z3:=Tryz.sizeOf3
 v3:=Tryz.zeroValue3
 t4:=Tryz.underlying4
 a4:=Tryz.isAgg4
 z4:=Tryz.sizeOf4
 v4:=Tryz.zeroValue4
 t9:=Tryz.underlying9
 a9:=Tryz.isAgg9
 z9:=Tryz.sizeOf9
 v9:=Tryz.zeroValue9
 t20:=Tryz.underlying20
 a20:=Tryz.isAgg20
 z20:=Tryz.sizeOf20
 v20:=Tryz.zeroValue20
 t22:=Tryz.underlying39
 a22:=Tryz.isAgg39
 z22:=Tryz.sizeOf39
 v22:=Tryz.zeroValue39}
end Go.Proofs
namespace Go.Proofs.YtohpcppeajijnaaGreat
open Go.ChangeShapes Go.WideShapes Go.ChangeAt Go.RowKit
set_option linter.unusedVariables false
set_option linter.unusedSimpArgs false
theorem Iy (n:Nat) (w:World) (hn:n≤1000000000):
  Calls Tryz.prog 130 #[.slice none 0 0, .int .i64 n] w fun e w'=>∃v,e= .returned v∧w'.ownsRow w.heap.size 5 1 v 0 []∧Below w.heap.size w w':=by
 obtain⟨i0,hi,hz0,hz1,hz2⟩:=info_parts Tryz.DV
 by_cases h0:n=0
 ·subst h0
  refine(Any8.slices_Grow_room Tryz.N_ none 0 0 0 w (by omega) (by omega) (by omega) (by omega)).mono ?_
  rintro e w' ⟨rfl,rfl⟩
  exact⟨_,rfl,⟨rfl, .inl ⟨rfl,rfl⟩⟩,Below.refl _ _⟩
 ·refine(Any8.slices_Grow_grow Tryz.N_ i0 (.int .u8 0) hi hz0 (by rw[hz1];omega) none 0 0 n [] w (by omega) (by omega) (by rw[hz2];omega) (by omega) (by simp) (fun _=>rfl) (fun a h=>by cases h)).mono ?_
  rintro e w' ⟨rfl,rfl⟩
  have h1:=grownCap_ge w (0+n) 0 (Tryz.sF.t 25)
  have h2:=grownCap_le_maxLen w (0+n) 0 (Tryz.sF.t 25) (by unfold maxLen;omega)
  refine⟨_,rfl,⟨rfl, .inr ⟨w.heap.size,_,_,rfl,Nat.le_refl _,(MapKept.heap_alloc w.drew _).1,Nat.zero_le _,h2,?_,rfl⟩⟩,((Below.refl _ _).drew).alloc (Nat.le_refl _) _⟩
  have e1:(Value.cells (.int .u8 0)).size=1:=rfl
  simp only[Array.size_append,size_zeroCells,List.size_toArray,List.length_nil,e1]
  omega
theorem sG {w:World} {base:Nat} {e:TypeId} {size:Nat} {v:Value} {n:Nat} {xs:List Value} (h:w.ownsRow base e size v n xs):∃a c,v= .slice a n c∧n≤c∧c≤maxLen:=by
 rcases h.2 with⟨rfl,rfl⟩|⟨g,cap,cur,rfl,_,_,h,h',_⟩
 ·exact⟨_,_,rfl,Nat.le_refl _,Nat.zero_le _⟩
 ·exact⟨_,_,rfl,h,h'⟩
theorem xU (eZ:List (List UInt8)) (k:Nat) (bs:List UInt8) (h:eZ[k]? =some bs):(eZ.take (k+1)).flatten=(eZ.take k).flatten++bs:=by
 obtain⟨hk,e⟩:=List.getElem?_eq_some_iff.1 h
 rw[List.take_succ_eq_append_getElem hk,List.flatten_append,e]
 simp
theorem Mh (eZ:List (List UInt8)) (k:Nat):(eZ.take k).flatten.length≤eZ.flatten.length:=by
 conv=>rhs;rw[←List.take_append_drop k eZ,List.flatten_append]
 simp
def nH (eZ:List (List UInt8)) (k:Nat):List UInt8:=(eZ.take k).flatten
def lU (eZ:List (List UInt8)) (k:Nat):Nat:=(nH eZ k).length
set_option maxRecDepth 100000 in
set_option maxHeartbeats 4000000 in
theorem Ce {S:Nat→Prop} (B n:Nat) (eZ:List (List UInt8)) (w:World) (hn:n=eZ.length) (hn2:n≤1000) (hB:B<w.heap.size) (htot:eZ.flatten.length≤1000000000)
  (hc:∀k,k<n→∃a l c bs,w.cell? ⟨B,k,none⟩=some (.slice a l c)∧ak S w a l (bs.map bv)∧eZ[k]? =some bs):
  Calls Tryz.prog 77 #[.slice (some ⟨B,0,none⟩) n n] w fun e w'=>∃a c,e= .returned (.slice a eZ.flatten.length c)∧(eZ.flatten.length≤c∧c≤maxLen)∧ak (fun x=>w.heap.size≤x∧x<w'.heap.size) w' a eZ.flatten.length (eZ.flatten.map bv)∧Below w.heap.size w w':=by
 obtain⟨i0,hi,hz0,hz1,hz2⟩:=info_parts Tryz.DV
 have HN:=Lib.hid hn
 have HC:=Lib.hid hc
 have hle:∀k,lU eZ k≤eZ.flatten.length:=fun k=>Mh eZ k
 obtain⟨N,hN⟩:∃N,N=eZ.flatten.length:=⟨_,rfl⟩
 obtain⟨fl,Cg⟩:∃fl,fl=eZ.flatten:=⟨_,rfl⟩
 rw[←hN]at htot hle⊢
 rw[←Cg]
 have xV:=Lib.hid hN
 have Wh:=Lib.hid Cg
 clear hN Cg
 have BM:=Lib.hid hle
 have hG:=Iy N w htot
 have HG:=Lib.hid hG
 clear hn hc hle hG
 go_enter Tryz.func77,Tryz.ntmps77
 go_wp2
 go_loop [3,11] (fun s i=>∃k:Nat,k≤n∧i= .int .i64 k∧s= .int .i64 (lU eZ k)) (fun _ i=>n-(intOf i).toNat)
 case atStart=>exact⟨0,by omega,rfl,rfl⟩
 case round=>
  obtain⟨k,hk,rfl,rfl⟩:=hrel
  have hlk:=BM.out k
  by_cases hlt:k<n
  ·obtain⟨a,l,c,bs,hcell,hS,hp⟩:=HC.out k hlt
   have hll:l=bs.length:=by have:=hS.length;simpa using this.symm
   subst hll
   have uo:Hid (lU eZ (k+1)=lU eZ k+bs.length):=by unfold lU nH;rw[xU eZ k bs hp,List.length_append];exact rfl
   have hlk2:lU eZ k+bs.length≤1000000000:=by have:=uo.out;have:=BM.out (k+1);omega
   clear hp hS
   go_wp2
   go_round
   case rel=>exact⟨k+1,by omega,by go_num,by rw[uo.out];go_num⟩
   case measure=>simp[intOf];omega
  ·obtain rfl:n=k:=by omega
   have HT:Hid (nH eZ n=fl∧lU eZ n=N):=by
    have:eZ.take n=eZ:=List.take_of_length_le (by have:=HN.out;omega)
    unfold lU nH
    rw[this];exact⟨Wh.out.symm,xV.out.symm⟩
   rw[HT.out.2]
   go_wp2_with fail
   (with_reducible refine HG.out.mono ?_)
   rintro e w1 ⟨v,rfl,hown,hb1⟩
   have HB1:=Lib.hid hb1
   have hown0:w1.ownsRow w.heap.size 5 1 v (lU eZ 0) ((nH eZ 0).map bv):=hown
   have HO:=Lib.hid hown0
   clear hb1 hown hown0 HG
   go_wp2_with fail
   go_loopw [6,27] (fun v i wr=>∃k:Nat,k≤n∧i= .int .i64 k∧wr.ownsRow w.heap.size 5 1 v (lU eZ k) ((nH eZ k).map bv)∧Below w.heap.size w wr) (fun _ i _=>n-(intOf i).toNat)
   case atStart=>exact⟨0,by omega,rfl,HO.out,HB1.out⟩
   case round=>
    obtain⟨k,hk,rfl,hown,hb⟩:=hrel
    have hbs:=hb.size
    by_cases hlt:k<n
    ·obtain⟨a,l,c,bs,hcell0,hS,hp⟩:=HC.out k hlt
     have hcell:=(hb.cell (p:=⟨B,k,none⟩) hB).trans hcell0
     have uo:Hid (nH eZ (k+1)=nH eZ k++bs∧lU eZ (k+1)=lU eZ k+bs.length):=by unfold lU nH;rw[xU eZ k bs hp,List.length_append];exact⟨rfl,rfl⟩
     have hll:l=bs.length:=by have:=hS.length;simpa using this.symm
     subst hll
     have hlk2:lU eZ k+bs.length≤1000000000:=by have:=uo.out.2;have:=BM.out (k+1);omega
     have HS:=Lib.hid (hS.below hb (Nat.le_refl _))
     have HOW:=Lib.hid hown
     have HB:=Lib.hid hb
     clear hp hS hown hb hcell0 hlk
     go_wp2_with (at_builtin;refine aO (by rfl) _ _ 39 (by rfl) w.heap.size 5 i0 (.int .u8 0) 1 Tryz.underlying39 hi hz0 hz1 hz2 rfl _ _ _ (by rfl) HOW.out a bs.length c (bs.map bv) (by rfl) HS.out (bU bs) (by unfold maxLen;omega) (by omega) hbs ?_;intro A' c' w2 hown2 hgrow2 _ _)
     have xq:=Lib.hid hown2
     have HG2:=Lib.hid hgrow2
     clear hown2 hgrow2
     go_roundw
     case rel=>
      refine⟨k+1,by omega,by go_num,?_,HB.out.grown HG2.out hbs (bC HOW.out)⟩
      rw[uo.out.1,uo.out.2,List.map_append]
      exact xq.out
     case measure=>simp[intOf];omega
    ·obtain rfl:n=k:=by omega
     rw[HT.out.1,HT.out.2]at hown
     obtain⟨a,c,rfl,hac⟩:=sG hown
     have HOW:=Lib.hid hown
     have HB:=Lib.hid hb
     clear hown hb
     go_wp2
     go_ret
     exact⟨a,c,rfl,hac,(ak.ku HOW.out).2,HB.out⟩
section
variable {g:Nat→Own} {D:Nat→Prop} {p mb:Nat} {ib nb:Int→Nat} {T:aI}
theorem Turn.of {w w':World} {D7 nb':Int→Nat} {T':aI} {v:Value} {e:Ending} (he:e= .returned v) (h:aK g D w' p mb D7 nb' T') (hK:Keeps (fun b=>g b≠ .none) w w'):Turn g D w p mb T' v e w':=
 ⟨he,g,D,D7,nb',h,fun b h=> .inl h,fun b h=> .inl h,hK⟩
theorem qo {id:Int} (h:cK T id=0):∃x,aF id T=some x∧x.kind≠2:=by
 unfold cK at h
 cases hx:aF id T with
 |none=>rw[hx]at h;cases h
 |some x=>
  rw[hx]at h
  by_cases hk:x.kind=2
  ·simp only[if_pos hk]at h;cases h
  ·exact⟨x,rfl,hk⟩
theorem E5 {id aS:Int} (h:cK T id≠0):nT T id aS=cK T id:=by
 unfold cK at h⊢
 unfold nT
 cases hx:aF id T with
 |none=>rfl
 |some x=>
  rw[hx]at h
  by_cases hk:x.kind=2
  ·simp only[if_pos hk]
  ·simp only[if_neg hk]at h;exact absurd rfl h
theorem Al {id:Int} {b:List UInt8} (h:cK T id≠0):iP T id b=cK T id:=by
 unfold cK at h⊢
 unfold iP
 cases hx:aF id T with
 |none=>rfl
 |some x=>
  rw[hx]at h
  by_cases hk:x.kind=2
  ·simp only[if_pos hk]
  ·simp only[if_neg hk]at h;exact absurd rfl h
theorem E8 {id:Int} (h:cK T id≠0):gu T id=cK T id:=by
 unfold cK at h⊢
 unfold gu
 cases hx:aF id T with
 |none=>rfl
 |some x=>
  rw[hx]at h
  by_cases hk:x.kind=2
  ·simp only[if_pos hk]
  ·simp only[if_neg hk]at h;exact absurd rfl h
set_option maxHeartbeats 4000000 in
theorem Mi (id aS:Int) (w:World) (h:aK g D w p mb ib nb T) (hid:(Lit.int .i64 id).wf=true) (ht0:0≤aS) (ht1:aS≤18446744073709551615):
  Calls Tryz.prog 23 #[ptr p, .int .i64 id, .int .u64 aS] w (Turn g D w p mb (dZ T id aS).2 (.int .i64 (dZ T id aS).1)):=by
 have HH:=Lib.hid h
 by_cases hf:cK T id=0
 ·obtain⟨x,hx,hk⟩:=qo hf
  have HF:=Lib.hid (uL id hx hk w h hid)
  obtain⟨c0,c1,c2,c3,c4,c5,c7,hiw⟩:=(h.item id x hx).cell
  have HX:=Lib.hid hx
  have hE:nT T id aS=if x.closed then 27 else if 1099511627776<aS then 1 else 0:=by unfold nT;rw[hx];simp only[if_neg hk]
  have HE:=Lib.hid hE
  cases hcl:x.closed with
  |true=>
   have HM:Hid (dZ T id aS=(27,T)):=by
    unfold dZ
    rw[HE.out,hcl];simp only[if_pos];exact rfl
   rw[hcl]at c5
   clear hE hcl hx hk hf h c7
   go_enter Tryz.func23,Tryz.ntmps23
   go_wp2_with fail
   (with_reducible refine HF.out.mono ?_)
   rintro e w1 ⟨rfl,rfl⟩
   go_wp2_with fail
   go_ret
   rw[HM.out]
   exact Turn.same HH.out (Below.refl _ _) rfl
  |false=>
   rw[hcl]at c5
   by_cases htl:1099511627776<aS
   ·have HM:Hid (dZ T id aS=(1,T)):=by
     unfold dZ
     rw[HE.out,hcl];simp only[Bool.false_eq_true,if_false,if_pos htl];exact rfl
    clear hE hcl hx hk hf h c7
    go_enter Tryz.func23,Tryz.ntmps23
    go_wp2_with fail
    (with_reducible refine HF.out.mono ?_)
    rintro e w1 ⟨rfl,rfl⟩
    go_wp2_with fail
    go_ret
    rw[HM.out]
    exact Turn.same HH.out (Below.refl _ _) rfl
   ·have HM:Hid (dZ T id aS=(0,eT (aT id (fun x=>{x with closed:=true,aS:=aS}) T) id)):=by
     unfold dZ
     rw[HE.out,hcl];simp only[Bool.false_eq_true,if_false,if_neg htl];exact rfl
    have hfz4:=(h.item id x hx).frozen 4
    have hfz5:=(h.item id x hx).frozen 5
    have hA1:aK g D ((w.setCell ⟨ib id,5,none⟩ (.bool true)).setCell ⟨ib id,4,none⟩ (.int .u64 aS)) p mb ib nb (aT id (fun x=>{x with closed:=true,aS:=aS}) T):=by
     refine h.fields hx (fun x=>{x with closed:=true,aS:=aS}) rfl rfl rfl (Keeps.set2 w _ _ _ _ _) (by rw[size_set,size_set]) fun a c hc=> ?_
     rw[aL (aL hc)]
     rfl
    have hx1:aF id (aT id (fun x=>{x with closed:=true,aS:=aS}) T)=some {x with closed:=true,aS:=aS}:=by rw[bF,if_pos rfl,hx];rfl
    have HS:=Lib.hid (vD id hx1 hid _ hA1)
    have hgi:=h.mX id x hx
    have hgm:=h.iJ
    have Zq:Hid (∀b,(b=ib id∨b=mb)→g b≠ .none):=fun b hb=>by
     rcases hb with rfl|rfl
     ·rw[hgi];simp
     ·rw[hgm];simp
    clear hE hcl hx hk hf h c7 hA1 hx1 hgi hgm
    go_enter Tryz.func23,Tryz.ntmps23
    go_wp2_with fail
    (with_reducible refine HF.out.mono ?_)
    rintro e w1 ⟨rfl,rfl⟩
    go_wp2_with fail
    (with_reducible refine HS.out.mono ?_)
    rintro e w1 ⟨rfl,hA2,hK2,hs2⟩
    have HA2:=Lib.hid hA2
    have Ch:=Lib.hid hK2
    clear hA2 hK2
    go_wp2_with fail
    go_ret
    rw[HM.out]
    exact Turn.of rfl HA2.out (((Keeps.set2 w (ib id) 5 4 _ _).mono fun b _ hb=>Zq.out b (.inl hb)).trans (Ch.out.mono fun b _ hb=>Zq.out b (.inr hb)) (fun _ _ h=>h))
 ·have hne:(cK T id==0)=false:=by simpa using hf
  have HF:=Lib.hid (vC id _ rfl hf w h hid)
  have HM:Hid (dZ T id aS=(cK T id,T)):=by
   unfold dZ
   rw[E5 hf,if_neg hf];exact rfl
  obtain⟨k,hk⟩:∃k,k=cK T id:=⟨_,rfl⟩
  rw[←hk]at HF hne HM
  clear hf h hk
  go_enter Tryz.func23,Tryz.ntmps23
  go_wp2_with fail
  (with_reducible refine HF.out.mono ?_)
  rintro e w1 ⟨rfl,rfl⟩
  go_wp2_with fail
  go_ret
  rw[HM.out]
  exact Turn.same HH.out (Below.refl _ _) rfl
end
def kC (w:World) (bs:List UInt8) (e:Ending) (w':World):Prop:=
 ∃a n c,e= .returned (.slice a n c)∧n≤c∧ak (fun x=>w.heap.size≤x∧x<w'.heap.size) w' a n (bs.map bv)∧Below w.heap.size w w'
set_option maxHeartbeats 1000000 in
theorem Ci {S:Nat→Prop} (a:Option Addr) (n cap:Nat) (bs:List UInt8) (w:World) (hm:n≤1000000000) (hr:ak S w a n (bs.map bv)):
  Calls Tryz.prog 105 #[.slice a n cap] w (kC w bs):=by
 obtain⟨i0,hi,hz0,hz1,hz2⟩:=info_parts Tryz.DV
 have hll:bs.length=n:=by have:=hr.length;simpa using this
 have heq:=fun w=>Lib.run_eql_slice_nil (P:=Tryz.prog) w 39 5 a n cap 0 0 Tryz.underlying39
 have HR:=Lib.hid hr
 have HL:=Lib.hid hll
 clear hr hll
 cases a with
 |none=>
  have h0:n=0:=by
   rcases Nat.eq_zero_or_pos n with h0|h0
   ·exact h0
   ·obtain⟨_,_,e,_⟩:=HR.out.at_ h0
    cases e
  subst h0
  have hb0:bs=[]:=List.eq_nil_of_length_eq_zero HL.out
  subst hb0
  go_enter Tryz.func105,Tryz.ntmps105
  go_wp2
  go_ret
  exact⟨none,0,_,rfl,Nat.zero_le _,ak.nil _ _ _,Below.refl _ _⟩
 |some ad=>
  have hsz:(w.alloc (.cells #[] 5)).heap.size=w.heap.size+1:=by simp
  have HS:=Lib.hid (HR.out.below (wall w (.cells #[] 5)) (Nat.le_refl _))
  go_enter Tryz.func105,Tryz.ntmps105
  go_wp2_with ((at_builtin;refine aO (by rfl) _ _ 39 (by rfl) w.heap.size 5 i0 (.int .u8 0) 1 Tryz.underlying39 hi hz0 hz1 hz2 rfl _ 0 [] (by rfl) ⟨rfl, .inr ⟨w.heap.size,0,#[],rfl,Nat.le_refl _,(MapKept.heap_alloc w _).1,Nat.le_refl _,Nat.zero_le _,rfl,rfl⟩⟩ (some ad) n cap (bs.map bv) (by rfl) HS.out (bU bs) (by unfold maxLen;omega) (by omega) (by simp) ?_;intro A' c' w2 hown2 hgrow2 _ _))
  go_ret
  have hB2:Below w.heap.size w w2:=(wall w _).grown hgrow2 (by simp) (fun k hk=>by cases hk;exact Nat.le_refl _)
  obtain⟨a3,c3,e3,hac⟩:=bQ hown2
  cases e3
  refine⟨_,n,_,rfl,by omega,?_,hB2⟩
  have hro:=(ak.ku hown2).2
  rw[List.nil_append]at hro
  simpa only[Nat.zero_add]using hro
section
variable {g:Nat→Own} {D:Nat→Prop} {p mb:Nat} {ib nb:Int→Nat} {T:aI}
theorem vE {S S':Nat→Prop} (a:Option Addr) (l c:Nat) (x:List UInt8) (a':Option Addr) (l' c':Nat) (y:List UInt8) (w:World) (hx:ak S w a l (x.map bv)) (hy:ak S' w a' l' (y.map bv)) (ht:l+l'≤1000000000):
  Calls Tryz.prog 77 #[.slice (some ⟨w.heap.size,0,none⟩) 2 2] (w.alloc (.cells #[.slice a l c, .slice a' l' c'] 39)) fun e w'=>∃a2 c2,e= .returned (.slice a2 (l+l') c2)∧qN (l+l') c2∧ak (fun b=>w.heap.size≤b∧b<w'.heap.size) w' a2 (l+l') ((x++y).map bv)∧Below w.heap.size w w':=by
 have e1:x.length=l:=by have:=hx.length;simpa using this
 have e2:y.length=l':=by have:=hy.length;simpa using this
 have e3:([x,y]:List (List UInt8)).flatten=x++y:=by simp
 have e4:(x++y).length=l+l':=by rw[List.length_append,e1,e2]
 refine(Ce (S:=fun b=>S b∨S' b) w.heap.size 2 [x,y] _ rfl (by omega) (by simp) (by rw[e3,e4];exact ht) (fun k hk=> ?_)).mono ?_
 ·rcases (show k=0∨k=1 by omega)with rfl|rfl
  ·exact⟨a,l,c,x,qV.1,(hx.below (wall w _) (Nat.le_refl _)).mono fun _=> .inl,rfl⟩
  ·exact⟨a',l',c',y,qV.2,(hy.below (wall w _) (Nat.le_refl _)).mono fun _=> .inr,rfl⟩
 ·rintro e w' ⟨a2,c2,rfl,hc2,hr,hb⟩
  rw[e3,e4]at hr hc2
  rw[e3,e4]
  exact⟨a2,c2,rfl,hc2,hr.mono fun b hb=>⟨by simp at hb;omega,hb.2⟩,(wall w _).trans (hb.mono (by simp))⟩
theorem Cj {w w1:World} {id:Int} {x:bf} {bs:List UInt8} {a2:Option Addr} {l c2:Nat} {v3 v:Value} (h:aK g D w p mb ib nb T) (hb:Below w.heap.size w w1) (hx:aF id T=some x) (hl:bs.length=l) (hcap:qN (x.b.length+l) c2)
  (hr:ak (fun b=>w.heap.size≤b∧b<w1.heap.size) w1 a2 (x.b.length+l) ((x.b++bs).map bv)) (h3:v3= .int .i64 ((x.b.length+l:Nat):Int)):
  Turn g D w p mb (aT id (fun x=>{x with b:=x.b++bs}) T) v (.returned v) ((w1.setCell ⟨ib id,6,none⟩ (.slice a2 (x.b.length+l) c2)).setCell ⟨ib id,3,none⟩ v3):=by
 subst h3
 have hA1:=h.below hb (Nat.le_refl _)
 have ti:=h.mX id x hx
 have hs:=hb.size
 have hK:=Keeps.set2 w1 (ib id) 6 3 (.slice a2 (x.b.length+l) c2) (.int .i64 ((x.b.length+l:Nat):Int))
 obtain⟨ax,cx,_,_,_,hc⟩:=(hA1.item id x hx).row
 have hlen:(x.b++bs).length=x.b.length+l:=by rw[List.length_append,hl]
 refine⟨rfl,g,fun b=>D b∨(w.heap.size≤b∧b<w1.heap.size),ib,nb,?_,fun b h=> .inl h,fun b hb=>hb.imp (fun h=>h) fun h=>h.1,?_⟩
 ·refine hA1.aT hx rfl (fun _ h=> .inl h) (fun b hb=> ?_) (by rw[size_set,size_set];exact Nat.le_refl _) (fun b hbw h1 _=>hK.block b hbw (fun e=>h1 (by rw[e];exact ti))) ?_
  ·rw[size_set,size_set]
   rcases hb with hb|hb
   ·exact⟨hA1.data b hb,hA1.lN b hb⟩
   ·refine⟨?_,hb.2⟩
    cases hg:g b with
    |none=>rfl
    |_=>have:=h.low b (by rw[hg];simp);omega
  ·refine⟨⟨a2,c2,?_,by rw[hlen];exact hcap,?_⟩,fun hk=> ?_⟩
   ·rw[aL (aL hc)]
    simp only[gK,hlen]
    rfl
   ·rw[hlen]
    refine hr.move hK.size fun b hb hbw=>⟨.inr hb,hK.block b hbw ?_⟩
    have:=h.low (ib id) (by rw[ti];simp)
    omega
   ·have tn:=h.lq id x hx hk
    have e:dP {x with b:=x.b++bs}=dP x:=rfl
    rw[e]
    exact((hA1.item id x hx).names hk).kept (hK.block _ (hA1.low _ (by rw[tn];simp)) (fun e=>by rw[e,ti]at tn;cases tn))
 ·have hgi:g (ib id)≠ .none:=by rw[ti];simp
  exact⟨hK.os.trans hb.os,hK.tape.trans hb.tape,hK.output.trans hb.output,Nat.le_trans hs hK.size,fun b hbw hbg=>(hK.block b (by omega) (fun e=>hbg (by rw[e];exact hgi))).trans (hb.block b hbw)⟩
set_option maxRecDepth 100000 in
set_option maxHeartbeats 4000000 in
theorem E9 {S:Nat→Prop} (id:Int) (a:Option Addr) (l c:Nat) (bs:List UInt8) (w:World) (h:aK g D w p mb ib nb T) (hok:∀x,aF id T=some x→x.b.length≤4096) (hid:(Lit.int .i64 id).wf=true) (hr:ak S w a l (bs.map bv)) (hl:l≤1000000000):
  Calls Tryz.prog 20 #[ptr p, .int .i64 id, .slice a l c] w (Turn g D w p mb (bI T id bs).2 (.int .i64 (bI T id bs).1)):=by
 have HH:=Lib.hid h
 have hbl:bs.length=l:=by have:=hr.length;simpa using this
 by_cases hf:cK T id=0
 ·obtain⟨x,hx,hk⟩:=qo hf
  have HF:=Lib.hid (uL id hx hk w h hid)
  obtain⟨c0,c1,c2,c3,c4,c5,c7,hiw⟩:=(h.item id x hx).cell
  have hxb:=hok x hx
  have hE:iP T id bs=if x.closed then 27 else if 4096<x.b.length+l then 15 else 0:=by unfold iP;rw[hx,hbl];simp only[if_neg hk]
  have HE:=Lib.hid hE
  cases hcl:x.closed with
  |true=>
   have HM:Hid (bI T id bs=(27,T)):=by
    unfold bI
    rw[HE.out,hcl];simp only[if_pos];exact rfl
   rw[hcl]at c5
   clear hE hcl hx hk hf h c7 hok hr hbl
   go_enter Tryz.func20,Tryz.ntmps20
   go_wp2_with fail
   (with_reducible refine HF.out.mono ?_)
   rintro e w1 ⟨rfl,rfl⟩
   go_wp2_with fail
   go_ret
   rw[HM.out]
   exact Turn.same HH.out (Below.refl _ _) rfl
  |false=>
   rw[hcl]at c5
   by_cases hbig:4096<x.b.length+l
   ·have HM:Hid (bI T id bs=(15,T)):=by
     unfold bI
     rw[HE.out,hcl];simp only[Bool.false_eq_true,if_false,if_pos hbig];exact rfl
    have hd:decide ((4096:Int)-(x.b.length:Int)<(l:Int))=true:=by simp;omega
    clear hE hcl hx hk hf h c7 hok hr hbl
    go_enter Tryz.func20,Tryz.ntmps20
    go_wp2_with fail
    (with_reducible refine HF.out.mono ?_)
    rintro e w1 ⟨rfl,rfl⟩
    go_wp2_with fail
    go_ret
    rw[HM.out]
    exact Turn.same HH.out (Below.refl _ _) rfl
   ·have HM:Hid (bI T id bs=(0,aT id (fun x=>{x with b:=x.b++bs}) T)):=by
     unfold bI
     rw[HE.out,hcl];simp only[Bool.false_eq_true,if_false,if_neg hbig];exact rfl
    have hd:decide ((4096:Int)-(x.b.length:Int)<(l:Int))=false:=by simp;omega
    obtain⟨ax,cx,c6,hcap,hrx,hcells⟩:=(h.item id x hx).row
    have HC:=Lib.hid (vE ax x.b.length cx x.b a l c bs w hrx hr (by omega))
    have HX:=Lib.hid hx
    have Vp:=Lib.hid hcells
    have xW:=Lib.hid hbl
    clear hE hcl hx hk hf h c7 hok hr hbl hrx hcells hcap
    go_enter Tryz.func20,Tryz.ntmps20
    go_wp2_with fail
    (with_reducible refine HF.out.mono ?_)
    rintro e w1 ⟨rfl,rfl⟩
    go_wp2_with fail
    (with_reducible refine HC.out.mono ?_)
    rintro e w1 ⟨a2,c2',rfl,hcap2,hr2,hb2⟩
    have hA1:=HH.out.below hb2 (Nat.le_refl _)
    have hi1:=hA1.item id x HX.out
    have hfz6:=hi1.frozen 6
    have hfz3:=hi1.frozen 3
    have hiw1:=hi1.cell.2.2.2.2.2.2.2
    obtain⟨_,_,d6,_,_,_⟩:=hi1.row
    obtain⟨_,_,_,d3,_,_,_,_⟩:=hi1.cell
    have HA1:=Lib.hid hA1
    have HR2:=Lib.hid hr2
    have HB2:=Lib.hid hb2
    have OW:=Lib.hid hcap2
    clear hA1 hr2 hb2 hcap2 hi1
    go_wp2_with fail
    go_ret
    rw[HM.out]
    exact Cj HH.out HB2.out HX.out xW.out OW.out HR2.out (by simp)
 ·have hne:(cK T id==0)=false:=by simpa using hf
  have HF:=Lib.hid (vC id _ rfl hf w h hid)
  have HM:Hid (bI T id bs=(cK T id,T)):=by
   unfold bI
   rw[Al hf,if_neg hf];exact rfl
  obtain⟨k,hk⟩:∃k,k=cK T id:=⟨_,rfl⟩
  rw[←hk]at HF hne HM
  clear hf h hk hok hr hbl
  go_enter Tryz.func20,Tryz.ntmps20
  go_wp2_with fail
  (with_reducible refine HF.out.mono ?_)
  rintro e w1 ⟨rfl,rfl⟩
  go_wp2_with fail
  go_ret
  rw[HM.out]
  exact Turn.same HH.out (Below.refl _ _) rfl
end
def newG (B b:Nat):Own:=if b=B then .items else if b=B+1 then .item 0 else if b=B+2 then .names 0 else .none
theorem Mj {w w1 w2:World} (hi:gU (fun _=>False) w1 0 (w.heap.size+1) (w.heap.size+1+1) (aX 2)) (hb:Below (w.heap.size+1) (w.alloc (.map #[] 0)) w1) (hs:w.heap.size+1+1<w1.heap.size)
  (hM:MapAt b_ w2 w.heap.size (bP b_.lt 0 (ptr (w.heap.size+1)) [])) (hT:w1.mapTurned w2 w.heap.size):
  aK (fun b=>if b=w2.heap.size then .head else newG w.heap.size b) (fun _=>False) (w2.alloc (.cells #[.map (some w.heap.size)] 96)) w2.heap.size w.heap.size (fun _=>w.heap.size+1) (fun _=>w.heap.size+2) kr∧Below w.heap.size w (w2.alloc (.cells #[.map (some w.heap.size)] 96)):=by
 have hsz:=jc hT
 have hK:=fB hT
 have hw3:∀b,b<w2.heap.size→(w2.alloc (.cells #[.map (some w.heap.size)] 96)).heap[b]? =w2.heap[b]? :=fun b hb=>Below.heap_alloc _ _ _ hb
 have hget:∀k x,aF k kr=some x→k=0∧x=aX 2:=fun k x h=>by
  unfold kr at h
  rw[eP]at h
  by_cases hk:(0:Int)=k
  ·rw[if_pos hk]at h;exact⟨hk.symm,by cases h;rfl⟩
  ·rw[if_neg hk]at h;cases h
 have hB0:Below w.heap.size w (w.alloc (.map #[] 0)):=wall w _
 constructor
 ·refine⟨(MapKept.heap_alloc w2 _).1,?_,fun k x hx=> ?_,by simp,?_,fun k x hx=> ?_,fun k x hx _=> ?_,fun _ h=>h.elim,fun b hb=> ?_,fun _ h=>h.elim⟩
  ·have:=hM.kept (hw3 _ (by omega))
   exact this
  ·obtain⟨rfl,rfl⟩:=hget k x hx
   refine hi.move (by simp;omega) ?_ (fun _=> ?_) (fun _ h=>h.elim)
   ·rw[hw3 _ (by omega),hK.block _ (by omega) (by omega)]
   ·rw[hw3 _ (by omega),hK.block _ (by omega) (by omega)]
  ·rw[if_neg (by omega)];simp[newG]
  ·obtain⟨rfl,rfl⟩:=hget k x hx
   rw[if_neg (by omega)];simp[newG]
  ·obtain⟨rfl,rfl⟩:=hget k x hx
   rw[if_neg (by omega)];simp[newG]
  ·rw[World.size_alloc]
   by_cases h1:b=w2.heap.size
   ·omega
   ·rw[if_neg h1]at hb
    unfold newG at hb
    by_cases h2:b=w.heap.size
    ·omega
    ·by_cases h3:b=w.heap.size+1
     ·omega
     ·by_cases h4:b=w.heap.size+2
      ·omega
      ·simp[h2,h3,h4]at hb
 ·refine(hB0.trans (hb.mono (by omega))).trans ⟨hK.os,hK.tape,hK.output,by rw[World.size_alloc];omega,fun b hbw=> ?_⟩
  have:=hb.size
  rw[World.size_alloc]at this
  rw[hw3 _ (by omega),hK.block _ (by omega) (by omega)]
set_option maxHeartbeats 1000000 in
theorem Mk (w:World):Calls Tryz.prog 10 #[] w fun e w'=>∃g mb ib nb p,e= .returned (ptr p)∧aK g (fun _=>False) w' p mb ib nb kr∧(∀b,g b≠ .none→w.heap.size≤b)∧Below w.heap.size w w':=by
 have hmm:= @run_makeMap Tryz.prog
 have HST:Hid (∀w1,Below (w.heap.size+1) (w.alloc (.map #[] 0)) w1→∃w2,(Instr.mapUpdate 94 (.map (some w.heap.size)) (.int .i64 0) (ptr (w.heap.size+1))).run Tryz.prog w1= .ok () w2∧MapAt b_ w2 w.heap.size (bP b_.lt 0 (ptr (w.heap.size+1)) [])∧w1.mapTurned w2 w.heap.size):=fun w1 hb=>by
  have hm1:MapAt b_ w1 w.heap.size []:=(MapAt.made (F:=b_) w).kept (hb.block _ (by omega))
  exact hm1.rV b_ Tryz.underlying94 (by show 0<maxLen;unfold maxLen;omega) 0 _ (tO (by omega) (by omega))
 go_enter Tryz.func10,Tryz.ntmps10
 go_wp2_with fail
 (with_reducible refine(su _ _ _).mono ?_)
 rintro e w1 ⟨rfl,hi1,hb1,hs1,hs2⟩
 rw[World.size_alloc]at hi1 hb1 hs1 hs2
 obtain⟨w2,Zr,hM2,Am⟩:=HST.out w1 hb1
 have HI1:=Lib.hid hi1
 have HB1:=Lib.hid hb1
 have D8:=Lib.hid hM2
 have HT2:=Lib.hid Am
 have hs3:=hs2 rfl
 clear hi1 hb1 hM2 Am hs2
 go_wp2_with fail
 go_ret
 obtain⟨h1,h2⟩:=Mj HI1.out HB1.out hs3 D8.out HT2.out
 refine⟨_,_,_,_,_,rfl,h1,fun b hb=> ?_,h2⟩
 have h3:=HB1.out.size
 rw[World.size_alloc]at h3
 have h4:=jc HT2.out
 by_cases e1:b=w2.heap.size
 ·omega
 ·rw[if_neg e1]at hb
  unfold newG at hb
  by_cases e2:b=w.heap.size
  ·omega
  ·by_cases e3:b=w.heap.size+1
   ·omega
   ·by_cases e4:b=w.heap.size+2
    ·omega
    ·simp[e2,e3,e4]at hb
theorem uO:dR kr:=by
 have hget:∀k x,aF k kr=some x→k=0∧x=aX 2:=fun k x h=>by
  unfold kr at h
  rw[eP]at h
  by_cases hk:(0:Int)=k
  ·rw[if_pos hk]at h;exact⟨hk.symm,by cases h;rfl⟩
  ·rw[if_neg hk]at h;cases h
 refine⟨⟨by simp[kr,aJ],rfl,fun k x hx=> ?_,fun k x hx e he=> ?_,by simp[kr],fun k x hx=> ?_⟩,fun k x hx hk=> ?_⟩
 ·obtain⟨rfl,rfl⟩:=hget k x hx;exact xP (.inr rfl)
 ·obtain⟨rfl,rfl⟩:=hget k x hx;cases he
 ·obtain⟨rfl,rfl⟩:=hget k x hx;omega
 ·exact absurd (hget k x hx).1 hk
section
variable {g:Nat→Own} {D:Nat→Prop} {p mb:Nat} {ib nb:Int→Nat} {T:aI}
set_option maxHeartbeats 1000000 in
theorem Iz (id:Int) (hd:gu T id≠0) (w:World) (h:aK g D w p mb ib nb T) (hid:(Lit.int .i64 id).wf=true):
  Calls Tryz.prog 29 #[ptr p, .int .i64 id] w (Turn g D w p mb (eu T id).2 (.int .i64 (eu T id).1)):=by
 have HH:=Lib.hid h
 have hcb:(w.alloc (.cells #[.int .i64 id] 3)).cell? ⟨w.heap.size,0,none⟩=some (.int .i64 id):=iU
 have hA:=h.below (wall w (.cells #[.int .i64 id] 3)) (Nat.le_refl _)
 by_cases hf:cK T id=0
 ·obtain⟨x,hx,hk⟩:=qo hf
  have HF:=Lib.hid (uL id hx hk _ hA hid)
  obtain⟨c0,c1,c2,c3,c4,c5,c7,hiw⟩:=(h.item id x hx).cell
  have hE:gu T id=if x.closed then 27 else 0:=by unfold gu;rw[hx];simp only[if_neg hk]
  cases hcl:x.closed with
  |false=>exact absurd (by rw[hE,hcl];rfl) hd
  |true=>
   have HM:Hid (eu T id=(27,T)):=by
    unfold eu
    rw[hE,hcl];simp only[if_pos];exact rfl
   rw[hcl]at c5
   clear hE hcl hx hk hf h c7 hA hd
   go_enter Tryz.func29,Tryz.ntmps29
   go_wp2_with fail
   (with_reducible refine HF.out.mono ?_)
   rintro e w1 ⟨rfl,rfl⟩
   go_wp2_with fail
   go_ret
   rw[HM.out]
   exact Turn.same HH.out (wall w _) rfl
 ·have hne:(cK T id==0)=false:=by simpa using hf
  have HF:=Lib.hid (vC id _ rfl hf _ hA hid)
  have HM:Hid (eu T id=(cK T id,T)):=by
   unfold eu
   rw[E8 hf,if_neg hf];exact rfl
  obtain⟨k,hk⟩:∃k,k=cK T id:=⟨_,rfl⟩
  rw[←hk]at HF hne HM
  clear hf h hk hA hd
  go_enter Tryz.func29,Tryz.ntmps29
  go_wp2_with fail
  (with_reducible refine HF.out.mono ?_)
  rintro e w1 ⟨rfl,rfl⟩
  go_wp2_with fail
  go_ret
  rw[HM.out]
  exact Turn.same HH.out (wall w _) rfl
end
section
variable {g:Nat→Own} {D:Nat→Prop} {p mb:Nat} {ib nb:Int→Nat} {T:aI}
theorem jl {id:Int} {x:bf} (hx:aF id T=some x):fG T id=x.kind:=by unfold fG;rw[hx]
theorem Ck {p:List Nm} {id:Int} (h:aY T 0 p=(id,0)) (hT:dR T):(aF id T).isSome=true:=by
 have:=je hT p 0 (gG hT) (by rw[h])
 rw[h]at this
 exact this
end
theorem dR.del {T:aI} (h:dR T) {k:Int} {x:bf} (hx:aF k T=some x) (h0:k≠0) (hn:x.names=[]) (hc:fZ T k=0):dR (bK k T):=by
 have hget:∀j y,aF j (bK k T)=some y→j≠k∧aF j T=some y:=fun j y hy=>by
  rw[fF]at hy
  by_cases hj:j=k
  ·rw[if_pos hj]at hy;cases hy
  ·rw[if_neg hj]at hy;exact⟨hj,hy⟩
 have hcn:∀j,cn j x=0:=fun j=>by unfold cn;rw[hn];rfl
 refine⟨⟨h.sorted.bK _,?_,fun j y hy=>h.each j y (hget j y hy).2,fun j y hy e he=> ?_,?_,fun j y hy=>h.ids j y (hget j y hy).2⟩,fun j y hy hj=> ?_⟩
 ·have hr:=h.root
  unfold fG at hr⊢
  rw[fF,if_neg (Ne.symm h0)]
  exact hr
 ·have h1:=h.leads j y (hget j y hy).2 e he
  have h2:=DZ hc (hget j y hy).2 e he
  rw[fF,if_neg h2]
  exact h1
 ·have:=oq dD h.sorted hx
  have:=h.len
  omega
 ·have h1:=r_ h.sorted hx j
  rw[hcn]at h1
  have h2:=h.counts j y (hget j y hy).2 hj
  omega
theorem dR.settle {T:aI} (h:dR T) {k:Int} (hk:k≠0) (hf:∀x,aF k T=some x→x.kind≠2):dR (eT T k):=by
 unfold eT
 cases hx:aF k T with
 |none=>exact h
 |some x=>
  simp only
  by_cases hc:x.links=0∧x.closed=true
  ·rw[if_pos hc]
   have hk1:=(h.each k x hx).kind.resolve_right (hf x hx)
   refine h.del hx hk ((h.each k x hx).file hk1) ?_
   have:=h.counts k x hx hk
   omega
  ·rw[if_neg hc];exact h
theorem dR.qW {T:aI} (h:dR T) {k:Int} {x:bf} (hx:aF k T=some x) (hk:x.kind≠2):k≠0:=by
 rintro rfl
 have:=h.root
 unfold fG at this
 rw[hx]at this
 exact hk this
theorem vF {T:aI} (hT:dR T) {ls:List Nm} {kind:Int} (h:iA T ls kind=0):bV ls=0∧(kind=1∨kind=2)∧(aV T ls).2.2=0∧aF (aV T ls).2.1 (mJ T (aV T ls).1)=none∧T.length<64:=by
 unfold iA at h
 by_cases h1:bV ls≠0
 ·rw[if_pos h1]at h;exact absurd h h1
 ·rw[if_neg h1]at h
  by_cases h2:¬(kind=1∨kind=2)
  ·rw[if_pos h2]at h;cases h
  ·rw[if_neg h2]at h
   by_cases h3:(aV T ls).2.2≠0
   ·rw[if_pos h3]at h;exact absurd h h3
   ·rw[if_neg h3]at h
    by_cases h4:(aF (aV T ls).2.1 (mJ T (aV T ls).1)).isSome=true
    ·rw[if_pos h4]at h;cases h
    ·rw[if_neg h4]at h
     by_cases h5:64≤T.length
     ·rw[if_pos h5]at h;cases h
     ·exact⟨by omega,Decidable.not_not.1 h2,by omega,by simpa using h4,by omega⟩
theorem dR.dw {T:aI} (h:dR T) (ls:List Nm) (kind:Int):dR (dw T ls kind).2:=by
 unfold Go.Proofs.YtohpcppeajijnaaGreat.dw
 by_cases he:iA T ls kind=0
 ·rw[if_pos he]
  obtain⟨h1,h2,h3,h4,h5⟩:=vF h he
  obtain⟨x,hx,hk,hm⟩:=lT h h3
  obtain⟨f,hf,hf1,hf2,hfn,_⟩:=h.free
  have e1:mJ T (aV T ls).1=x.names:=by unfold mJ;rw[hx]
  rw[e1]at h4
  have hlen:=h.len
  show dR (ou T ls kind)
  unfold ou
  rw[hf]
  exact h.make h2 hfn (by omega) (by omega) h5 hx hk (qm h1 _ hm) h4
 ·rw[if_neg he];exact h
theorem dR.bI {T:aI} (h:dR T) (id:Int) (b:List UInt8):dR (bI T id b).2:=by
 unfold Go.Proofs.YtohpcppeajijnaaGreat.bI
 by_cases he:iP T id b=0
 ·simp only[if_pos he]
  unfold iP at he
  cases hx:aF id T with
  |none=>rw[hx]at he;cases he
  |some x=>
   rw[hx]at he
   simp only at he
   by_cases hk:x.kind=2
   ·rw[if_pos hk]at he;cases he
   ·rw[if_neg hk]at he
    cases hc:x.closed with
    |true=>rw[hc]at he;cases he
    |false=>
     rw[hc]at he
     simp only[Bool.false_eq_true,if_false]at he
     by_cases hb:4096<x.b.length+b.length
     ·rw[if_pos hb]at he;cases he
     ·have ho:=h.each id x hx
      exact h.xO hx ⟨ho.kind,ho.file,fun h=>absurd h hk,fun _=>hc,ho.sorted,ho.good,by rw[List.length_append];omega,ho.links,ho.aS⟩ rfl rfl rfl
 ·simp only[if_neg he];exact h
theorem dR.dZ {T:aI} (h:dR T) (id aS:Int) (h0:0≤aS):dR (dZ T id aS).2:=by
 unfold Go.Proofs.YtohpcppeajijnaaGreat.dZ
 by_cases he:nT T id aS=0
 ·simp only[if_pos he]
  unfold nT at he
  cases hx:aF id T with
  |none=>rw[hx]at he;cases he
  |some x=>
   rw[hx]at he
   simp only at he
   by_cases hk:x.kind=2
   ·rw[if_pos hk]at he;cases he
   ·rw[if_neg hk]at he
    cases hc:x.closed with
    |true=>rw[hc]at he;cases he
    |false=>
     rw[hc]at he
     simp only[Bool.false_eq_true,if_false]at he
     by_cases hb:1099511627776<aS
     ·rw[if_pos hb]at he;cases he
     ·have ho:=h.each id x hx
      have hk1:=ho.kind.resolve_right hk
      have hcnt:=h.counts id x hx (h.qW hx hk)
      by_cases hl:x.links=0
      ·have hn:=ho.file hk1
       have e:eT (Go.Proofs.YtohpcppeajijnaaGreat.aT id (fun x=>{x with closed:=true,aS:=aS}) T) id=bK id T:=by
        unfold eT
        rw[bF,if_pos rfl,hx]
        simp only[Option.map_some,hl,and_self,if_true]
        unfold bK Go.Proofs.YtohpcppeajijnaaGreat.aT
        clear hx ho hcnt he h
        induction T with
        |nil=>rfl
        |cons y r ih=>
         rw[List.map_cons,List.filter_cons,List.filter_cons,ih]
         by_cases hy:y.1=id<;>simp[hy]
       rw[e]
       exact h.del hx (h.qW hx hk) hn (by omega)
      ·have hs:dR (Go.Proofs.YtohpcppeajijnaaGreat.aT id (fun x=>{x with closed:=true,aS:=aS}) T):=
        h.xO hx ⟨ho.kind,ho.file,fun h=>absurd h hk,fun h=>absurd h hl,ho.sorted,ho.good,ho.size,ho.links,⟨h0,by simp only;omega⟩⟩ rfl rfl rfl
       exact hs.settle (h.qW hx hk) (fun y hy=>by
        rw[bF,if_pos rfl,hx]at hy
        simp only[Option.map_some,Option.some.injEq]at hy
        rw[←hy]
        exact hk)
 ·simp only[if_neg he];exact h
def Wi (W:World) (P:Nat→Prop) (x:Nat):Prop:=W.heap.size≤x∧¬P x
structure lC (W:World) (P:Nat→Prop) (w:World) (p:Nat) (T:aI):Prop where
 at_:∃g D mb ib nb,aK g D w p mb ib nb T∧∀b,g b≠ .none∨D b→W.heap.size≤b∧¬P b
 ok:dR T
 below:Below W.heap.size W w
 low:∀x,P x→x<w.heap.size
theorem lC.grow {W w w':World} {P:Nat→Prop} {p:Nat} {T:aI} (h:lC W P w p T) (hb:Below w.heap.size w w'):lC W P w' p T:=by
 obtain⟨g,D,mb,ib,nb,hA,hF⟩:=h.at_
 exact⟨⟨g,D,mb,ib,nb,hA.below hb (Nat.le_refl _),hF⟩,h.ok,h.below.trans (hb.mono h.below.size),fun x hx=>Nat.lt_of_lt_of_le (h.low x hx) hb.size⟩
theorem lC.mono {W w:World} {P Q:Nat→Prop} {p:Nat} {T:aI} (h:lC W P w p T) (hq:∀x,Q x→P x):lC W Q w p T:=by
 obtain⟨g,D,mb,ib,nb,hA,hF⟩:=h.at_
 exact⟨⟨g,D,mb,ib,nb,hA,fun x hx=>⟨(hF x hx).1,fun h=>(hF x hx).2 (hq x h)⟩⟩,h.ok,h.below,fun x hx=>h.low x (hq x hx)⟩
def oF (W:World) (P:Nat→Prop) (w:World) (p:Nat) (T:aI) (v:Value) (e:Ending) (w':World):Prop:=
 e= .returned v∧lC W P w' p T∧Keeps (Wi W P) w w'
section
variable {W w:World} {P:Nat→Prop} {p:Nat} {T:aI}
end
end Go.Proofs.YtohpcppeajijnaaGreat
