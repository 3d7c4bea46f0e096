/- DERIVED: THE SHELF's CONTRACTS AT THIS DUMP, IN PLAIN WORDS (tools/lay-plain.mjs out of 'YtohpcppeajijnaaGreatLaypGrowLay.lean', which tools/lay-shelf.mjs wrote): THE SAME DECLARATIONS UNDER THE SAME NAMES: 'import', 'namespace', 'open', 'def', 'theorem' AND NOTHING ELSE: no command of the shelf's: FOR A HAND-IN. Each laying: the table of numbers ('.._ren') and one theorem, a field a fact of the dump's own or the kernel's comparison; each contract: ONE APPLICATION. slices.Concat of rows of bytes. slices.Clone of bytes. tree: Seal, Keep, Part, Read, Append. tree: Part, Read, Append. tree: Read, Append. -/
import Derived.Test.YtohpcppeajijnaaGreatProg
import Derived.Shelf.Spec.SlicesGrow
import Derived.Test.YtohpcppeajijnaaGreatM11
import Derived.Test.YtohpcppeajijnaaGreatM02
import Derived.Lib.SliceRun
import Derived.Test.YtohpcppeajijnaaGreatM10
namespace Go.Proofs
open Go.Shelf
def Tryz.tZ:Go.Shelf.Ren:=⟨fun|4=>130|n=>n,fun|22=>39|25=>5|3=>3|4=>4|9=>9|20=>20|0=>0|n=>n,fun|n=>n⟩
theorem Tryz.Mi:Go.Proofs.Lays8.n4 Tryz.prog Tryz.tZ:={
 mixed:=by kernel_rfl
 f4:=⟨Tryz.f130.name,by decide,Tryz.func130.trans (congrArg some (by kernel_rfl))⟩
 t0:=Tryz.underlying0
 a0:=Tryz.isAgg0
 z0:=Tryz.sizeOf0
 v0:=Tryz.zeroValue0
 t3:=Tryz.underlying3
 a3:=Tryz.isAgg3
 z3:=Tryz.sizeOf3
 v3:=Tryz.zeroValue3
 t4:=Tryz.underlying4
 a4:=Tryz.isAgg4
 z4:=Tryz.sizeOf4
 v4:=Tryz.zeroValue4
 t9:=Tryz.underlying9
 a9:=Tryz.isAgg9
 z9:=Tryz.sizeOf9
 v9:=Tryz.zeroValue9
 t20:=Tryz.underlying20
 a20:=Tryz.isAgg20
 z20:=Tryz.sizeOf20
 v20:=Tryz.zeroValue20
 t22:=Tryz.underlying39
 a22:=Tryz.isAgg39
 z22:=Tryz.sizeOf39
 v22:=Tryz.zeroValue39}
end Go.Proofs
namespace Go.Proofs.YtohpcppeajijnaaGreat
open Go.ChangeShapes Go.WideShapes Go.ChangeAt Go.RowKit
set_option linter.unusedVariables false
set_option linter.unusedSimpArgs false
theorem Hw (n:Nat) (w:World) (hn:n≤1000000000):
  Calls Tryz.prog 130 #[.slice none 0 0, .int .i64 n] w fun e w'=>∃v,e= .returned v∧w'.ownsRow w.heap.size 5 1 v 0 []∧Below w.heap.size w w':=by
 obtain⟨i0,hi,hz0,hz1,hz2⟩:=info_parts Tryz.Ec
 by_cases h0:n=0
 ·subst h0
  refine(Any8.slices_Grow_room Tryz.Mi none 0 0 0 w (by omega) (by omega) (by omega) (by omega)).mono ?_
  rintro e w' ⟨rfl,rfl⟩
  exact⟨_,rfl,⟨rfl, .inl ⟨rfl,rfl⟩⟩,Below.refl _ _⟩
 ·refine(Any8.slices_Grow_grow Tryz.Mi i0 (.int .u8 0) hi hz0 (by rw[hz1];omega) none 0 0 n [] w (by omega) (by omega) (by rw[hz2];omega) (by omega) (by simp) (fun _=>rfl) (fun a h=>by cases h)).mono ?_
  rintro e w' ⟨rfl,rfl⟩
  have h1:=grownCap_ge w (0+n) 0 (Tryz.tZ.t 25)
  have h2:=grownCap_le_maxLen w (0+n) 0 (Tryz.tZ.t 25) (by unfold maxLen;omega)
  refine⟨_,rfl,⟨rfl, .inr ⟨w.heap.size,_,_,rfl,Nat.le_refl _,(MapKept.heap_alloc w.drew _).1,Nat.zero_le _,h2,?_,rfl⟩⟩,((Below.refl _ _).drew).alloc (Nat.le_refl _) _⟩
  have e1:(Value.cells (.int .u8 0)).size=1:=rfl
  simp only[Array.size_append,size_zeroCells,List.size_toArray,List.length_nil,e1]
  omega
theorem yL {w:World} {base:Nat} {e:TypeId} {size:Nat} {v:Value} {n:Nat} {xs:List Value} (h:w.ownsRow base e size v n xs):∃a c,v= .slice a n c∧n≤c∧c≤maxLen:=by
 rcases h.2 with⟨rfl,rfl⟩|⟨g,cap,cur,rfl,_,_,h,h',_⟩
 ·exact⟨_,_,rfl,Nat.le_refl _,Nat.zero_le _⟩
 ·exact⟨_,_,rfl,h,h'⟩
theorem yM (jT:List (List UInt8)) (k:Nat) (bs:List UInt8) (h:jT[k]? =some bs):(jT.take (k+1)).flatten=(jT.take k).flatten++bs:=by
 obtain⟨hk,e⟩:=List.getElem?_eq_some_iff.1 h
 rw[List.take_succ_eq_append_getElem hk,List.flatten_append,e]
 simp
theorem J_ (jT:List (List UInt8)) (k:Nat):(jT.take k).flatten.length≤jT.flatten.length:=by
 conv=>rhs;rw[←List.take_append_drop k jT,List.flatten_append]
 simp
def nZ (jT:List (List UInt8)) (k:Nat):List UInt8:=(jT.take k).flatten
def mK (jT:List (List UInt8)) (k:Nat):Nat:=(nZ jT k).length
set_option maxRecDepth 100000 in
set_option maxHeartbeats 4000000 in
theorem CZ {S:Nat→Prop} (B n:Nat) (jT:List (List UInt8)) (w:World) (hn:n=jT.length) (hn2:n≤1000) (hB:B<w.heap.size) (htot:jT.flatten.length≤1000000000)
  (hc:∀k,k<n→∃a l c bs,w.cell? ⟨B,k,none⟩=some (.slice a l c)∧av S w a l (bs.map bv)∧jT[k]? =some bs):
  Calls Tryz.prog 77 #[.slice (some ⟨B,0,none⟩) n n] w fun e w'=>∃a c,e= .returned (.slice a jT.flatten.length c)∧(jT.flatten.length≤c∧c≤maxLen)∧av (fun x=>w.heap.size≤x∧x<w'.heap.size) w' a jT.flatten.length (jT.flatten.map bv)∧Below w.heap.size w w':=by
 obtain⟨i0,hi,hz0,hz1,hz2⟩:=info_parts Tryz.Ec
 have HN:=Lib.hid hn
 have HC:=Lib.hid hc
 have hle:∀k,mK jT k≤jT.flatten.length:=fun k=>J_ jT k
 obtain⟨N,hN⟩:∃N,N=jT.flatten.length:=⟨_,rfl⟩
 obtain⟨fl,M9⟩:∃fl,fl=jT.flatten:=⟨_,rfl⟩
 rw[←hN]at htot hle⊢
 rw[←M9]
 have qL:=Lib.hid hN
 have WA:=Lib.hid M9
 clear hN M9
 have zU:=Lib.hid hle
 have hG:=Hw N w htot
 have HG:=Lib.hid hG
 clear hn hc hle hG
 go_enter Tryz.func77,Tryz.ntmps77
 go_wp2
 go_loop [3,11] (fun s i=>∃k:Nat,k≤n∧i= .int .i64 k∧s= .int .i64 (mK jT k)) (fun _ i=>n-(intOf i).toNat)
 case atStart=>exact⟨0,by omega,rfl,rfl⟩
 case round=>
  obtain⟨k,hk,rfl,rfl⟩:=hrel
  have hlk:=zU.out k
  by_cases hlt:k<n
  ·obtain⟨a,l,c,bs,hcell,hS,hp⟩:=HC.out k hlt
   have hll:l=bs.length:=by have:=hS.length;simpa using this.symm
   subst hll
   have vX:Hid (mK jT (k+1)=mK jT k+bs.length):=by unfold mK nZ;rw[yM jT k bs hp,List.length_append];exact rfl
   have hlk2:mK jT k+bs.length≤1000000000:=by have:=vX.out;have:=zU.out (k+1);omega
   clear hp hS
   go_wp2
   go_round
   case rel=>exact⟨k+1,by omega,by go_num,by rw[vX.out];go_num⟩
   case measure=>simp[intOf];omega
  ·obtain rfl:n=k:=by omega
   have HT:Hid (nZ jT n=fl∧mK jT n=N):=by
    have:jT.take n=jT:=List.take_of_length_le (by have:=HN.out;omega)
    unfold mK nZ
    rw[this];exact⟨WA.out.symm,qL.out.symm⟩
   rw[HT.out.2]
   go_wp2_with fail
   (with_reducible refine HG.out.mono ?_)
   rintro e w1 ⟨v,rfl,hown,hb1⟩
   have HB1:=Lib.hid hb1
   have hown0:w1.ownsRow w.heap.size 5 1 v (mK jT 0) ((nZ jT 0).map bv):=hown
   have HO:=Lib.hid hown0
   clear hb1 hown hown0 HG
   go_wp2_with fail
   go_loopw [6,27] (fun v i wr=>∃k:Nat,k≤n∧i= .int .i64 k∧wr.ownsRow w.heap.size 5 1 v (mK jT k) ((nZ jT k).map bv)∧Below w.heap.size w wr) (fun _ i _=>n-(intOf i).toNat)
   case atStart=>exact⟨0,by omega,rfl,HO.out,HB1.out⟩
   case round=>
    obtain⟨k,hk,rfl,hown,hb⟩:=hrel
    have hbs:=hb.size
    by_cases hlt:k<n
    ·obtain⟨a,l,c,bs,hcell0,hS,hp⟩:=HC.out k hlt
     have hcell:=(hb.cell (p:=⟨B,k,none⟩) hB).trans hcell0
     have vX:Hid (nZ jT (k+1)=nZ jT k++bs∧mK jT (k+1)=mK jT k+bs.length):=by unfold mK nZ;rw[yM jT k bs hp,List.length_append];exact⟨rfl,rfl⟩
     have hll:l=bs.length:=by have:=hS.length;simpa using this.symm
     subst hll
     have hlk2:mK jT k+bs.length≤1000000000:=by have:=vX.out.2;have:=zU.out (k+1);omega
     have HS:=Lib.hid (hS.below hb (Nat.le_refl _))
     have HOW:=Lib.hid hown
     have HB:=Lib.hid hb
     clear hp hS hown hb hcell0 hlk
     go_wp2_with (at_builtin;refine gL (by rfl) _ _ 39 (by rfl) w.heap.size 5 i0 (.int .u8 0) 1 Tryz.underlying39 hi hz0 hz1 hz2 rfl _ _ _ (by rfl) HOW.out a bs.length c (bs.map bv) (by rfl) HS.out (lN bs) (by unfold maxLen;omega) (by omega) hbs ?_;intro A' c' w2 hown2 hgrow2 _ _)
     have WB:=Lib.hid hown2
     have HG2:=Lib.hid hgrow2
     clear hown2 hgrow2
     go_roundw
     case rel=>
      refine⟨k+1,by omega,by go_num,?_,HB.out.grown HG2.out hbs (iA HOW.out)⟩
      rw[vX.out.1,vX.out.2,List.map_append]
      exact WB.out
     case measure=>simp[intOf];omega
    ·obtain rfl:n=k:=by omega
     rw[HT.out.1,HT.out.2]at hown
     obtain⟨a,c,rfl,hac⟩:=yL hown
     have HOW:=Lib.hid hown
     have HB:=Lib.hid hb
     clear hown hb
     go_wp2
     go_ret
     exact⟨a,c,rfl,hac,(av.tY HOW.out).2,HB.out⟩
section
variable {g:Nat→Own} {D:Nat→Prop} {p mb:Nat} {ib nb:Int→Nat} {T:aF}
theorem Turn.of {w w':World} {Mg nb':Int→Nat} {T':aF} {v:Value} {e:Ending} (he:e= .returned v) (h:aJ g D w' p mb Mg nb' T') (hK:Keeps (fun b=>g b≠ .none) w w'):Turn g D w p mb T' v e w':=
 ⟨he,g,D,Mg,nb',h,fun b h=> .inl h,fun b h=> .inl h,hK⟩
theorem l9 {id:Int} (h:bL T id=0):∃x,aj id T=some x∧x.kind≠2:=by
 unfold bL at h
 cases hx:aj id T with
 |none=>rw[hx]at h;cases h
 |some x=>
  rw[hx]at h
  by_cases hk:x.kind=2
  ·simp only[if_pos hk]at h;cases h
  ·exact⟨x,rfl,hk⟩
theorem Fj {id aK:Int} (h:bL T id≠0):oI T id aK=bL T id:=by
 unfold bL at h⊢
 unfold oI
 cases hx:aj id T with
 |none=>rfl
 |some x=>
  rw[hx]at h
  by_cases hk:x.kind=2
  ·simp only[if_pos hk]
  ·simp only[if_neg hk]at h;exact absurd rfl h
theorem Fp {id aK:Int} (h:bL T id≠0):oJ T id aK=bL T id:=by
 unfold bL at h⊢
 unfold oJ
 cases hx:aj id T with
 |none=>rfl
 |some x=>
  rw[hx]at h
  by_cases hk:x.kind=2
  ·simp only[if_pos hk]
  ·simp only[if_neg hk]at h;exact absurd rfl h
theorem A_ {id:Int} {b:List UInt8} (h:bL T id≠0):jo T id b=bL T id:=by
 unfold bL at h⊢
 unfold jo
 cases hx:aj id T with
 |none=>rfl
 |some x=>
  rw[hx]at h
  by_cases hk:x.kind=2
  ·simp only[if_pos hk]
  ·simp only[if_neg hk]at h;exact absurd rfl h
theorem Fq {id:Int} (h:bL T id≠0):kS T id=bL T id:=by
 unfold bL at h⊢
 unfold kS
 cases hx:aj id T with
 |none=>rfl
 |some x=>
  rw[hx]at h
  by_cases hk:x.kind=2
  ·simp only[if_pos hk]
  ·simp only[if_neg hk]at h;exact absurd rfl h
theorem Fu {id at_ n:Int} (h:bL T id≠0):lY T id at_ n=bL T id∧lZ T id at_ n=[]:=by
 unfold bL at h⊢
 unfold lY lZ
 cases hx:aj id T with
 |none=>exact⟨rfl,rfl⟩
 |some x=>
  rw[hx]at h
  by_cases hk:x.kind=2
  ·simp only[if_pos hk,and_self]
  ·simp only[if_neg hk]at h;exact absurd rfl h
set_option maxHeartbeats 4000000 in
theorem Eo (id aK:Int) (w:World) (h:aJ g D w p mb ib nb T) (hid:(Lit.int .i64 id).wf=true) (ht0:0≤aK) (ht1:aK≤18446744073709551615):
  Calls Tryz.prog 23 #[ptr p, .int .i64 id, .int .u64 aK] w (Turn g D w p mb (dR T id aK).2 (.int .i64 (dR T id aK).1)):=by
 have HH:=Lib.hid h
 by_cases hf:bL T id=0
 ·obtain⟨x,hx,hk⟩:=l9 hf
  have HF:=Lib.hid (qp id hx hk w h hid)
  obtain⟨c0,c1,c2,c3,c4,c5,c7,hiw⟩:=(h.item id x hx).cell
  have HX:=Lib.hid hx
  have hE:oI T id aK=if x.closed then 27 else if 1099511627776<aK then 1 else 0:=by unfold oI;rw[hx];simp only[if_neg hk]
  have HE:=Lib.hid hE
  cases hcl:x.closed with
  |true=>
   have HM:Hid (dR T id aK=(27,T)):=by
    unfold dR
    rw[HE.out,hcl];simp only[if_pos];exact rfl
   rw[hcl]at c5
   clear hE hcl hx hk hf h c7
   go_enter Tryz.func23,Tryz.ntmps23
   go_wp2_with fail
   (with_reducible refine HF.out.mono ?_)
   rintro e w1 ⟨rfl,rfl⟩
   go_wp2_with fail
   go_ret
   rw[HM.out]
   exact Turn.same HH.out (Below.refl _ _) rfl
  |false=>
   rw[hcl]at c5
   by_cases htl:1099511627776<aK
   ·have HM:Hid (dR T id aK=(1,T)):=by
     unfold dR
     rw[HE.out,hcl];simp only[Bool.false_eq_true,if_false,if_pos htl];exact rfl
    clear hE hcl hx hk hf h c7
    go_enter Tryz.func23,Tryz.ntmps23
    go_wp2_with fail
    (with_reducible refine HF.out.mono ?_)
    rintro e w1 ⟨rfl,rfl⟩
    go_wp2_with fail
    go_ret
    rw[HM.out]
    exact Turn.same HH.out (Below.refl _ _) rfl
   ·have HM:Hid (dR T id aK=(0,eP (aX id (fun x=>{x with closed:=true,aK:=aK}) T) id)):=by
     unfold dR
     rw[HE.out,hcl];simp only[Bool.false_eq_true,if_false,if_neg htl];exact rfl
    have R4:=(h.item id x hx).frozen 4
    have WC:=(h.item id x hx).frozen 5
    have hA1:aJ g D ((w.setCell ⟨ib id,5,none⟩ (.bool true)).setCell ⟨ib id,4,none⟩ (.int .u64 aK)) p mb ib nb (aX id (fun x=>{x with closed:=true,aK:=aK}) T):=by
     refine h.fields hx (fun x=>{x with closed:=true,aK:=aK}) rfl rfl rfl (Keeps.set2 w _ _ _ _ _) (by rw[size_set,size_set]) fun a c hc=> ?_
     rw[bY (bY hc)]
     rfl
    have hx1:aj id (aX id (fun x=>{x with closed:=true,aK:=aK}) T)=some {x with closed:=true,aK:=aK}:=by rw[aQ,if_pos rfl,hx];rfl
    have HS:=Lib.hid (vY id hx1 hid _ hA1)
    have hgi:=h.l5 id x hx
    have hgm:=h.iU
    have Ro:Hid (∀b,(b=ib id∨b=mb)→g b≠ .none):=fun b hb=>by
     rcases hb with rfl|rfl
     ·rw[hgi];simp
     ·rw[hgm];simp
    clear hE hcl hx hk hf h c7 hA1 hx1 hgi hgm
    go_enter Tryz.func23,Tryz.ntmps23
    go_wp2_with fail
    (with_reducible refine HF.out.mono ?_)
    rintro e w1 ⟨rfl,rfl⟩
    go_wp2_with fail
    (with_reducible refine HS.out.mono ?_)
    rintro e w1 ⟨rfl,hA2,hK2,hs2⟩
    have HA2:=Lib.hid hA2
    have Cz:=Lib.hid hK2
    clear hA2 hK2
    go_wp2_with fail
    go_ret
    rw[HM.out]
    exact Turn.of rfl HA2.out (((Keeps.set2 w (ib id) 5 4 _ _).mono fun b _ hb=>Ro.out b (.inl hb)).trans (Cz.out.mono fun b _ hb=>Ro.out b (.inr hb)) (fun _ _ h=>h))
 ·have hne:(bL T id==0)=false:=by simpa using hf
  have HF:=Lib.hid (pO id _ rfl hf w h hid)
  have HM:Hid (dR T id aK=(bL T id,T)):=by
   unfold dR
   rw[Fj hf,if_neg hf];exact rfl
  obtain⟨k,hk⟩:∃k,k=bL T id:=⟨_,rfl⟩
  rw[←hk]at HF hne HM
  clear hf h hk
  go_enter Tryz.func23,Tryz.ntmps23
  go_wp2_with fail
  (with_reducible refine HF.out.mono ?_)
  rintro e w1 ⟨rfl,rfl⟩
  go_wp2_with fail
  go_ret
  rw[HM.out]
  exact Turn.same HH.out (Below.refl _ _) rfl
set_option maxHeartbeats 4000000 in
theorem Ep (id aK:Int) (w:World) (h:aJ g D w p mb ib nb T) (hid:(Lit.int .i64 id).wf=true) (ht0:0≤aK) (ht1:aK≤18446744073709551615) (hok:∀x,aj id T=some x→0≤x.aK∧x.aK≤1099511627776):
  Calls Tryz.prog 25 #[ptr p, .int .i64 id, .int .u64 aK] w (Turn g D w p mb (dL T id aK).2 (.int .i64 (dL T id aK).1)):=by
 have HH:=Lib.hid h
 by_cases hf:bL T id=0
 ·obtain⟨x,hx,hk⟩:=l9 hf
  have HF:=Lib.hid (qp id hx hk w h hid)
  obtain⟨c0,c1,c2,c3,c4,c5,c7,hiw⟩:=(h.item id x hx).cell
  obtain⟨hx0,hx1⟩:=hok x hx
  have hE:oJ T id aK=if x.closed=false then 25 else if aK<x.aK then 28 else if 1099511627776<aK then 1 else 0:=by unfold oJ;rw[hx];simp only[if_neg hk]
  have HE:=Lib.hid hE
  cases hcl:x.closed with
  |false=>
   have HM:Hid (dL T id aK=(25,T)):=by
    unfold dL
    rw[HE.out,hcl];simp only[if_pos];exact rfl
   rw[hcl]at c5
   clear hE hcl hx hk hf h c7 hok
   go_enter Tryz.func25,Tryz.ntmps25
   go_wp2_with fail
   (with_reducible refine HF.out.mono ?_)
   rintro e w1 ⟨rfl,rfl⟩
   go_wp2_with fail
   go_ret
   rw[HM.out]
   exact Turn.same HH.out (Below.refl _ _) rfl
  |true=>
   rw[hcl]at c5
   by_cases hlt:aK<x.aK
   ·have HM:Hid (dL T id aK=(28,T)):=by
     unfold dL
     rw[HE.out,hcl];simp only[Bool.true_eq_false,if_false,if_pos hlt];exact rfl
    clear hE hcl hx hk hf h c7 hok
    go_enter Tryz.func25,Tryz.ntmps25
    go_wp2_with fail
    (with_reducible refine HF.out.mono ?_)
    rintro e w1 ⟨rfl,rfl⟩
    go_wp2_with fail
    go_ret
    rw[HM.out]
    exact Turn.same HH.out (Below.refl _ _) rfl
   ·by_cases htl:1099511627776<aK
    ·have HM:Hid (dL T id aK=(1,T)):=by
      unfold dL
      rw[HE.out,hcl];simp only[Bool.true_eq_false,if_false,if_neg hlt,if_pos htl];exact rfl
     clear hE hcl hx hk hf h c7 hok
     go_enter Tryz.func25,Tryz.ntmps25
     go_wp2_with fail
     (with_reducible refine HF.out.mono ?_)
     rintro e w1 ⟨rfl,rfl⟩
     go_wp2_with fail
     go_ret
     rw[HM.out]
     exact Turn.same HH.out (Below.refl _ _) rfl
    ·have HM:Hid (dL T id aK=(0,aX id (fun x=>{x with aK:=aK}) T)):=by
      unfold dL
      rw[HE.out,hcl];simp only[Bool.true_eq_false,if_false,if_neg hlt,if_neg htl];exact rfl
     have R4:=(h.item id x hx).frozen 4
     have hA1:aJ g D (w.setCell ⟨ib id,4,none⟩ (.int .u64 aK)) p mb ib nb (aX id (fun x=>{x with aK:=aK}) T):=by
      refine h.fields hx (fun x=>{x with aK:=aK}) rfl rfl rfl (Keeps.iC w ⟨ib id,4,none⟩ _) (by rw[size_set]) fun a c hc=> ?_
      rw[bY hc]
      rfl
     have HA1:=Lib.hid hA1
     have Ro:Hid (g (ib id)≠ .none):=by rw[h.l5 id x hx];exact fun e=>by cases e
     clear hE hcl hx hk hf h c7 hA1 hok
     go_enter Tryz.func25,Tryz.ntmps25
     go_wp2_with fail
     (with_reducible refine HF.out.mono ?_)
     rintro e w1 ⟨rfl,rfl⟩
     go_wp2_with fail
     go_ret
     rw[HM.out]
     exact Turn.of rfl HA1.out ((Keeps.iC w ⟨ib id,4,none⟩ _).mono fun b _ hb=>by rw[show b=ib id from hb];exact Ro.out)
 ·have hne:(bL T id==0)=false:=by simpa using hf
  have HF:=Lib.hid (pO id _ rfl hf w h hid)
  have HM:Hid (dL T id aK=(bL T id,T)):=by
   unfold dL
   rw[Fp hf,if_neg hf];exact rfl
  obtain⟨k,hk⟩:∃k,k=bL T id:=⟨_,rfl⟩
  rw[←hk]at HF hne HM
  clear hf h hk hok
  go_enter Tryz.func25,Tryz.ntmps25
  go_wp2_with fail
  (with_reducible refine HF.out.mono ?_)
  rintro e w1 ⟨rfl,rfl⟩
  go_wp2_with fail
  go_ret
  rw[HM.out]
  exact Turn.same HH.out (Below.refl _ _) rfl
end
def zV (w:World) (bs:List UInt8) (e:Ending) (w':World):Prop:=
 ∃a n c,e= .returned (.slice a n c)∧n≤c∧av (fun x=>w.heap.size≤x∧x<w'.heap.size) w' a n (bs.map bv)∧Below w.heap.size w w'
set_option maxHeartbeats 1000000 in
theorem n_ {S:Nat→Prop} (a:Option Addr) (n cap:Nat) (bs:List UInt8) (w:World) (hm:n≤1000000000) (hr:av S w a n (bs.map bv)):
  Calls Tryz.prog 105 #[.slice a n cap] w (zV w bs):=by
 obtain⟨i0,hi,hz0,hz1,hz2⟩:=info_parts Tryz.Ec
 have hll:bs.length=n:=by have:=hr.length;simpa using this
 have heq:=fun w=>Lib.run_eql_slice_nil (P:=Tryz.prog) w 39 5 a n cap 0 0 Tryz.underlying39
 have HR:=Lib.hid hr
 have HL:=Lib.hid hll
 clear hr hll
 cases a with
 |none=>
  have h0:n=0:=by
   rcases Nat.eq_zero_or_pos n with h0|h0
   ·exact h0
   ·obtain⟨_,_,e,_⟩:=HR.out.at_ h0
    cases e
  subst h0
  have hb0:bs=[]:=List.eq_nil_of_length_eq_zero HL.out
  subst hb0
  go_enter Tryz.func105,Tryz.ntmps105
  go_wp2
  go_ret
  exact⟨none,0,_,rfl,Nat.zero_le _,av.nil _ _ _,Below.refl _ _⟩
 |some ad=>
  have hsz:(w.alloc (.cells #[] 5)).heap.size=w.heap.size+1:=by simp
  have HS:=Lib.hid (HR.out.below (wall w (.cells #[] 5)) (Nat.le_refl _))
  go_enter Tryz.func105,Tryz.ntmps105
  go_wp2_with ((at_builtin;refine gL (by rfl) _ _ 39 (by rfl) w.heap.size 5 i0 (.int .u8 0) 1 Tryz.underlying39 hi hz0 hz1 hz2 rfl _ 0 [] (by rfl) ⟨rfl, .inr ⟨w.heap.size,0,#[],rfl,Nat.le_refl _,(MapKept.heap_alloc w _).1,Nat.le_refl _,Nat.zero_le _,rfl,rfl⟩⟩ (some ad) n cap (bs.map bv) (by rfl) HS.out (lN bs) (by unfold maxLen;omega) (by omega) (by simp) ?_;intro A' c' w2 hown2 hgrow2 _ _))
  go_ret
  have hB2:Below w.heap.size w w2:=(wall w _).grown hgrow2 (by simp) (fun k hk=>by cases hk;exact Nat.le_refl _)
  obtain⟨a3,c3,e3,hac⟩:=kJ hown2
  cases e3
  refine⟨_,n,_,rfl,by omega,?_,hB2⟩
  have hro:=(av.tY hown2).2
  rw[List.nil_append]at hro
  simpa only[Nat.zero_add]using hro
theorem Ba {S:Nat→Prop} {a:Option Addr} {l k n:Nat} {bs:List UInt8} {w:World} (A N:Nat) (hr:av S w a l (bs.map bv)) (hk:k=min A l) (hn:n=min N (l-A)):av S w (a.map fun x=>x.add k) n (((bs.drop A).take N).map bv):=by
 have hl:bs.length=l:=by have:=hr.length;simpa using this
 have hs:=hr.small
 subst hn
 refine⟨by simp[hl],by omega,fun h0=> ?_⟩
 obtain⟨b,off,rfl,hS,hb,hc⟩:=hr.at_ (by omega)
 have hA:k=A:=by omega
 refine⟨b,off+A,by simp[hA,add_plain],hS,hb,fun i hi=> ?_⟩
 rw[Nat.add_assoc,hc (A+i) (by omega),List.getElem?_map,List.getElem?_map,List.getElem?_take,if_pos (by omega),List.getElem?_drop]
theorem Fv {S:Nat→Prop} {ad:Addr} {l k n:Nat} {bs:List UInt8} {w:World} (A N:Nat) (hr:av S w (some ad) l (bs.map bv)) (hk:k=min A l) (hn:n=min N (l-A)):av S w (some (ad.add k)) n (((bs.drop A).take N).map bv):=Ba (a:=some ad) A N hr hk hn
theorem Fw {S:Nat→Prop} {l n:Nat} {bs:List UInt8} {w:World} (A N:Nat) (hr:av S w none l (bs.map bv)) (hn:n=min N (l-A)):av S w none n (((bs.drop A).take N).map bv):=Ba (a:=none) A N hr rfl hn
theorem Fx {S:Nat→Prop} (a:Option Addr) {l n:Nat} {bs:List UInt8} {w:World} (A N:Nat) (hl:bs.length=l) (h:l≤A) (hn:n=min N (l-A)):av S w a n (((bs.drop A).take N).map bv):=by
 refine av.zero a _ _ (by omega) ?_
 rw[List.drop_of_length_le (by omega),List.take_nil]
 rfl
def qw (w:World) (bs:List UInt8) (k:Int) (e:Ending) (w':World):Prop:=
 ∃a n c,e= .returned (.tuple #[.slice a n c, .int .i64 k])∧n≤c∧av (fun x=>w.heap.size≤x∧x<w'.heap.size) w' a n (bs.map bv)∧Below w.heap.size w w'
set_option maxHeartbeats 1000000 in
theorem Ka {S:Nat→Prop} (a:Option Addr) (l c:Nat) (bs:List UInt8) (A N:Nat) (w:World) (hl:l≤1000000000) (hlc:l≤c) (hc:c≤maxLen) (hA:A≤9223372036854775807) (hN:N≤9223372036854775807) (hr:av S w a l (bs.map bv)):
  Calls Tryz.prog 79 #[.slice a l c, .int .i64 A, .int .i64 N] w (qw w ((bs.drop A).take N) 0):=by
 unfold maxLen at hc
 have z1:(0:Int)≤(A:Int):=by omega
 have z2:(0:Int)≤(N:Int):=by omega
 have z3:decide ((A:Int)<0)=false:=by simp
 have z4:decide ((N:Int)<0)=false:=by simp
 have HR:=Lib.hid hr
 have hL:bs.length=l:=by have:=hr.length;simpa using this
 have HL:=Lib.hid hL
 clear hr hL
 by_cases hcap:c=min A l
 ·subst hcap
  go_enter Tryz.func79,Tryz.ntmps79
  go_wp2_with fail
  (with_reducible refine(n_ (S:=S) _ _ _ ((bs.drop A).take N) _ (by omega) (Fx _ A N HL.out (by omega) (by omega))).mono ?_)
  rintro e w1 ⟨a1,n1,c1,rfl,hn1,hr1,hb1⟩
  have HR1:=Lib.hid hr1
  have HB1:=Lib.hid hb1
  clear hr1 hb1
  go_wp2_with fail
  go_ret2
  exact⟨a1,n1,c1,rfl,hn1,HR1.out,HB1.out⟩
 ·cases a with
  |none=>
   go_enter Tryz.func79,Tryz.ntmps79
   go_wp2_with fail
   (with_reducible refine(n_ (S:=S) _ _ _ ((bs.drop A).take N) _ (by omega) (Fw A N HR.out (by omega))).mono ?_)
   rintro e w1 ⟨a1,n1,c1,rfl,hn1,hr1,hb1⟩
   have HR1:=Lib.hid hr1
   have HB1:=Lib.hid hb1
   clear hr1 hb1
   go_wp2_with fail
   go_ret2
   exact⟨a1,n1,c1,rfl,hn1,HR1.out,HB1.out⟩
  |some ad=>
   go_enter Tryz.func79,Tryz.ntmps79
   go_wp2_with fail
   (with_reducible refine(n_ (S:=S) _ _ _ ((bs.drop A).take N) _ (by omega) (Fv A N HR.out (by omega) (by omega))).mono ?_)
   rintro e w1 ⟨a1,n1,c1,rfl,hn1,hr1,hb1⟩
   have HR1:=Lib.hid hr1
   have HB1:=Lib.hid hb1
   clear hr1 hb1
   go_wp2_with fail
   go_ret2
   exact⟨a1,n1,c1,rfl,hn1,HR1.out,HB1.out⟩
set_option maxHeartbeats 1000000 in
theorem Hy (a:Option Addr) (l c:Nat) (at_ n:Int) (w:World) (h:at_<0∨n<0):
  Calls Tryz.prog 79 #[.slice a l c, .int .i64 at_, .int .i64 n] w (qw w [] 1):=by
 by_cases h1:at_<0
 ·go_enter Tryz.func79,Tryz.ntmps79
  go_wp2
  go_ret2
  exact⟨none,0,0,rfl,Nat.le_refl _,av.nil _ _ _,Below.refl _ _⟩
 ·have h2:n<0:=by omega
  have e1:decide (at_<0)=false:=by simpa using h1
  clear h
  go_enter Tryz.func79,Tryz.ntmps79
  go_wp2
  go_ret2
  exact⟨none,0,0,rfl,Nat.le_refl _,av.nil _ _ _,Below.refl _ _⟩
theorem Hz {S:Nat→Prop} (a:Option Addr) (l c:Nat) (bs:List UInt8) (at_ n:Int) (w:World) (hl:l≤1000000000) (hlc:kH l c) (hA:(Lit.int .i64 at_).wf=true) (hN:(Lit.int .i64 n).wf=true) (hr:av S w a l (bs.map bv)):
  Calls Tryz.prog 79 #[.slice a l c, .int .i64 at_, .int .i64 n] w (qw w (vR bs at_ n) (vQ at_ n)):=by
 simp only[Lit.wf,IntKind.min,IntKind.max,IntKind.signed,IntKind.bits,Bool.and_eq_true,decide_eq_true_eq]at hA hN
 by_cases h:at_<0∨n<0
 ·unfold vR vQ
  rw[if_pos h,if_pos h]
  exact Hy a l c at_ n w h
 ·unfold vR vQ
  rw[if_neg h,if_neg h]
  have:=Ka (S:=S) a l c bs at_.toNat n.toNat w hl hlc.1 hlc.2 (by simp at hA;omega) (by simp at hN;omega) hr
  rw[show((at_.toNat:Nat):Int)=at_ by omega,show((n.toNat:Nat):Int)=n by omega]at this
  exact this
section
variable {g:Nat→Own} {D:Nat→Prop} {p mb:Nat} {ib nb:Int→Nat} {T:aF}
set_option maxHeartbeats 2000000 in
theorem Bb (id at_ n:Int) (w:World) (h:aJ g D w p mb ib nb T) (hok:∀x,aj id T=some x→x.b.length≤4096) (hid:(Lit.int .i64 id).wf=true) (hA:(Lit.int .i64 at_).wf=true) (hN:(Lit.int .i64 n).wf=true):
  Calls Tryz.prog 27 #[ptr p, .int .i64 id, .int .i64 at_, .int .i64 n] w (qw w (lZ T id at_ n) (lY T id at_ n)):=by
 by_cases hf:bL T id=0
 ·obtain⟨x,hx,hk⟩:=l9 hf
  have HF:=Lib.hid (qp id hx hk w h hid)
  obtain⟨a,c,c6,hcap,hr,_⟩:=(h.item id x hx).row
  have HP:=Lib.hid (Hz (S:=D) a x.b.length c x.b at_ n w (by have:=hok x hx;omega) hcap hA hN hr)
  have e:lZ T id at_ n=vR x.b at_ n∧lY T id at_ n=vQ at_ n:=by
   unfold lZ lY
   rw[hx]
   simp only[if_neg hk,and_self]
  rw[e.1,e.2]
  clear h hx hok hA hN hid hf hk e hr hcap
  go_enter Tryz.func27,Tryz.ntmps27
  go_wp2_with fail
  (with_reducible refine HF.out.mono ?_)
  rintro e w1 ⟨rfl,rfl⟩
  go_wp2_with fail
  (with_reducible refine HP.out.mono ?_)
  rintro e w1 ⟨a1,n1,c1,rfl,hn1,hr1,hb1⟩
  have HR1:=Lib.hid hr1
  have HB1:=Lib.hid hb1
  clear hr1 hb1
  go_wp2_with fail
  go_ret2
  exact⟨a1,n1,c1,rfl,hn1,HR1.out,HB1.out⟩
 ·have hne:(bL T id==0)=false:=by simpa using hf
  have HF:=Lib.hid (pO id _ rfl hf w h hid)
  obtain⟨e1,e2⟩:=Fu (at_:=at_) (n:=n) hf
  rw[e1,e2]
  obtain⟨k,hk⟩:∃k,k=bL T id:=⟨_,rfl⟩
  rw[←hk]at HF hne⊢
  clear hf h hk hok e1 e2 hA hN hid
  go_enter Tryz.func27,Tryz.ntmps27
  go_wp2_with fail
  (with_reducible refine HF.out.mono ?_)
  rintro e w1 ⟨rfl,rfl⟩
  go_wp2_with fail
  go_ret2
  exact⟨none,0,0,rfl,Nat.le_refl _,av.nil _ _ _,Below.refl _ _⟩
theorem C8 {S S':Nat→Prop} (a:Option Addr) (l c:Nat) (x:List UInt8) (a':Option Addr) (l' c':Nat) (y:List UInt8) (w:World) (hx:av S w a l (x.map bv)) (hy:av S' w a' l' (y.map bv)) (ht:l+l'≤1000000000):
  Calls Tryz.prog 77 #[.slice (some ⟨w.heap.size,0,none⟩) 2 2] (w.alloc (.cells #[.slice a l c, .slice a' l' c'] 39)) fun e w'=>∃a2 c2,e= .returned (.slice a2 (l+l') c2)∧kH (l+l') c2∧av (fun b=>w.heap.size≤b∧b<w'.heap.size) w' a2 (l+l') ((x++y).map bv)∧Below w.heap.size w w':=by
 have e1:x.length=l:=by have:=hx.length;simpa using this
 have e2:y.length=l':=by have:=hy.length;simpa using this
 have e3:([x,y]:List (List UInt8)).flatten=x++y:=by simp
 have e4:(x++y).length=l+l':=by rw[List.length_append,e1,e2]
 refine(CZ (S:=fun b=>S b∨S' b) w.heap.size 2 [x,y] _ rfl (by omega) (by simp) (by rw[e3,e4];exact ht) (fun k hk=> ?_)).mono ?_
 ·rcases (show k=0∨k=1 by omega)with rfl|rfl
  ·exact⟨a,l,c,x,kX.1,(hx.below (wall w _) (Nat.le_refl _)).mono fun _=> .inl,rfl⟩
  ·exact⟨a',l',c',y,kX.2,(hy.below (wall w _) (Nat.le_refl _)).mono fun _=> .inr,rfl⟩
 ·rintro e w' ⟨a2,c2,rfl,hc2,hr,hb⟩
  rw[e3,e4]at hr hc2
  rw[e3,e4]
  exact⟨a2,c2,rfl,hc2,hr.mono fun b hb=>⟨by simp at hb;omega,hb.2⟩,(wall w _).trans (hb.mono (by simp))⟩
theorem C9 {w w1:World} {id:Int} {x:bF} {bs:List UInt8} {a2:Option Addr} {l c2:Nat} {v3 v:Value} (h:aJ g D w p mb ib nb T) (hb:Below w.heap.size w w1) (hx:aj id T=some x) (hl:bs.length=l) (hcap:kH (x.b.length+l) c2)
  (hr:av (fun b=>w.heap.size≤b∧b<w1.heap.size) w1 a2 (x.b.length+l) ((x.b++bs).map bv)) (h3:v3= .int .i64 ((x.b.length+l:Nat):Int)):
  Turn g D w p mb (aX id (fun x=>{x with b:=x.b++bs}) T) v (.returned v) ((w1.setCell ⟨ib id,6,none⟩ (.slice a2 (x.b.length+l) c2)).setCell ⟨ib id,3,none⟩ v3):=by
 subst h3
 have hA1:=h.below hb (Nat.le_refl _)
 have ti:=h.l5 id x hx
 have hs:=hb.size
 have hK:=Keeps.set2 w1 (ib id) 6 3 (.slice a2 (x.b.length+l) c2) (.int .i64 ((x.b.length+l:Nat):Int))
 obtain⟨ax,cx,_,_,_,hc⟩:=(hA1.item id x hx).row
 have hlen:(x.b++bs).length=x.b.length+l:=by rw[List.length_append,hl]
 refine⟨rfl,g,fun b=>D b∨(w.heap.size≤b∧b<w1.heap.size),ib,nb,?_,fun b h=> .inl h,fun b hb=>hb.imp (fun h=>h) fun h=>h.1,?_⟩
 ·refine hA1.aX hx rfl (fun _ h=> .inl h) (fun b hb=> ?_) (by rw[size_set,size_set];exact Nat.le_refl _) (fun b hbw h1 _=>hK.block b hbw (fun e=>h1 (by rw[e];exact ti))) ?_
  ·rw[size_set,size_set]
   rcases hb with hb|hb
   ·exact⟨hA1.data b hb,hA1.nW b hb⟩
   ·refine⟨?_,hb.2⟩
    cases hg:g b with
    |none=>rfl
    |_=>have:=h.low b (by rw[hg];simp);omega
  ·refine⟨⟨a2,c2,?_,by rw[hlen];exact hcap,?_⟩,fun hk=> ?_⟩
   ·rw[bY (bY hc)]
    simp only[iF,hlen]
    rfl
   ·rw[hlen]
    refine hr.move hK.size fun b hb hbw=>⟨.inr hb,hK.block b hbw ?_⟩
    have:=h.low (ib id) (by rw[ti];simp)
    omega
   ·have tn:=h.kI id x hx hk
    have e:bO {x with b:=x.b++bs}=bO x:=rfl
    rw[e]
    exact((hA1.item id x hx).names hk).kept (hK.block _ (hA1.low _ (by rw[tn];simp)) (fun e=>by rw[e,ti]at tn;cases tn))
 ·have hgi:g (ib id)≠ .none:=by rw[ti];simp
  exact⟨hK.os.trans hb.os,hK.tape.trans hb.tape,hK.output.trans hb.output,Nat.le_trans hs hK.size,fun b hbw hbg=>(hK.block b (by omega) (fun e=>hbg (by rw[e];exact hgi))).trans (hb.block b hbw)⟩
set_option maxRecDepth 100000 in
set_option maxHeartbeats 4000000 in
theorem yN {S:Nat→Prop} (id:Int) (a:Option Addr) (l c:Nat) (bs:List UInt8) (w:World) (h:aJ g D w p mb ib nb T) (hok:∀x,aj id T=some x→x.b.length≤4096) (hid:(Lit.int .i64 id).wf=true) (hr:av S w a l (bs.map bv)) (hl:l≤1000000000):
  Calls Tryz.prog 20 #[ptr p, .int .i64 id, .slice a l c] w (Turn g D w p mb (bK T id bs).2 (.int .i64 (bK T id bs).1)):=by
 have HH:=Lib.hid h
 have hbl:bs.length=l:=by have:=hr.length;simpa using this
 by_cases hf:bL T id=0
 ·obtain⟨x,hx,hk⟩:=l9 hf
  have HF:=Lib.hid (qp id hx hk w h hid)
  obtain⟨c0,c1,c2,c3,c4,c5,c7,hiw⟩:=(h.item id x hx).cell
  have hxb:=hok x hx
  have hE:jo T id bs=if x.closed then 27 else if 4096<x.b.length+l then 15 else 0:=by unfold jo;rw[hx,hbl];simp only[if_neg hk]
  have HE:=Lib.hid hE
  cases hcl:x.closed with
  |true=>
   have HM:Hid (bK T id bs=(27,T)):=by
    unfold bK
    rw[HE.out,hcl];simp only[if_pos];exact rfl
   rw[hcl]at c5
   clear hE hcl hx hk hf h c7 hok hr hbl
   go_enter Tryz.func20,Tryz.ntmps20
   go_wp2_with fail
   (with_reducible refine HF.out.mono ?_)
   rintro e w1 ⟨rfl,rfl⟩
   go_wp2_with fail
   go_ret
   rw[HM.out]
   exact Turn.same HH.out (Below.refl _ _) rfl
  |false=>
   rw[hcl]at c5
   by_cases hbig:4096<x.b.length+l
   ·have HM:Hid (bK T id bs=(15,T)):=by
     unfold bK
     rw[HE.out,hcl];simp only[Bool.false_eq_true,if_false,if_pos hbig];exact rfl
    have hd:decide ((4096:Int)-(x.b.length:Int)<(l:Int))=true:=by simp;omega
    clear hE hcl hx hk hf h c7 hok hr hbl
    go_enter Tryz.func20,Tryz.ntmps20
    go_wp2_with fail
    (with_reducible refine HF.out.mono ?_)
    rintro e w1 ⟨rfl,rfl⟩
    go_wp2_with fail
    go_ret
    rw[HM.out]
    exact Turn.same HH.out (Below.refl _ _) rfl
   ·have HM:Hid (bK T id bs=(0,aX id (fun x=>{x with b:=x.b++bs}) T)):=by
     unfold bK
     rw[HE.out,hcl];simp only[Bool.false_eq_true,if_false,if_neg hbig];exact rfl
    have hd:decide ((4096:Int)-(x.b.length:Int)<(l:Int))=false:=by simp;omega
    obtain⟨ax,cx,c6,hcap,hrx,hcells⟩:=(h.item id x hx).row
    have HC:=Lib.hid (C8 ax x.b.length cx x.b a l c bs w hrx hr (by omega))
    have HX:=Lib.hid hx
    have YA:=Lib.hid hcells
    have PK:=Lib.hid hbl
    clear hE hcl hx hk hf h c7 hok hr hbl hrx hcells hcap
    go_enter Tryz.func20,Tryz.ntmps20
    go_wp2_with fail
    (with_reducible refine HF.out.mono ?_)
    rintro e w1 ⟨rfl,rfl⟩
    go_wp2_with fail
    (with_reducible refine HC.out.mono ?_)
    rintro e w1 ⟨a2,c2',rfl,hcap2,hr2,hb2⟩
    have hA1:=HH.out.below hb2 (Nat.le_refl _)
    have hi1:=hA1.item id x HX.out
    have WE:=hi1.frozen 6
    have WG:=hi1.frozen 3
    have WH:=hi1.cell.2.2.2.2.2.2.2
    obtain⟨_,_,d6,_,_,_⟩:=hi1.row
    obtain⟨_,_,_,d3,_,_,_,_⟩:=hi1.cell
    have HA1:=Lib.hid hA1
    have HR2:=Lib.hid hr2
    have HB2:=Lib.hid hb2
    have WI:=Lib.hid hcap2
    clear hA1 hr2 hb2 hcap2 hi1
    go_wp2_with fail
    go_ret
    rw[HM.out]
    exact C9 HH.out HB2.out HX.out PK.out WI.out HR2.out (by simp)
 ·have hne:(bL T id==0)=false:=by simpa using hf
  have HF:=Lib.hid (pO id _ rfl hf w h hid)
  have HM:Hid (bK T id bs=(bL T id,T)):=by
   unfold bK
   rw[A_ hf,if_neg hf];exact rfl
  obtain⟨k,hk⟩:∃k,k=bL T id:=⟨_,rfl⟩
  rw[←hk]at HF hne HM
  clear hf h hk hok hr hbl
  go_enter Tryz.func20,Tryz.ntmps20
  go_wp2_with fail
  (with_reducible refine HF.out.mono ?_)
  rintro e w1 ⟨rfl,rfl⟩
  go_wp2_with fail
  go_ret
  rw[HM.out]
  exact Turn.same HH.out (Below.refl _ _) rfl
end
end Go.Proofs.YtohpcppeajijnaaGreat
