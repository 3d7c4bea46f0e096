/- DERIVED: THE SHELF's CONTRACTS AT THIS DUMP, IN PLAIN WORDS (tools/lay-plain.mjs out of 'YtjnhnlabpccgjaaGreatLaypGrowLay.lean', which tools/lay-shelf.mjs wrote): THE SAME DECLARATIONS UNDER THE SAME NAMES: 'import', 'namespace', 'open', 'def', 'theorem' AND NOTHING ELSE: no command of the shelf's: FOR A HAND-IN. Each laying: the table of numbers ('.._ren') and one theorem, a field a fact of the dump's own or the kernel's comparison; each contract: ONE APPLICATION. slices.Concat of rows of bytes. slices.Clone of bytes. tree: Seal, Keep, Part, Read, Append. tree: Part, Read, Append. tree: Read, Append. tree: New; Drop refused. -/
import Derived.Test.YtjnhnlabpccgjaaGreatProg
import Derived.Shelf.Spec.SlicesGrow
import Derived.Test.YtjnhnlabpccgjaaGreatM10
import Derived.Test.YtjnhnlabpccgjaaGreatM03
import Derived.Lib.SliceRun
import Derived.Test.YtjnhnlabpccgjaaGreatM09
namespace Go.Proofs
open Go.Shelf
def Tryz.vK:Go.Shelf.Ren:=⟨fun|4=>138|n=>n,fun|22=>23|25=>5|3=>3|4=>4|9=>9|20=>20|0=>0|n=>n,fun|n=>n⟩
theorem Tryz.Qt:Go.Proofs.Lays8.n4 Tryz.prog Tryz.vK:={
 mixed:=by kernel_rfl
 f4:=⟨Tryz.f138.name,by decide,Tryz.func138.trans (congrArg some (by kernel_rfl))⟩
 t0:=Tryz.underlying0
 a0:=Tryz.isAgg0
 z0:=Tryz.sizeOf0
 v0:=Tryz.zeroValue0
 t3:=Tryz.underlying3
 a3:=Tryz.isAgg3
 z3:=Tryz.sizeOf3
 v3:=Tryz.zeroValue3
 t4:=Tryz.underlying4
 a4:=Tryz.isAgg4
 z4:=Tryz.sizeOf4
 v4:=Tryz.zeroValue4
 t9:=Tryz.underlying9
 a9:=Tryz.isAgg9
 z9:=Tryz.sizeOf9
 v9:=Tryz.zeroValue9
 t20:=Tryz.underlying20
 a20:=Tryz.isAgg20
 z20:=Tryz.sizeOf20
 v20:=Tryz.zeroValue20
 t22:=Tryz.underlying23
 a22:=Tryz.isAgg23
 z22:=Tryz.sizeOf23
 v22:=Tryz.zeroValue23}
end Go.Proofs
namespace Go.Proofs.YtjnhnlabpccgjaaGreat
open Go.ChangeShapes Go.WideShapes Go.ChangeAt Go.RowKit
set_option linter.unusedVariables false
set_option linter.unusedSimpArgs false
theorem Lg (n:Nat) (w:World) (hn:n≤1000000000):
  Calls Tryz.prog 138 #[.slice none 0 0, .int .i64 n] w fun e w'=>∃v,e= .returned v∧w'.ownsRow w.heap.size 5 1 v 0 []∧Below w.heap.size w w':=by
 obtain⟨i0,hi,hz0,hz1,hz2⟩:=info_parts Tryz.C9
 by_cases h0:n=0
 ·subst h0
  refine(Any8.slices_Grow_room Tryz.Qt none 0 0 0 w (by omega) (by omega) (by omega) (by omega)).mono ?_
  rintro e w' ⟨rfl,rfl⟩
  exact⟨_,rfl,⟨rfl, .inl ⟨rfl,rfl⟩⟩,Below.refl _ _⟩
 ·refine(Any8.slices_Grow_grow Tryz.Qt i0 (.int .u8 0) hi hz0 (by rw[hz1];omega) none 0 0 n [] w (by omega) (by omega) (by rw[hz2];omega) (by omega) (by simp) (fun _=>rfl) (fun a h=>by cases h)).mono ?_
  rintro e w' ⟨rfl,rfl⟩
  have h1:=grownCap_ge w (0+n) 0 (Tryz.vK.t 25)
  have h2:=grownCap_le_maxLen w (0+n) 0 (Tryz.vK.t 25) (by unfold maxLen;omega)
  refine⟨_,rfl,⟨rfl, .inr ⟨w.heap.size,_,_,rfl,Nat.le_refl _,(MapKept.heap_alloc w.drew _).1,Nat.zero_le _,h2,?_,rfl⟩⟩,((Below.refl _ _).drew).alloc (Nat.le_refl _) _⟩
  have e1:(Value.cells (.int .u8 0)).size=1:=rfl
  simp only[Array.size_append,size_zeroCells,List.size_toArray,List.length_nil,e1]
  omega
theorem Aw {w:World} {base:Nat} {e:TypeId} {size:Nat} {v:Value} {n:Nat} {xs:List Value} (h:w.ownsRow base e size v n xs):∃a c,v= .slice a n c∧n≤c∧c≤maxLen:=by
 rcases h.2 with⟨rfl,rfl⟩|⟨g,cap,cur,rfl,_,_,h,h',_⟩
 ·exact⟨_,_,rfl,Nat.le_refl _,Nat.zero_le _⟩
 ·exact⟨_,_,rfl,h,h'⟩
theorem Ay (kC:List (List UInt8)) (k:Nat) (bs:List UInt8) (h:kC[k]? =some bs):(kC.take (k+1)).flatten=(kC.take k).flatten++bs:=by
 obtain⟨hk,e⟩:=List.getElem?_eq_some_iff.1 h
 rw[List.take_succ_eq_append_getElem hk,List.flatten_append,e]
 simp
theorem Oq (kC:List (List UInt8)) (k:Nat):(kC.take k).flatten.length≤kC.flatten.length:=by
 conv=>rhs;rw[←List.take_append_drop k kC,List.flatten_append]
 simp
def oV (kC:List (List UInt8)) (k:Nat):List UInt8:=(kC.take k).flatten
def nA (kC:List (List UInt8)) (k:Nat):Nat:=(oV kC k).length
set_option maxRecDepth 100000 in
set_option maxHeartbeats 4000000 in
theorem FH {S:Nat→Prop} (B n:Nat) (kC:List (List UInt8)) (w:World) (hn:n=kC.length) (hn2:n≤1000) (hB:B<w.heap.size) (htot:kC.flatten.length≤1000000000)
  (hc:∀k,k<n→∃a l c bs,w.cell? ⟨B,k,none⟩=some (.slice a l c)∧aj S w a l (bs.map bv)∧kC[k]? =some bs):
  Calls Tryz.prog 78 #[.slice (some ⟨B,0,none⟩) n n] w fun e w'=>∃a c,e= .returned (.slice a kC.flatten.length c)∧(kC.flatten.length≤c∧c≤maxLen)∧aj (fun x=>w.heap.size≤x∧x<w'.heap.size) w' a kC.flatten.length (kC.flatten.map bv)∧Below w.heap.size w w':=by
 obtain⟨i0,hi,hz0,hz1,hz2⟩:=info_parts Tryz.C9
 have HN:=Lib.hid hn
 have HC:=Lib.hid hc
 have hle:∀k,nA kC k≤kC.flatten.length:=fun k=>Oq kC k
 obtain⟨N,hN⟩:∃N,N=kC.flatten.length:=⟨_,rfl⟩
 obtain⟨fl,Rf⟩:∃fl,fl=kC.flatten:=⟨_,rfl⟩
 rw[←hN]at htot hle⊢
 rw[←Rf]
 have nV:=Lib.hid hN
 have HFF:=Lib.hid Rf
 clear hN Rf
 have Az:=Lib.hid hle
 have hG:=Lg N w htot
 have HG:=Lib.hid hG
 clear hn hc hle hG
 go_enter Tryz.func78,Tryz.ntmps78
 go_wp2
 go_loop [3,11] (fun s i=>∃k:Nat,k≤n∧i= .int .i64 k∧s= .int .i64 (nA kC k)) (fun _ i=>n-(intOf i).toNat)
 case atStart=>exact⟨0,by omega,rfl,rfl⟩
 case round=>
  obtain⟨k,hk,rfl,rfl⟩:=hrel
  have hlk:=Az.out k
  by_cases hlt:k<n
  ·obtain⟨a,l,c,bs,hcell,hS,hp⟩:=HC.out k hlt
   have hll:l=bs.length:=by have:=hS.length;simpa using this.symm
   subst hll
   have xZ:Hid (nA kC (k+1)=nA kC k+bs.length):=by unfold nA oV;rw[Ay kC k bs hp,List.length_append];exact rfl
   have hlk2:nA kC k+bs.length≤1000000000:=by have:=xZ.out;have:=Az.out (k+1);omega
   clear hp hS
   go_wp2
   go_round
   case rel=>exact⟨k+1,by omega,by go_num,by rw[xZ.out];go_num⟩
   case measure=>simp[intOf];omega
  ·obtain rfl:n=k:=by omega
   have HT:Hid (oV kC n=fl∧nA kC n=N):=by
    have:kC.take n=kC:=List.take_of_length_le (by have:=HN.out;omega)
    unfold nA oV
    rw[this];exact⟨HFF.out.symm,nV.out.symm⟩
   rw[HT.out.2]
   go_wp2_with fail
   (with_reducible refine HG.out.mono ?_)
   rintro e w1 ⟨v,rfl,hown,hb1⟩
   have HB1:=Lib.hid hb1
   have hown0:w1.ownsRow w.heap.size 5 1 v (nA kC 0) ((oV kC 0).map bv):=hown
   have HO:=Lib.hid hown0
   clear hb1 hown hown0 HG
   go_wp2_with fail
   go_loopw [6,27] (fun v i wr=>∃k:Nat,k≤n∧i= .int .i64 k∧wr.ownsRow w.heap.size 5 1 v (nA kC k) ((oV kC k).map bv)∧Below w.heap.size w wr) (fun _ i _=>n-(intOf i).toNat)
   case atStart=>exact⟨0,by omega,rfl,HO.out,HB1.out⟩
   case round=>
    obtain⟨k,hk,rfl,hown,hb⟩:=hrel
    have hbs:=hb.size
    by_cases hlt:k<n
    ·obtain⟨a,l,c,bs,hcell0,hS,hp⟩:=HC.out k hlt
     have hcell:=(hb.cell (p:=⟨B,k,none⟩) hB).trans hcell0
     have xZ:Hid (oV kC (k+1)=oV kC k++bs∧nA kC (k+1)=nA kC k+bs.length):=by unfold nA oV;rw[Ay kC k bs hp,List.length_append];exact⟨rfl,rfl⟩
     have hll:l=bs.length:=by have:=hS.length;simpa using this.symm
     subst hll
     have hlk2:nA kC k+bs.length≤1000000000:=by have:=xZ.out.2;have:=Az.out (k+1);omega
     have HS:=Lib.hid (hS.below hb (Nat.le_refl _))
     have HOW:=Lib.hid hown
     have HB:=Lib.hid hb
     clear hp hS hown hb hcell0 hlk
     go_wp2_with (at_builtin;refine aW (by rfl) _ _ 23 (by rfl) w.heap.size 5 i0 (.int .u8 0) 1 Tryz.underlying23 hi hz0 hz1 hz2 rfl _ _ _ (by rfl) HOW.out a bs.length c (bs.map bv) (by rfl) HS.out (fq bs) (by unfold maxLen;omega) (by omega) hbs ?_;intro A' c' w2 hown2 hgrow2 _ _)
     have I6:=Lib.hid hown2
     have HG2:=Lib.hid hgrow2
     clear hown2 hgrow2
     go_roundw
     case rel=>
      refine⟨k+1,by omega,by go_num,?_,HB.out.grown HG2.out hbs (eu HOW.out)⟩
      rw[xZ.out.1,xZ.out.2,List.map_append]
      exact I6.out
     case measure=>simp[intOf];omega
    ·obtain rfl:n=k:=by omega
     rw[HT.out.1,HT.out.2]at hown
     obtain⟨a,c,rfl,hac⟩:=Aw hown
     have HOW:=Lib.hid hown
     have HB:=Lib.hid hb
     clear hown hb
     go_wp2
     go_ret
     exact⟨a,c,rfl,hac,(aj.jI HOW.out).2,HB.out⟩
section
variable {g:Nat→Own} {D:Nat→Prop} {p mb:Nat} {ib nb:Int→Nat} {T:aF}
theorem Turn.of {w w':World} {Tn nb':Int→Nat} {T':aF} {v:Value} {e:Ending} (he:e= .returned v) (h:aH g D w' p mb Tn nb' T') (hK:Keeps (fun b=>g b≠ .none) w w'):Turn g D w p mb T' v e w':=
 ⟨he,g,D,Tn,nb',h,fun b h=> .inl h,fun b h=> .inl h,hK⟩
theorem mO {id:Int} (h:bM T id=0):∃x,ah id T=some x∧x.kind≠2:=by
 unfold bM at h
 cases hx:ah id T with
 |none=>rw[hx]at h;cases h
 |some x=>
  rw[hx]at h
  by_cases hk:x.kind=2
  ·simp only[if_pos hk]at h;cases h
  ·exact⟨x,rfl,hk⟩
theorem I7 {id aO:Int} (h:bM T id≠0):pX T id aO=bM T id:=by
 unfold bM at h⊢
 unfold pX
 cases hx:ah id T with
 |none=>rfl
 |some x=>
  rw[hx]at h
  by_cases hk:x.kind=2
  ·simp only[if_pos hk]
  ·simp only[if_neg hk]at h;exact absurd rfl h
theorem I8 {id aO:Int} (h:bM T id≠0):pY T id aO=bM T id:=by
 unfold bM at h⊢
 unfold pY
 cases hx:ah id T with
 |none=>rfl
 |some x=>
  rw[hx]at h
  by_cases hk:x.kind=2
  ·simp only[if_pos hk]
  ·simp only[if_neg hk]at h;exact absurd rfl h
theorem Dk {id:Int} {b:List UInt8} (h:bM T id≠0):jF T id b=bM T id:=by
 unfold bM at h⊢
 unfold jF
 cases hx:ah id T with
 |none=>rfl
 |some x=>
  rw[hx]at h
  by_cases hk:x.kind=2
  ·simp only[if_pos hk]
  ·simp only[if_neg hk]at h;exact absurd rfl h
theorem I9 {id:Int} (h:bM T id≠0):lV T id=bM T id:=by
 unfold bM at h⊢
 unfold lV
 cases hx:ah id T with
 |none=>rfl
 |some x=>
  rw[hx]at h
  by_cases hk:x.kind=2
  ·simp only[if_pos hk]
  ·simp only[if_neg hk]at h;exact absurd rfl h
theorem I_ {id at_ n:Int} (h:bM T id≠0):nN T id at_ n=bM T id∧nO T id at_ n=[]:=by
 unfold bM at h⊢
 unfold nN nO
 cases hx:ah id T with
 |none=>exact⟨rfl,rfl⟩
 |some x=>
  rw[hx]at h
  by_cases hk:x.kind=2
  ·simp only[if_pos hk,and_self]
  ·simp only[if_neg hk]at h;exact absurd rfl h
set_option maxHeartbeats 4000000 in
theorem Ot (id aO:Int) (w:World) (h:aH g D w p mb ib nb T) (hid:(Lit.int .i64 id).wf=true) (ht0:0≤aO) (ht1:aO≤18446744073709551615):
  Calls Tryz.prog 31 #[ptr p, .int .i64 id, .int .u64 aO] w (Turn g D w p mb (fU T id aO).2 (.int .i64 (fU T id aO).1)):=by
 have HH:=Lib.hid h
 by_cases hf:bM T id=0
 ·obtain⟨x,hx,hk⟩:=mO hf
  have HF:=Lib.hid (rE id hx hk w h hid)
  obtain⟨c0,c1,c2,c3,c4,c5,c7,hiw⟩:=(h.item id x hx).cell
  have HX:=Lib.hid hx
  have hE:pX T id aO=if x.closed then 27 else if 1099511627776<aO then 1 else 0:=by unfold pX;rw[hx];simp only[if_neg hk]
  have HE:=Lib.hid hE
  cases hcl:x.closed with
  |true=>
   have HM:Hid (fU T id aO=(27,T)):=by
    unfold fU
    rw[HE.out,hcl];simp only[if_pos];exact rfl
   rw[hcl]at c5
   clear hE hcl hx hk hf h c7
   go_enter Tryz.func31,Tryz.ntmps31
   go_wp2_with fail
   (with_reducible refine HF.out.mono ?_)
   rintro e w1 ⟨rfl,rfl⟩
   go_wp2_with fail
   go_ret
   rw[HM.out]
   exact Turn.same HH.out (Below.refl _ _) rfl
  |false=>
   rw[hcl]at c5
   by_cases htl:1099511627776<aO
   ·have HM:Hid (fU T id aO=(1,T)):=by
     unfold fU
     rw[HE.out,hcl];simp only[Bool.false_eq_true,if_false,if_pos htl];exact rfl
    clear hE hcl hx hk hf h c7
    go_enter Tryz.func31,Tryz.ntmps31
    go_wp2_with fail
    (with_reducible refine HF.out.mono ?_)
    rintro e w1 ⟨rfl,rfl⟩
    go_wp2_with fail
    go_ret
    rw[HM.out]
    exact Turn.same HH.out (Below.refl _ _) rfl
   ·have HM:Hid (fU T id aO=(0,eG (aX id (fun x=>{x with closed:=true,aO:=aO}) T) id)):=by
     unfold fU
     rw[HE.out,hcl];simp only[Bool.false_eq_true,if_false,if_neg htl];exact rfl
    have Wx:=(h.item id x hx).frozen 4
    have hfz5:=(h.item id x hx).frozen 5
    have hA1:aH g D ((w.setCell ⟨ib id,5,none⟩ (.bool true)).setCell ⟨ib id,4,none⟩ (.int .u64 aO)) p mb ib nb (aX id (fun x=>{x with closed:=true,aO:=aO}) T):=by
     refine h.fields hx (fun x=>{x with closed:=true,aO:=aO}) rfl rfl rfl (Keeps.set2 w _ _ _ _ _) (by rw[size_set,size_set]) fun a c hc=> ?_
     rw[bX (bX hc)]
     rfl
    have hx1:ah id (aX id (fun x=>{x with closed:=true,aO:=aO}) T)=some {x with closed:=true,aO:=aO}:=by rw[aS,if_pos rfl,hx];rfl
    have HS:=Lib.hid (yc id hx1 hid _ hA1)
    have hgi:=h.mK id x hx
    have hgm:=h.je
    have VN:Hid (∀b,(b=ib id∨b=mb)→g b≠ .none):=fun b hb=>by
     rcases hb with rfl|rfl
     ·rw[hgi];simp
     ·rw[hgm];simp
    clear hE hcl hx hk hf h c7 hA1 hx1 hgi hgm
    go_enter Tryz.func31,Tryz.ntmps31
    go_wp2_with fail
    (with_reducible refine HF.out.mono ?_)
    rintro e w1 ⟨rfl,rfl⟩
    go_wp2_with fail
    (with_reducible refine HS.out.mono ?_)
    rintro e w1 ⟨rfl,hA2,hK2,hs2⟩
    have HA2:=Lib.hid hA2
    have BZ:=Lib.hid hK2
    clear hA2 hK2
    go_wp2_with fail
    go_ret
    rw[HM.out]
    exact Turn.of rfl HA2.out (((Keeps.set2 w (ib id) 5 4 _ _).mono fun b _ hb=>VN.out b (.inl hb)).trans (BZ.out.mono fun b _ hb=>VN.out b (.inr hb)) (fun _ _ h=>h))
 ·have hne:(bM T id==0)=false:=by simpa using hf
  have HF:=Lib.hid (qC id _ rfl hf w h hid)
  have HM:Hid (fU T id aO=(bM T id,T)):=by
   unfold fU
   rw[I7 hf,if_neg hf];exact rfl
  obtain⟨k,hk⟩:∃k,k=bM T id:=⟨_,rfl⟩
  rw[←hk]at HF hne HM
  clear hf h hk
  go_enter Tryz.func31,Tryz.ntmps31
  go_wp2_with fail
  (with_reducible refine HF.out.mono ?_)
  rintro e w1 ⟨rfl,rfl⟩
  go_wp2_with fail
  go_ret
  rw[HM.out]
  exact Turn.same HH.out (Below.refl _ _) rfl
set_option maxHeartbeats 4000000 in
theorem Ou (id aO:Int) (w:World) (h:aH g D w p mb ib nb T) (hid:(Lit.int .i64 id).wf=true) (ht0:0≤aO) (ht1:aO≤18446744073709551615) (hok:∀x,ah id T=some x→0≤x.aO∧x.aO≤1099511627776):
  Calls Tryz.prog 109 #[ptr p, .int .i64 id, .int .u64 aO] w (Turn g D w p mb (fG T id aO).2 (.int .i64 (fG T id aO).1)):=by
 have HH:=Lib.hid h
 by_cases hf:bM T id=0
 ·obtain⟨x,hx,hk⟩:=mO hf
  have HF:=Lib.hid (rE id hx hk w h hid)
  obtain⟨c0,c1,c2,c3,c4,c5,c7,hiw⟩:=(h.item id x hx).cell
  obtain⟨hx0,hx1⟩:=hok x hx
  have hE:pY T id aO=if x.closed=false then 25 else if aO<x.aO then 28 else if 1099511627776<aO then 1 else 0:=by unfold pY;rw[hx];simp only[if_neg hk]
  have HE:=Lib.hid hE
  cases hcl:x.closed with
  |false=>
   have HM:Hid (fG T id aO=(25,T)):=by
    unfold fG
    rw[HE.out,hcl];simp only[if_pos];exact rfl
   rw[hcl]at c5
   clear hE hcl hx hk hf h c7 hok
   go_enter Tryz.func109,Tryz.ntmps109
   go_wp2_with fail
   (with_reducible refine HF.out.mono ?_)
   rintro e w1 ⟨rfl,rfl⟩
   go_wp2_with fail
   go_ret
   rw[HM.out]
   exact Turn.same HH.out (Below.refl _ _) rfl
  |true=>
   rw[hcl]at c5
   by_cases hlt:aO<x.aO
   ·have HM:Hid (fG T id aO=(28,T)):=by
     unfold fG
     rw[HE.out,hcl];simp only[Bool.true_eq_false,if_false,if_pos hlt];exact rfl
    clear hE hcl hx hk hf h c7 hok
    go_enter Tryz.func109,Tryz.ntmps109
    go_wp2_with fail
    (with_reducible refine HF.out.mono ?_)
    rintro e w1 ⟨rfl,rfl⟩
    go_wp2_with fail
    go_ret
    rw[HM.out]
    exact Turn.same HH.out (Below.refl _ _) rfl
   ·by_cases htl:1099511627776<aO
    ·have HM:Hid (fG T id aO=(1,T)):=by
      unfold fG
      rw[HE.out,hcl];simp only[Bool.true_eq_false,if_false,if_neg hlt,if_pos htl];exact rfl
     clear hE hcl hx hk hf h c7 hok
     go_enter Tryz.func109,Tryz.ntmps109
     go_wp2_with fail
     (with_reducible refine HF.out.mono ?_)
     rintro e w1 ⟨rfl,rfl⟩
     go_wp2_with fail
     go_ret
     rw[HM.out]
     exact Turn.same HH.out (Below.refl _ _) rfl
    ·have HM:Hid (fG T id aO=(0,aX id (fun x=>{x with aO:=aO}) T)):=by
      unfold fG
      rw[HE.out,hcl];simp only[Bool.true_eq_false,if_false,if_neg hlt,if_neg htl];exact rfl
     have Wx:=(h.item id x hx).frozen 4
     have hA1:aH g D (w.setCell ⟨ib id,4,none⟩ (.int .u64 aO)) p mb ib nb (aX id (fun x=>{x with aO:=aO}) T):=by
      refine h.fields hx (fun x=>{x with aO:=aO}) rfl rfl rfl (Keeps.iG w ⟨ib id,4,none⟩ _) (by rw[size_set]) fun a c hc=> ?_
      rw[bX hc]
      rfl
     have HA1:=Lib.hid hA1
     have VN:Hid (g (ib id)≠ .none):=by rw[h.mK id x hx];exact fun e=>by cases e
     clear hE hcl hx hk hf h c7 hA1 hok
     go_enter Tryz.func109,Tryz.ntmps109
     go_wp2_with fail
     (with_reducible refine HF.out.mono ?_)
     rintro e w1 ⟨rfl,rfl⟩
     go_wp2_with fail
     go_ret
     rw[HM.out]
     exact Turn.of rfl HA1.out ((Keeps.iG w ⟨ib id,4,none⟩ _).mono fun b _ hb=>by rw[show b=ib id from hb];exact VN.out)
 ·have hne:(bM T id==0)=false:=by simpa using hf
  have HF:=Lib.hid (qC id _ rfl hf w h hid)
  have HM:Hid (fG T id aO=(bM T id,T)):=by
   unfold fG
   rw[I8 hf,if_neg hf];exact rfl
  obtain⟨k,hk⟩:∃k,k=bM T id:=⟨_,rfl⟩
  rw[←hk]at HF hne HM
  clear hf h hk hok
  go_enter Tryz.func109,Tryz.ntmps109
  go_wp2_with fail
  (with_reducible refine HF.out.mono ?_)
  rintro e w1 ⟨rfl,rfl⟩
  go_wp2_with fail
  go_ret
  rw[HM.out]
  exact Turn.same HH.out (Below.refl _ _) rfl
end
def yg (w:World) (bs:List UInt8) (e:Ending) (w':World):Prop:=
 ∃a n c,e= .returned (.slice a n c)∧n≤c∧aj (fun x=>w.heap.size≤x∧x<w'.heap.size) w' a n (bs.map bv)∧Below w.heap.size w w'
def gu (w:World) (bs:List UInt8) (e:Ending) (w':World):Prop:=
 ∃a c,e= .returned (.slice a bs.length c)∧w'.ownsRow w.heap.size 5 1 (.slice a bs.length c) bs.length (bs.map bv)∧Below w.heap.size w w'
theorem gu.ret {w w':World} {bs:List UInt8} {e:Ending} (h:gu w bs e w'):yg w bs e w':=by
 obtain⟨a,c,rfl,ho,hb⟩:=h
 obtain⟨a1,c1,e1,hc⟩:=gU ho
 cases e1
 exact⟨a,_,c,rfl,hc,(aj.jI ho).2,hb⟩
set_option maxHeartbeats 1000000 in
theorem oW {S:Nat→Prop} (a:Option Addr) (n cap:Nat) (bs:List UInt8) (w:World) (hm:n≤1000000000) (hr:aj S w a n (bs.map bv)):
  Calls Tryz.prog 96 #[.slice a n cap] w (yg w bs):=by
 obtain⟨i0,hi,hz0,hz1,hz2⟩:=info_parts Tryz.C9
 have hll:bs.length=n:=by have:=hr.length;simpa using this
 have heq:=fun w=>Lib.run_eql_slice_nil (P:=Tryz.prog) w 23 5 a n cap 0 0 Tryz.underlying23
 have HR:=Lib.hid hr
 have HL:=Lib.hid hll
 clear hr hll
 cases a with
 |none=>
  have h0:n=0:=by
   rcases Nat.eq_zero_or_pos n with h0|h0
   ·exact h0
   ·obtain⟨_,_,e,_⟩:=HR.out.at_ h0
    cases e
  subst h0
  have hb0:bs=[]:=List.eq_nil_of_length_eq_zero HL.out
  subst hb0
  go_enter Tryz.func96,Tryz.ntmps96
  go_wp2
  go_ret
  exact⟨none,0,_,rfl,Nat.zero_le _,aj.nil _ _ _,Below.refl _ _⟩
 |some ad=>
  have hsz:(w.alloc (.cells #[] 5)).heap.size=w.heap.size+1:=by simp
  have HS:=Lib.hid (HR.out.below (wall w (.cells #[] 5)) (Nat.le_refl _))
  go_enter Tryz.func96,Tryz.ntmps96
  go_wp2_with ((at_builtin;refine aW (by rfl) _ _ 23 (by rfl) w.heap.size 5 i0 (.int .u8 0) 1 Tryz.underlying23 hi hz0 hz1 hz2 rfl _ 0 [] (by rfl) ⟨rfl, .inr ⟨w.heap.size,0,#[],rfl,Nat.le_refl _,(MapKept.heap_alloc w _).1,Nat.le_refl _,Nat.zero_le _,rfl,rfl⟩⟩ (some ad) n cap (bs.map bv) (by rfl) HS.out (fq bs) (by unfold maxLen;omega) (by omega) (by simp) ?_;intro A' c' w2 hown2 hgrow2 _ _))
  go_ret
  have hB2:Below w.heap.size w w2:=(wall w _).grown hgrow2 (by simp) (fun k hk=>by cases hk;exact Nat.le_refl _)
  obtain⟨a3,c3,e3,hac⟩:=gU hown2
  cases e3
  refine⟨_,n,_,rfl,by omega,?_,hB2⟩
  have hro:=(aj.jI hown2).2
  rw[List.nil_append]at hro
  simpa only[Nat.zero_add]using hro
theorem Dl {S:Nat→Prop} {a:Option Addr} {l k n:Nat} {bs:List UInt8} {w:World} (A N:Nat) (hr:aj S w a l (bs.map bv)) (hk:k=min A l) (hn:n=min N (l-A)):aj S w (a.map fun x=>x.add k) n (((bs.drop A).take N).map bv):=by
 have hl:bs.length=l:=by have:=hr.length;simpa using this
 have hs:=hr.small
 subst hn
 refine⟨by simp[hl],by omega,fun h0=> ?_⟩
 obtain⟨b,off,rfl,hS,hb,hc⟩:=hr.at_ (by omega)
 have hA:k=A:=by omega
 refine⟨b,off+A,by simp[hA,add_plain],hS,hb,fun i hi=> ?_⟩
 rw[Nat.add_assoc,hc (A+i) (by omega),List.getElem?_map,List.getElem?_map,List.getElem?_take,if_pos (by omega),List.getElem?_drop]
theorem Ja {S:Nat→Prop} {ad:Addr} {l k n:Nat} {bs:List UInt8} {w:World} (A N:Nat) (hr:aj S w (some ad) l (bs.map bv)) (hk:k=min A l) (hn:n=min N (l-A)):aj S w (some (ad.add k)) n (((bs.drop A).take N).map bv):=Dl (a:=some ad) A N hr hk hn
theorem Jb {S:Nat→Prop} {l n:Nat} {bs:List UInt8} {w:World} (A N:Nat) (hr:aj S w none l (bs.map bv)) (hn:n=min N (l-A)):aj S w none n (((bs.drop A).take N).map bv):=Dl (a:=none) A N hr rfl hn
theorem Jc {S:Nat→Prop} (a:Option Addr) {l n:Nat} {bs:List UInt8} {w:World} (A N:Nat) (hl:bs.length=l) (h:l≤A) (hn:n=min N (l-A)):aj S w a n (((bs.drop A).take N).map bv):=by
 refine aj.zero a _ _ (by omega) ?_
 rw[List.drop_of_length_le (by omega),List.take_nil]
 rfl
def uf (w:World) (bs:List UInt8) (k:Int) (e:Ending) (w':World):Prop:=
 ∃a n c,e= .returned (.tuple #[.slice a n c, .int .i64 k])∧n≤c∧aj (fun x=>w.heap.size≤x∧x<w'.heap.size) w' a n (bs.map bv)∧Below w.heap.size w w'
set_option maxHeartbeats 1000000 in
theorem Ov {S:Nat→Prop} (a:Option Addr) (l c:Nat) (bs:List UInt8) (A N:Nat) (w:World) (hl:l≤1000000000) (hlc:l≤c) (hc:c≤maxLen) (hA:A≤9223372036854775807) (hN:N≤9223372036854775807) (hr:aj S w a l (bs.map bv)):
  Calls Tryz.prog 153 #[.slice a l c, .int .i64 A, .int .i64 N] w (uf w ((bs.drop A).take N) 0):=by
 unfold maxLen at hc
 have z1:(0:Int)≤(A:Int):=by omega
 have z2:(0:Int)≤(N:Int):=by omega
 have z3:decide ((A:Int)<0)=false:=by simp
 have z4:decide ((N:Int)<0)=false:=by simp
 have HR:=Lib.hid hr
 have hL:bs.length=l:=by have:=hr.length;simpa using this
 have HL:=Lib.hid hL
 clear hr hL
 by_cases hcap:c=min A l
 ·subst hcap
  go_enter Tryz.func153,Tryz.ntmps153
  go_wp2_with fail
  (with_reducible refine(oW (S:=S) _ _ _ ((bs.drop A).take N) _ (by omega) (Jc _ A N HL.out (by omega) (by omega))).mono ?_)
  rintro e w1 ⟨a1,n1,c1,rfl,hn1,hr1,hb1⟩
  have HR1:=Lib.hid hr1
  have HB1:=Lib.hid hb1
  clear hr1 hb1
  go_wp2_with fail
  go_ret2
  exact⟨a1,n1,c1,rfl,hn1,HR1.out,HB1.out⟩
 ·cases a with
  |none=>
   go_enter Tryz.func153,Tryz.ntmps153
   go_wp2_with fail
   (with_reducible refine(oW (S:=S) _ _ _ ((bs.drop A).take N) _ (by omega) (Jb A N HR.out (by omega))).mono ?_)
   rintro e w1 ⟨a1,n1,c1,rfl,hn1,hr1,hb1⟩
   have HR1:=Lib.hid hr1
   have HB1:=Lib.hid hb1
   clear hr1 hb1
   go_wp2_with fail
   go_ret2
   exact⟨a1,n1,c1,rfl,hn1,HR1.out,HB1.out⟩
  |some ad=>
   go_enter Tryz.func153,Tryz.ntmps153
   go_wp2_with fail
   (with_reducible refine(oW (S:=S) _ _ _ ((bs.drop A).take N) _ (by omega) (Ja A N HR.out (by omega) (by omega))).mono ?_)
   rintro e w1 ⟨a1,n1,c1,rfl,hn1,hr1,hb1⟩
   have HR1:=Lib.hid hr1
   have HB1:=Lib.hid hb1
   clear hr1 hb1
   go_wp2_with fail
   go_ret2
   exact⟨a1,n1,c1,rfl,hn1,HR1.out,HB1.out⟩
set_option maxHeartbeats 1000000 in
theorem Lh (a:Option Addr) (l c:Nat) (at_ n:Int) (w:World) (h:at_<0∨n<0):
  Calls Tryz.prog 153 #[.slice a l c, .int .i64 at_, .int .i64 n] w (uf w [] 1):=by
 by_cases h1:at_<0
 ·go_enter Tryz.func153,Tryz.ntmps153
  go_wp2
  go_ret2
  exact⟨none,0,0,rfl,Nat.le_refl _,aj.nil _ _ _,Below.refl _ _⟩
 ·have h2:n<0:=by omega
  have e1:decide (at_<0)=false:=by simpa using h1
  clear h
  go_enter Tryz.func153,Tryz.ntmps153
  go_wp2
  go_ret2
  exact⟨none,0,0,rfl,Nat.le_refl _,aj.nil _ _ _,Below.refl _ _⟩
theorem Li {S:Nat→Prop} (a:Option Addr) (l c:Nat) (bs:List UInt8) (at_ n:Int) (w:World) (hl:l≤1000000000) (hlc:lu l c) (hA:(Lit.int .i64 at_).wf=true) (hN:(Lit.int .i64 n).wf=true) (hr:aj S w a l (bs.map bv)):
  Calls Tryz.prog 153 #[.slice a l c, .int .i64 at_, .int .i64 n] w (uf w (xR bs at_ n) (xQ at_ n)):=by
 simp only[Lit.wf,IntKind.min,IntKind.max,IntKind.signed,IntKind.bits,Bool.and_eq_true,decide_eq_true_eq]at hA hN
 by_cases h:at_<0∨n<0
 ·unfold xR xQ
  rw[if_pos h,if_pos h]
  exact Lh a l c at_ n w h
 ·unfold xR xQ
  rw[if_neg h,if_neg h]
  have:=Ov (S:=S) a l c bs at_.toNat n.toNat w hl hlc.1 hlc.2 (by simp at hA;omega) (by simp at hN;omega) hr
  rw[show((at_.toNat:Nat):Int)=at_ by omega,show((n.toNat:Nat):Int)=n by omega]at this
  exact this
section
variable {g:Nat→Own} {D:Nat→Prop} {p mb:Nat} {ib nb:Int→Nat} {T:aF}
set_option maxHeartbeats 2000000 in
theorem Lj (id at_ n:Int) (w:World) (h:aH g D w p mb ib nb T) (hok:∀x,ah id T=some x→x.b.length≤4096) (hid:(Lit.int .i64 id).wf=true) (hA:(Lit.int .i64 at_).wf=true) (hN:(Lit.int .i64 n).wf=true):
  Calls Tryz.prog 107 #[ptr p, .int .i64 id, .int .i64 at_, .int .i64 n] w (uf w (nO T id at_ n) (nN T id at_ n)):=by
 by_cases hf:bM T id=0
 ·obtain⟨x,hx,hk⟩:=mO hf
  have HF:=Lib.hid (rE id hx hk w h hid)
  obtain⟨a,c,c6,hcap,hr,_⟩:=(h.item id x hx).row
  have HP:=Lib.hid (Li (S:=D) a x.b.length c x.b at_ n w (by have:=hok x hx;omega) hcap hA hN hr)
  have e:nO T id at_ n=xR x.b at_ n∧nN T id at_ n=xQ at_ n:=by
   unfold nO nN
   rw[hx]
   simp only[if_neg hk,and_self]
  rw[e.1,e.2]
  clear h hx hok hA hN hid hf hk e hr hcap
  go_enter Tryz.func107,Tryz.ntmps107
  go_wp2_with fail
  (with_reducible refine HF.out.mono ?_)
  rintro e w1 ⟨rfl,rfl⟩
  go_wp2_with fail
  (with_reducible refine HP.out.mono ?_)
  rintro e w1 ⟨a1,n1,c1,rfl,hn1,hr1,hb1⟩
  have HR1:=Lib.hid hr1
  have HB1:=Lib.hid hb1
  clear hr1 hb1
  go_wp2_with fail
  go_ret2
  exact⟨a1,n1,c1,rfl,hn1,HR1.out,HB1.out⟩
 ·have hne:(bM T id==0)=false:=by simpa using hf
  have HF:=Lib.hid (qC id _ rfl hf w h hid)
  obtain⟨e1,e2⟩:=I_ (at_:=at_) (n:=n) hf
  rw[e1,e2]
  obtain⟨k,hk⟩:∃k,k=bM T id:=⟨_,rfl⟩
  rw[←hk]at HF hne⊢
  clear hf h hk hok e1 e2 hA hN hid
  go_enter Tryz.func107,Tryz.ntmps107
  go_wp2_with fail
  (with_reducible refine HF.out.mono ?_)
  rintro e w1 ⟨rfl,rfl⟩
  go_wp2_with fail
  go_ret2
  exact⟨none,0,0,rfl,Nat.le_refl _,aj.nil _ _ _,Below.refl _ _⟩
theorem FI {S S':Nat→Prop} (a:Option Addr) (l c:Nat) (x:List UInt8) (a':Option Addr) (l' c':Nat) (y:List UInt8) (w:World) (hx:aj S w a l (x.map bv)) (hy:aj S' w a' l' (y.map bv)) (ht:l+l'≤1000000000):
  Calls Tryz.prog 78 #[.slice (some ⟨w.heap.size,0,none⟩) 2 2] (w.alloc (.cells #[.slice a l c, .slice a' l' c'] 23)) fun e w'=>∃a2 c2,e= .returned (.slice a2 (l+l') c2)∧lu (l+l') c2∧aj (fun b=>w.heap.size≤b∧b<w'.heap.size) w' a2 (l+l') ((x++y).map bv)∧Below w.heap.size w w':=by
 have e1:x.length=l:=by have:=hx.length;simpa using this
 have e2:y.length=l':=by have:=hy.length;simpa using this
 have e3:([x,y]:List (List UInt8)).flatten=x++y:=by simp
 have e4:(x++y).length=l+l':=by rw[List.length_append,e1,e2]
 refine(FH (S:=fun b=>S b∨S' b) w.heap.size 2 [x,y] _ rfl (by omega) (by simp) (by rw[e3,e4];exact ht) (fun k hk=> ?_)).mono ?_
 ·rcases (show k=0∨k=1 by omega)with rfl|rfl
  ·exact⟨a,l,c,x,lY.1,(hx.below (wall w _) (Nat.le_refl _)).mono fun _=> .inl,rfl⟩
  ·exact⟨a',l',c',y,lY.2,(hy.below (wall w _) (Nat.le_refl _)).mono fun _=> .inr,rfl⟩
 ·rintro e w' ⟨a2,c2,rfl,hc2,hr,hb⟩
  rw[e3,e4]at hr hc2
  rw[e3,e4]
  exact⟨a2,c2,rfl,hc2,hr.mono fun b hb=>⟨by simp at hb;omega,hb.2⟩,(wall w _).trans (hb.mono (by simp))⟩
theorem FJ {w w1:World} {id:Int} {x:bA} {bs:List UInt8} {a2:Option Addr} {l c2:Nat} {v3 v:Value} (h:aH g D w p mb ib nb T) (hb:Below w.heap.size w w1) (hx:ah id T=some x) (hl:bs.length=l) (hcap:lu (x.b.length+l) c2)
  (hr:aj (fun b=>w.heap.size≤b∧b<w1.heap.size) w1 a2 (x.b.length+l) ((x.b++bs).map bv)) (h3:v3= .int .i64 ((x.b.length+l:Nat):Int)):
  Turn g D w p mb (aX id (fun x=>{x with b:=x.b++bs}) T) v (.returned v) ((w1.setCell ⟨ib id,6,none⟩ (.slice a2 (x.b.length+l) c2)).setCell ⟨ib id,3,none⟩ v3):=by
 subst h3
 have hA1:=h.below hb (Nat.le_refl _)
 have ti:=h.mK id x hx
 have hs:=hb.size
 have hK:=Keeps.set2 w1 (ib id) 6 3 (.slice a2 (x.b.length+l) c2) (.int .i64 ((x.b.length+l:Nat):Int))
 obtain⟨ax,cx,_,_,_,hc⟩:=(hA1.item id x hx).row
 have hlen:(x.b++bs).length=x.b.length+l:=by rw[List.length_append,hl]
 refine⟨rfl,g,fun b=>D b∨(w.heap.size≤b∧b<w1.heap.size),ib,nb,?_,fun b h=> .inl h,fun b hb=>hb.imp (fun h=>h) fun h=>h.1,?_⟩
 ·refine hA1.aX hx rfl (fun _ h=> .inl h) (fun b hb=> ?_) (by rw[size_set,size_set];exact Nat.le_refl _) (fun b hbw h1 _=>hK.block b hbw (fun e=>h1 (by rw[e];exact ti))) ?_
  ·rw[size_set,size_set]
   rcases hb with hb|hb
   ·exact⟨hA1.data b hb,hA1.oO b hb⟩
   ·refine⟨?_,hb.2⟩
    cases hg:g b with
    |none=>rfl
    |_=>have:=h.low b (by rw[hg];simp);omega
  ·refine⟨⟨a2,c2,?_,by rw[hlen];exact hcap,?_⟩,fun hk=> ?_⟩
   ·rw[bX (bX hc)]
    simp only[iL,hlen]
    rfl
   ·rw[hlen]
    refine hr.move hK.size fun b hb hbw=>⟨.inr hb,hK.block b hbw ?_⟩
    have:=h.low (ib id) (by rw[ti];simp)
    omega
   ·have tn:=h.kG id x hx hk
    have e:bL {x with b:=x.b++bs}=bL x:=rfl
    rw[e]
    exact((hA1.item id x hx).names hk).kept (hK.block _ (hA1.low _ (by rw[tn];simp)) (fun e=>by rw[e,ti]at tn;cases tn))
 ·have hgi:g (ib id)≠ .none:=by rw[ti];simp
  exact⟨hK.os.trans hb.os,hK.tape.trans hb.tape,hK.output.trans hb.output,Nat.le_trans hs hK.size,fun b hbw hbg=>(hK.block b (by omega) (fun e=>hbg (by rw[e];exact hgi))).trans (hb.block b hbw)⟩
set_option maxRecDepth 100000 in
set_option maxHeartbeats 4000000 in
theorem Jd {S:Nat→Prop} (id:Int) (a:Option Addr) (l c:Nat) (bs:List UInt8) (w:World) (h:aH g D w p mb ib nb T) (hok:∀x,ah id T=some x→x.b.length≤4096) (hid:(Lit.int .i64 id).wf=true) (hr:aj S w a l (bs.map bv)) (hl:l≤1000000000):
  Calls Tryz.prog 29 #[ptr p, .int .i64 id, .slice a l c] w (Turn g D w p mb (dw T id bs).2 (.int .i64 (dw T id bs).1)):=by
 have HH:=Lib.hid h
 have hbl:bs.length=l:=by have:=hr.length;simpa using this
 by_cases hf:bM T id=0
 ·obtain⟨x,hx,hk⟩:=mO hf
  have HF:=Lib.hid (rE id hx hk w h hid)
  obtain⟨c0,c1,c2,c3,c4,c5,c7,hiw⟩:=(h.item id x hx).cell
  have hxb:=hok x hx
  have hE:jF T id bs=if x.closed then 27 else if 4096<x.b.length+l then 15 else 0:=by unfold jF;rw[hx,hbl];simp only[if_neg hk]
  have HE:=Lib.hid hE
  cases hcl:x.closed with
  |true=>
   have HM:Hid (dw T id bs=(27,T)):=by
    unfold dw
    rw[HE.out,hcl];simp only[if_pos];exact rfl
   rw[hcl]at c5
   clear hE hcl hx hk hf h c7 hok hr hbl
   go_enter Tryz.func29,Tryz.ntmps29
   go_wp2_with fail
   (with_reducible refine HF.out.mono ?_)
   rintro e w1 ⟨rfl,rfl⟩
   go_wp2_with fail
   go_ret
   rw[HM.out]
   exact Turn.same HH.out (Below.refl _ _) rfl
  |false=>
   rw[hcl]at c5
   by_cases hbig:4096<x.b.length+l
   ·have HM:Hid (dw T id bs=(15,T)):=by
     unfold dw
     rw[HE.out,hcl];simp only[Bool.false_eq_true,if_false,if_pos hbig];exact rfl
    have hd:decide ((4096:Int)-(x.b.length:Int)<(l:Int))=true:=by simp;omega
    clear hE hcl hx hk hf h c7 hok hr hbl
    go_enter Tryz.func29,Tryz.ntmps29
    go_wp2_with fail
    (with_reducible refine HF.out.mono ?_)
    rintro e w1 ⟨rfl,rfl⟩
    go_wp2_with fail
    go_ret
    rw[HM.out]
    exact Turn.same HH.out (Below.refl _ _) rfl
   ·have HM:Hid (dw T id bs=(0,aX id (fun x=>{x with b:=x.b++bs}) T)):=by
     unfold dw
     rw[HE.out,hcl];simp only[Bool.false_eq_true,if_false,if_neg hbig];exact rfl
    have hd:decide ((4096:Int)-(x.b.length:Int)<(l:Int))=false:=by simp;omega
    obtain⟨ax,cx,c6,hcap,hrx,hcells⟩:=(h.item id x hx).row
    have HC:=Lib.hid (FI ax x.b.length cx x.b a l c bs w hrx hr (by omega))
    have HX:=Lib.hid hx
    have VO:=Lib.hid hcells
    have Hy:=Lib.hid hbl
    clear hE hcl hx hk hf h c7 hok hr hbl hrx hcells hcap
    go_enter Tryz.func29,Tryz.ntmps29
    go_wp2_with fail
    (with_reducible refine HF.out.mono ?_)
    rintro e w1 ⟨rfl,rfl⟩
    go_wp2_with fail
    (with_reducible refine HC.out.mono ?_)
    rintro e w1 ⟨a2,c2',rfl,hcap2,hr2,hb2⟩
    have hA1:=HH.out.below hb2 (Nat.le_refl _)
    have hi1:=hA1.item id x HX.out
    have hfz6:=hi1.frozen 6
    have hfz3:=hi1.frozen 3
    have hiw1:=hi1.cell.2.2.2.2.2.2.2
    obtain⟨_,_,d6,_,_,_⟩:=hi1.row
    obtain⟨_,_,_,d3,_,_,_,_⟩:=hi1.cell
    have HA1:=Lib.hid hA1
    have HR2:=Lib.hid hr2
    have HB2:=Lib.hid hb2
    have HCP:=Lib.hid hcap2
    clear hA1 hr2 hb2 hcap2 hi1
    go_wp2_with fail
    go_ret
    rw[HM.out]
    exact FJ HH.out HB2.out HX.out Hy.out HCP.out HR2.out (by simp)
 ·have hne:(bM T id==0)=false:=by simpa using hf
  have HF:=Lib.hid (qC id _ rfl hf w h hid)
  have HM:Hid (dw T id bs=(bM T id,T)):=by
   unfold dw
   rw[Dk hf,if_neg hf];exact rfl
  obtain⟨k,hk⟩:∃k,k=bM T id:=⟨_,rfl⟩
  rw[←hk]at HF hne HM
  clear hf h hk hok hr hbl
  go_enter Tryz.func29,Tryz.ntmps29
  go_wp2_with fail
  (with_reducible refine HF.out.mono ?_)
  rintro e w1 ⟨rfl,rfl⟩
  go_wp2_with fail
  go_ret
  rw[HM.out]
  exact Turn.same HH.out (Below.refl _ _) rfl
end
def newG (B b:Nat):Own:=if b=B then .items else if b=B+1 then .item 0 else if b=B+2 then .names 0 else .none
theorem Ow {w w1 w2:World} (hi:iN (fun _=>False) w1 0 (w.heap.size+1) (w.heap.size+1+1) (bS 2)) (hb:Below (w.heap.size+1) (w.alloc (.map #[] 0)) w1) (hs:w.heap.size+1+1<w1.heap.size)
  (hM:MapAt aV w2 w.heap.size (bZ aV.lt 0 (ptr (w.heap.size+1)) [])) (hT:w1.mapTurned w2 w.heap.size):
  aH (fun b=>if b=w2.heap.size then .head else newG w.heap.size b) (fun _=>False) (w2.alloc (.cells #[.map (some w.heap.size)] 106)) w2.heap.size w.heap.size (fun _=>w.heap.size+1) (fun _=>w.heap.size+2) nM∧Below w.heap.size w (w2.alloc (.cells #[.map (some w.heap.size)] 106)):=by
 have hsz:=iB hT
 have hK:=fM hT
 have hw3:∀b,b<w2.heap.size→(w2.alloc (.cells #[.map (some w.heap.size)] 106)).heap[b]? =w2.heap[b]? :=fun b hb=>Below.heap_alloc _ _ _ hb
 have hget:∀k x,ah k nM=some x→k=0∧x=bS 2:=fun k x h=>by
  unfold nM at h
  rw[eU]at h
  by_cases hk:(0:Int)=k
  ·rw[if_pos hk]at h;exact⟨hk.symm,by cases h;rfl⟩
  ·rw[if_neg hk]at h;cases h
 have hB0:Below w.heap.size w (w.alloc (.map #[] 0)):=wall w _
 constructor
 ·refine⟨(MapKept.heap_alloc w2 _).1,?_,fun k x hx=> ?_,by simp,?_,fun k x hx=> ?_,fun k x hx _=> ?_,fun _ h=>h.elim,fun b hb=> ?_,fun _ h=>h.elim⟩
  ·have:=hM.kept (hw3 _ (by omega))
   exact this
  ·obtain⟨rfl,rfl⟩:=hget k x hx
   refine hi.move (by simp;omega) ?_ (fun _=> ?_) (fun _ h=>h.elim)
   ·rw[hw3 _ (by omega),hK.block _ (by omega) (by omega)]
   ·rw[hw3 _ (by omega),hK.block _ (by omega) (by omega)]
  ·rw[if_neg (by omega)];simp[newG]
  ·obtain⟨rfl,rfl⟩:=hget k x hx
   rw[if_neg (by omega)];simp[newG]
  ·obtain⟨rfl,rfl⟩:=hget k x hx
   rw[if_neg (by omega)];simp[newG]
  ·rw[World.size_alloc]
   by_cases h1:b=w2.heap.size
   ·omega
   ·rw[if_neg h1]at hb
    unfold newG at hb
    by_cases h2:b=w.heap.size
    ·omega
    ·by_cases h3:b=w.heap.size+1
     ·omega
     ·by_cases h4:b=w.heap.size+2
      ·omega
      ·simp[h2,h3,h4]at hb
 ·refine(hB0.trans (hb.mono (by omega))).trans ⟨hK.os,hK.tape,hK.output,by rw[World.size_alloc];omega,fun b hbw=> ?_⟩
  have:=hb.size
  rw[World.size_alloc]at this
  rw[hw3 _ (by omega),hK.block _ (by omega) (by omega)]
set_option maxHeartbeats 1000000 in
theorem Ox (w:World):Calls Tryz.prog 23 #[] w fun e w'=>∃g mb ib nb p,e= .returned (ptr p)∧aH g (fun _=>False) w' p mb ib nb nM∧(∀b,g b≠ .none→w.heap.size≤b)∧Below w.heap.size w w':=by
 have hmm:= @run_makeMap Tryz.prog
 have HST:Hid (∀w1,Below (w.heap.size+1) (w.alloc (.map #[] 0)) w1→∃w2,(Instr.mapUpdate 104 (.map (some w.heap.size)) (.int .i64 0) (ptr (w.heap.size+1))).run Tryz.prog w1= .ok () w2∧MapAt aV w2 w.heap.size (bZ aV.lt 0 (ptr (w.heap.size+1)) [])∧w1.mapTurned w2 w.heap.size):=fun w1 hb=>by
  have hm1:MapAt aV w1 w.heap.size []:=(MapAt.made (F:=aV) w).kept (hb.block _ (by omega))
  exact hm1.ru aV Tryz.underlying104 (by show 0<maxLen;unfold maxLen;omega) 0 _ (lC (by omega) (by omega))
 go_enter Tryz.func23,Tryz.ntmps23
 go_wp2_with fail
 (with_reducible refine(vJ _ _ _).mono ?_)
 rintro e w1 ⟨rfl,hi1,hb1,hs1,hs2⟩
 rw[World.size_alloc]at hi1 hb1 hs1 hs2
 obtain⟨w2,Y4,hM2,TV⟩:=HST.out w1 hb1
 have HI1:=Lib.hid hi1
 have HB1:=Lib.hid hb1
 have FK:=Lib.hid hM2
 have HT2:=Lib.hid TV
 have hs3:=hs2 rfl
 clear hi1 hb1 hM2 TV hs2
 go_wp2_with fail
 go_ret
 obtain⟨h1,h2⟩:=Ow HI1.out HB1.out hs3 FK.out HT2.out
 refine⟨_,_,_,_,_,rfl,h1,fun b hb=> ?_,h2⟩
 have h3:=HB1.out.size
 rw[World.size_alloc]at h3
 have h4:=iB HT2.out
 by_cases e1:b=w2.heap.size
 ·omega
 ·rw[if_neg e1]at hb
  unfold newG at hb
  by_cases e2:b=w.heap.size
  ·omega
  ·by_cases e3:b=w.heap.size+1
   ·omega
   ·by_cases e4:b=w.heap.size+2
    ·omega
    ·simp[e2,e3,e4]at hb
theorem Hz:fB nM:=by
 have hget:∀k x,ah k nM=some x→k=0∧x=bS 2:=fun k x h=>by
  unfold nM at h
  rw[eU]at h
  by_cases hk:(0:Int)=k
  ·rw[if_pos hk]at h;exact⟨hk.symm,by cases h;rfl⟩
  ·rw[if_neg hk]at h;cases h
 refine⟨⟨by simp[nM,aI],rfl,fun k x hx=> ?_,fun k x hx e he=> ?_,by simp[nM],fun k x hx=> ?_⟩,fun k x hx hk=> ?_⟩
 ·obtain⟨rfl,rfl⟩:=hget k x hx;exact Ap (.inr rfl)
 ·obtain⟨rfl,rfl⟩:=hget k x hx;cases he
 ·obtain⟨rfl,rfl⟩:=hget k x hx;omega
 ·exact absurd (hget k x hx).1 hk
section
variable {g:Nat→Own} {D:Nat→Prop} {p mb:Nat} {ib nb:Int→Nat} {T:aF}
set_option maxHeartbeats 1000000 in
theorem Ll (id:Int) (hd:lV T id≠0) (w:World) (h:aH g D w p mb ib nb T) (hid:(Lit.int .i64 id).wf=true):
  Calls Tryz.prog 111 #[ptr p, .int .i64 id] w (Turn g D w p mb (eD T id).2 (.int .i64 (eD T id).1)):=by
 have HH:=Lib.hid h
 have hcb:(w.alloc (.cells #[.int .i64 id] 3)).cell? ⟨w.heap.size,0,none⟩=some (.int .i64 id):=oQ
 have hA:=h.below (wall w (.cells #[.int .i64 id] 3)) (Nat.le_refl _)
 by_cases hf:bM T id=0
 ·obtain⟨x,hx,hk⟩:=mO hf
  have HF:=Lib.hid (rE id hx hk _ hA hid)
  obtain⟨c0,c1,c2,c3,c4,c5,c7,hiw⟩:=(h.item id x hx).cell
  have hE:lV T id=if x.closed then 27 else 0:=by unfold lV;rw[hx];simp only[if_neg hk]
  cases hcl:x.closed with
  |false=>exact absurd (by rw[hE,hcl];rfl) hd
  |true=>
   have HM:Hid (eD T id=(27,T)):=by
    unfold eD
    rw[hE,hcl];simp only[if_pos];exact rfl
   rw[hcl]at c5
   clear hE hcl hx hk hf h c7 hA hd
   go_enter Tryz.func111,Tryz.ntmps111
   go_wp2_with fail
   (with_reducible refine HF.out.mono ?_)
   rintro e w1 ⟨rfl,rfl⟩
   go_wp2_with fail
   go_ret
   rw[HM.out]
   exact Turn.same HH.out (wall w _) rfl
 ·have hne:(bM T id==0)=false:=by simpa using hf
  have HF:=Lib.hid (qC id _ rfl hf _ hA hid)
  have HM:Hid (eD T id=(bM T id,T)):=by
   unfold eD
   rw[I9 hf,if_neg hf];exact rfl
  obtain⟨k,hk⟩:∃k,k=bM T id:=⟨_,rfl⟩
  rw[←hk]at HF hne HM
  clear hf h hk hA hd
  go_enter Tryz.func111,Tryz.ntmps111
  go_wp2_with fail
  (with_reducible refine HF.out.mono ?_)
  rintro e w1 ⟨rfl,rfl⟩
  go_wp2_with fail
  go_ret
  rw[HM.out]
  exact Turn.same HH.out (wall w _) rfl
end
end Go.Proofs.YtjnhnlabpccgjaaGreat
