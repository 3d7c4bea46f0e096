/- DERIVED: THE SHELF's CONTRACTS AT THIS DUMP, IN PLAIN WORDS (tools/lay-plain.mjs out of 'YtjnhnlabpccgjaaGreatLaypGrowLay.lean', which tools/lay-shelf.mjs wrote): THE SAME DECLARATIONS UNDER THE SAME NAMES: 'import', 'namespace', 'open', 'def', 'theorem' AND NOTHING ELSE: no command of the shelf's: FOR A HAND-IN. Each laying: the table of numbers ('.._ren') and one theorem, a field a fact of the dump's own or the kernel's comparison; each contract: ONE APPLICATION. slices.Concat of rows of bytes. slices.Clone of bytes. tree: Seal, Keep, Part, Read, Append. tree: Part, Read, Append. tree: Read, Append. tree: New; Drop refused. tree: Link. A law's own tree, beside what else is the law's. Marks on blocks: whose they are; a tree whose own blocks bear one mark, and its bytes none. -/
import Derived.Test.YtjnhnlabpccgjaaGreatProg
import Derived.Shelf.Spec.SlicesGrow
import Derived.Test.YtjnhnlabpccgjaaGreatM10
import Derived.Test.YtjnhnlabpccgjaaGreatM03
import Derived.Lib.SliceRun
import Derived.Test.YtjnhnlabpccgjaaGreatM09
namespace Go.Proofs
open Go.Shelf
def Tryz.vF:Go.Shelf.Ren:=⟨fun|4=>138|n=>n,fun|22=>23|25=>5|3=>3|4=>4|9=>9|20=>20|0=>0|n=>n,fun|n=>n⟩
theorem Tryz.TL:Go.Proofs.Lays8.n4 Tryz.prog Tryz.vF:={
 mixed:=by kernel_rfl
 f4:=⟨Tryz.f138.name,by decide,Tryz.func138.trans (congrArg some (by kernel_rfl))⟩
 t0:=Tryz.underlying0
 a0:=Tryz.isAgg0
 z0:=Tryz.sizeOf0
 v0:=Tryz.zeroValue0
 t3:=Tryz.underlying3
 a3:=Tryz.isAgg3
 z3:=Tryz.sizeOf3
 v3:=Tryz.zeroValue3
 t4:=Tryz.underlying4
 a4:=Tryz.isAgg4
 z4:=Tryz.sizeOf4
 v4:=Tryz.zeroValue4
 t9:=Tryz.underlying9
 a9:=Tryz.isAgg9
 z9:=Tryz.sizeOf9
 v9:=Tryz.zeroValue9
 t20:=Tryz.underlying20
 a20:=Tryz.isAgg20
 z20:=Tryz.sizeOf20
 v20:=Tryz.zeroValue20
 t22:=Tryz.underlying23
 a22:=Tryz.isAgg23
 z22:=Tryz.sizeOf23
 v22:=Tryz.zeroValue23}
end Go.Proofs
namespace Go.Proofs.YtjnhnlabpccgjaaGreat
open Go.ChangeShapes Go.WideShapes Go.ChangeAt Go.RowKit
set_option linter.unusedVariables false
set_option linter.unusedSimpArgs false
theorem Nr (n:Nat) (w:World) (hn:n≤1000000000):
  Calls Tryz.prog 138 #[.slice none 0 0, .int .i64 n] w fun e w'=>∃v,e= .returned v∧w'.ownsRow w.heap.size 5 1 v 0 []∧Below w.heap.size w w':=by
 obtain⟨i0,hi,hz0,hz1,hz2⟩:=info_parts Tryz.Br
 by_cases h0:n=0
 ·subst h0
  refine(Any8.slices_Grow_room Tryz.TL none 0 0 0 w (by omega) (by omega) (by omega) (by omega)).mono ?_
  rintro e w' ⟨rfl,rfl⟩
  exact⟨_,rfl,⟨rfl, .inl ⟨rfl,rfl⟩⟩,Below.refl _ _⟩
 ·refine(Any8.slices_Grow_grow Tryz.TL i0 (.int .u8 0) hi hz0 (by rw[hz1];omega) none 0 0 n [] w (by omega) (by omega) (by rw[hz2];omega) (by omega) (by simp) (fun _=>rfl) (fun a h=>by cases h)).mono ?_
  rintro e w' ⟨rfl,rfl⟩
  have h1:=grownCap_ge w (0+n) 0 (Tryz.vF.t 25)
  have h2:=grownCap_le_maxLen w (0+n) 0 (Tryz.vF.t 25) (by unfold maxLen;omega)
  refine⟨_,rfl,⟨rfl, .inr ⟨w.heap.size,_,_,rfl,Nat.le_refl _,(MapKept.heap_alloc w.drew _).1,Nat.zero_le _,h2,?_,rfl⟩⟩,((Below.refl _ _).drew).alloc (Nat.le_refl _) _⟩
  have e1:(Value.cells (.int .u8 0)).size=1:=rfl
  simp only[Array.size_append,size_zeroCells,List.size_toArray,List.length_nil,e1]
  omega
theorem vG {w:World} {base:Nat} {e:TypeId} {size:Nat} {v:Value} {n:Nat} {xs:List Value} (h:w.ownsRow base e size v n xs):∃a c,v= .slice a n c∧n≤c∧c≤maxLen:=by
 rcases h.2 with⟨rfl,rfl⟩|⟨g,cap,cur,rfl,_,_,h,h',_⟩
 ·exact⟨_,_,rfl,Nat.le_refl _,Nat.zero_le _⟩
 ·exact⟨_,_,rfl,h,h'⟩
theorem oO (fO:List (List UInt8)) (k:Nat) (bs:List UInt8) (h:fO[k]? =some bs):(fO.take (k+1)).flatten=(fO.take k).flatten++bs:=by
 obtain⟨hk,e⟩:=List.getElem?_eq_some_iff.1 h
 rw[List.take_succ_eq_append_getElem hk,List.flatten_append,e]
 simp
theorem QX (fO:List (List UInt8)) (k:Nat):(fO.take k).flatten.length≤fO.flatten.length:=by
 conv=>rhs;rw[←List.take_append_drop k fO,List.flatten_append]
 simp
def pQ (fO:List (List UInt8)) (k:Nat):List UInt8:=(fO.take k).flatten
def nW (fO:List (List UInt8)) (k:Nat):Nat:=(pQ fO k).length
set_option maxRecDepth 100000 in
set_option maxHeartbeats 4000000 in
theorem Gp {S:Nat→Prop} (B n:Nat) (fO:List (List UInt8)) (w:World) (hn:n=fO.length) (hn2:n≤1000) (hB:B<w.heap.size) (htot:fO.flatten.length≤1000000000)
  (hc:∀k,k<n→∃a l c bs,w.cell? ⟨B,k,none⟩=some (.slice a l c)∧ah S w a l (bs.map bv)∧fO[k]? =some bs):
  Calls Tryz.prog 78 #[.slice (some ⟨B,0,none⟩) n n] w fun e w'=>∃a c,e= .returned (.slice a fO.flatten.length c)∧(fO.flatten.length≤c∧c≤maxLen)∧ah (fun x=>w.heap.size≤x∧x<w'.heap.size) w' a fO.flatten.length (fO.flatten.map bv)∧Below w.heap.size w w':=by
 obtain⟨i0,hi,hz0,hz1,hz2⟩:=info_parts Tryz.Br
 have HN:=Lib.hid hn
 have HC:=Lib.hid hc
 have hle:∀k,nW fO k≤fO.flatten.length:=fun k=>QX fO k
 obtain⟨N,hN⟩:∃N,N=fO.flatten.length:=⟨_,rfl⟩
 obtain⟨fl,Gq⟩:∃fl,fl=fO.flatten:=⟨_,rfl⟩
 rw[←hN]at htot hle⊢
 rw[←Gq]
 have pJ:=Lib.hid hN
 have HFF:=Lib.hid Gq
 clear hN Gq
 have vH:=Lib.hid hle
 have hG:=Nr N w htot
 have HG:=Lib.hid hG
 clear hn hc hle hG
 go_enter Tryz.func78,Tryz.ntmps78
 go_wp2
 go_loop [3,11] (fun s i=>∃k:Nat,k≤n∧i= .int .i64 k∧s= .int .i64 (nW fO k)) (fun _ i=>n-(intOf i).toNat)
 case atStart=>exact⟨0,by omega,rfl,rfl⟩
 case round=>
  obtain⟨k,hk,rfl,rfl⟩:=hrel
  have hlk:=vH.out k
  by_cases hlt:k<n
  ·obtain⟨a,l,c,bs,hcell,hS,hp⟩:=HC.out k hlt
   have hll:l=bs.length:=by have:=hS.length;simpa using this.symm
   subst hll
   have A_:Hid (nW fO (k+1)=nW fO k+bs.length):=by unfold nW pQ;rw[oO fO k bs hp,List.length_append];exact rfl
   have hlk2:nW fO k+bs.length≤1000000000:=by have:=A_.out;have:=vH.out (k+1);omega
   clear hp hS
   go_wp2
   go_round
   case rel=>exact⟨k+1,by omega,by go_num,by rw[A_.out];go_num⟩
   case measure=>simp[intOf];omega
  ·obtain rfl:n=k:=by omega
   have HT:Hid (pQ fO n=fl∧nW fO n=N):=by
    have:fO.take n=fO:=List.take_of_length_le (by have:=HN.out;omega)
    unfold nW pQ
    rw[this];exact⟨HFF.out.symm,pJ.out.symm⟩
   rw[HT.out.2]
   go_wp2_with fail
   (with_reducible refine HG.out.mono ?_)
   rintro e w1 ⟨v,rfl,hown,hb1⟩
   have HB1:=Lib.hid hb1
   have hown0:w1.ownsRow w.heap.size 5 1 v (nW fO 0) ((pQ fO 0).map bv):=hown
   have HO:=Lib.hid hown0
   clear hb1 hown hown0 HG
   go_wp2_with fail
   go_loopw [6,27] (fun v i wr=>∃k:Nat,k≤n∧i= .int .i64 k∧wr.ownsRow w.heap.size 5 1 v (nW fO k) ((pQ fO k).map bv)∧Below w.heap.size w wr) (fun _ i _=>n-(intOf i).toNat)
   case atStart=>exact⟨0,by omega,rfl,HO.out,HB1.out⟩
   case round=>
    obtain⟨k,hk,rfl,hown,hb⟩:=hrel
    have hbs:=hb.size
    by_cases hlt:k<n
    ·obtain⟨a,l,c,bs,hcell0,hS,hp⟩:=HC.out k hlt
     have hcell:=(hb.cell (p:=⟨B,k,none⟩) hB).trans hcell0
     have A_:Hid (pQ fO (k+1)=pQ fO k++bs∧nW fO (k+1)=nW fO k+bs.length):=by unfold nW pQ;rw[oO fO k bs hp,List.length_append];exact⟨rfl,rfl⟩
     have hll:l=bs.length:=by have:=hS.length;simpa using this.symm
     subst hll
     have hlk2:nW fO k+bs.length≤1000000000:=by have:=A_.out.2;have:=vH.out (k+1);omega
     have HS:=Lib.hid (hS.below hb (Nat.le_refl _))
     have HOW:=Lib.hid hown
     have HB:=Lib.hid hb
     clear hp hS hown hb hcell0 hlk
     go_wp2_with (at_builtin;refine aO (by rfl) _ _ 23 (by rfl) w.heap.size 5 i0 (.int .u8 0) 1 Tryz.underlying23 hi hz0 hz1 hz2 rfl _ _ _ (by rfl) HOW.out a bs.length c (bs.map bv) (by rfl) HS.out (dH bs) (by unfold maxLen;omega) (by omega) hbs ?_;intro A' c' w2 hown2 hgrow2 _ _)
     have CO:=Lib.hid hown2
     have HG2:=Lib.hid hgrow2
     clear hown2 hgrow2
     go_roundw
     case rel=>
      refine⟨k+1,by omega,by go_num,?_,HB.out.grown HG2.out hbs (bY HOW.out)⟩
      rw[A_.out.1,A_.out.2,List.map_append]
      exact CO.out
     case measure=>simp[intOf];omega
    ·obtain rfl:n=k:=by omega
     rw[HT.out.1,HT.out.2]at hown
     obtain⟨a,c,rfl,hac⟩:=vG hown
     have HOW:=Lib.hid hown
     have HB:=Lib.hid hb
     clear hown hb
     go_wp2
     go_ret
     exact⟨a,c,rfl,hac,(ah.lg HOW.out).2,HB.out⟩
section
variable {g:Nat→Own} {D:Nat→Prop} {p mb:Nat} {ib nb:Int→Nat} {T:aA}
theorem Turn.of {w w':World} {MJ nb':Int→Nat} {T':aA} {v:Value} {e:Ending} (he:e= .returned v) (h:aH g D w' p mb MJ nb' T') (hK:Keeps (fun b=>g b≠ .none) w w'):Turn g D w p mb T' v e w':=
 ⟨he,g,D,MJ,nb',h,fun b h=> .inl h,fun b h=> .inl h,hK⟩
theorem sZ {id:Int} (h:dG T id=0):∃x,aj id T=some x∧x.kind≠2:=by
 unfold dG at h
 cases hx:aj id T with
 |none=>rw[hx]at h;cases h
 |some x=>
  rw[hx]at h
  by_cases hk:x.kind=2
  ·simp only[if_pos hk]at h;cases h
  ·exact⟨x,rfl,hk⟩
theorem Ke {id aP:Int} (h:dG T id≠0):qB T id aP=dG T id:=by
 unfold dG at h⊢
 unfold qB
 cases hx:aj id T with
 |none=>rfl
 |some x=>
  rw[hx]at h
  by_cases hk:x.kind=2
  ·simp only[if_pos hk]
  ·simp only[if_neg hk]at h;exact absurd rfl h
theorem Ed {id:Int} {b:List UInt8} (h:dG T id≠0):jH T id b=dG T id:=by
 unfold dG at h⊢
 unfold jH
 cases hx:aj id T with
 |none=>rfl
 |some x=>
  rw[hx]at h
  by_cases hk:x.kind=2
  ·simp only[if_pos hk]
  ·simp only[if_neg hk]at h;exact absurd rfl h
theorem Kg {id:Int} (h:dG T id≠0):gK T id=dG T id:=by
 unfold dG at h⊢
 unfold gK
 cases hx:aj id T with
 |none=>rfl
 |some x=>
  rw[hx]at h
  by_cases hk:x.kind=2
  ·simp only[if_pos hk]
  ·simp only[if_neg hk]at h;exact absurd rfl h
set_option maxHeartbeats 4000000 in
theorem QY (id aP:Int) (w:World) (h:aH g D w p mb ib nb T) (hid:(Lit.int .i64 id).wf=true) (ht0:0≤aP) (ht1:aP≤18446744073709551615):
  Calls Tryz.prog 31 #[ptr p, .int .i64 id, .int .u64 aP] w (Turn g D w p mb (fC T id aP).2 (.int .i64 (fC T id aP).1)):=by
 have HH:=Lib.hid h
 by_cases hf:dG T id=0
 ·obtain⟨x,hx,hk⟩:=sZ hf
  have HF:=Lib.hid (xU id hx hk w h hid)
  obtain⟨c0,c1,c2,c3,c4,c5,c7,hiw⟩:=(h.item id x hx).cell
  have HX:=Lib.hid hx
  have hE:qB T id aP=if x.closed then 27 else if 1099511627776<aP then 1 else 0:=by unfold qB;rw[hx];simp only[if_neg hk]
  have HE:=Lib.hid hE
  cases hcl:x.closed with
  |true=>
   have HM:Hid (fC T id aP=(27,T)):=by
    unfold fC
    rw[HE.out,hcl];simp only[if_pos];exact rfl
   rw[hcl]at c5
   clear hE hcl hx hk hf h c7
   go_enter Tryz.func31,Tryz.ntmps31
   go_wp2_with fail
   (with_reducible refine HF.out.mono ?_)
   rintro e w1 ⟨rfl,rfl⟩
   go_wp2_with fail
   go_ret
   rw[HM.out]
   exact Turn.same HH.out (Below.refl _ _) rfl
  |false=>
   rw[hcl]at c5
   by_cases htl:1099511627776<aP
   ·have HM:Hid (fC T id aP=(1,T)):=by
     unfold fC
     rw[HE.out,hcl];simp only[Bool.false_eq_true,if_false,if_pos htl];exact rfl
    clear hE hcl hx hk hf h c7
    go_enter Tryz.func31,Tryz.ntmps31
    go_wp2_with fail
    (with_reducible refine HF.out.mono ?_)
    rintro e w1 ⟨rfl,rfl⟩
    go_wp2_with fail
    go_ret
    rw[HM.out]
    exact Turn.same HH.out (Below.refl _ _) rfl
   ·have HM:Hid (fC T id aP=(0,fG (aX id (fun x=>{x with closed:=true,aP:=aP}) T) id)):=by
     unfold fC
     rw[HE.out,hcl];simp only[Bool.false_eq_true,if_false,if_neg htl];exact rfl
    have hfz4:=(h.item id x hx).frozen 4
    have hfz5:=(h.item id x hx).frozen 5
    have hA1:aH g D ((w.setCell ⟨ib id,5,none⟩ (.bool true)).setCell ⟨ib id,4,none⟩ (.int .u64 aP)) p mb ib nb (aX id (fun x=>{x with closed:=true,aP:=aP}) T):=by
     refine h.fields hx (fun x=>{x with closed:=true,aP:=aP}) rfl rfl rfl (Keeps.set2 w _ _ _ _ _) (by rw[size_set,size_set]) fun a c hc=> ?_
     rw[aG (aG hc)]
     rfl
    have hx1:aj id (aX id (fun x=>{x with closed:=true,aP:=aP}) T)=some {x with closed:=true,aP:=aP}:=by rw[bg,if_pos rfl,hx];rfl
    have HS:=Lib.hid (yR id hx1 hid _ hA1)
    have hgi:=h.nk id x hx
    have hgm:=h.iH
    have HGI:Hid (∀b,(b=ib id∨b=mb)→g b≠ .none):=fun b hb=>by
     rcases hb with rfl|rfl
     ·rw[hgi];simp
     ·rw[hgm];simp
    clear hE hcl hx hk hf h c7 hA1 hx1 hgi hgm
    go_enter Tryz.func31,Tryz.ntmps31
    go_wp2_with fail
    (with_reducible refine HF.out.mono ?_)
    rintro e w1 ⟨rfl,rfl⟩
    go_wp2_with fail
    (with_reducible refine HS.out.mono ?_)
    rintro e w1 ⟨rfl,hA2,hK2,hs2⟩
    have HA2:=Lib.hid hA2
    have BI:=Lib.hid hK2
    clear hA2 hK2
    go_wp2_with fail
    go_ret
    rw[HM.out]
    exact Turn.of rfl HA2.out (((Keeps.set2 w (ib id) 5 4 _ _).mono fun b _ hb=>HGI.out b (.inl hb)).trans (BI.out.mono fun b _ hb=>HGI.out b (.inr hb)) (fun _ _ h=>h))
 ·have hne:(dG T id==0)=false:=by simpa using hf
  have HF:=Lib.hid (yQ id _ rfl hf w h hid)
  have HM:Hid (fC T id aP=(dG T id,T)):=by
   unfold fC
   rw[Ke hf,if_neg hf];exact rfl
  obtain⟨k,hk⟩:∃k,k=dG T id:=⟨_,rfl⟩
  rw[←hk]at HF hne HM
  clear hf h hk
  go_enter Tryz.func31,Tryz.ntmps31
  go_wp2_with fail
  (with_reducible refine HF.out.mono ?_)
  rintro e w1 ⟨rfl,rfl⟩
  go_wp2_with fail
  go_ret
  rw[HM.out]
  exact Turn.same HH.out (Below.refl _ _) rfl
end
def ou (w:World) (bs:List UInt8) (e:Ending) (w':World):Prop:=
 ∃a n c,e= .returned (.slice a n c)∧n≤c∧ah (fun x=>w.heap.size≤x∧x<w'.heap.size) w' a n (bs.map bv)∧Below w.heap.size w w'
def eO (w:World) (bs:List UInt8) (e:Ending) (w':World):Prop:=
 ∃a c,e= .returned (.slice a bs.length c)∧w'.ownsRow w.heap.size 5 1 (.slice a bs.length c) bs.length (bs.map bv)∧Below w.heap.size w w'
theorem Kh {w:World} {B B':Nat} {e:TypeId} {s:Nat} {v:Value} {n:Nat} {xs:List Value} (h:w.ownsRow B e s v n xs) (hB:B'≤B):w.ownsRow B' e s v n xs:=by
 refine⟨h.1,?_⟩
 rcases h.2 with h1|⟨g,cap,cur,e1,hg,r⟩
 ·exact .inl h1
 ·exact .inr ⟨g,cap,cur,e1,Nat.le_trans hB hg,r⟩
theorem eO.ret {w w':World} {bs:List UInt8} {e:Ending} (h:eO w bs e w'):ou w bs e w':=by
 obtain⟨a,c,rfl,ho,hb⟩:=h
 obtain⟨a1,c1,e1,hc⟩:=cO ho
 cases e1
 exact⟨a,_,c,rfl,hc,(ah.lg ho).2,hb⟩
set_option maxHeartbeats 1000000 in
theorem Gs {S:Nat→Prop} (a:Option Addr) (n cap:Nat) (bs:List UInt8) (w:World) (hm:n≤1000000000) (hr:ah S w a n (bs.map bv)):
  Calls Tryz.prog 96 #[.slice a n cap] w (ou w bs):=by
 obtain⟨i0,hi,hz0,hz1,hz2⟩:=info_parts Tryz.Br
 have hll:bs.length=n:=by have:=hr.length;simpa using this
 have heq:=fun w=>Lib.run_eql_slice_nil (P:=Tryz.prog) w 23 5 a n cap 0 0 Tryz.underlying23
 have HR:=Lib.hid hr
 have HL:=Lib.hid hll
 clear hr hll
 cases a with
 |none=>
  have h0:n=0:=by
   rcases Nat.eq_zero_or_pos n with h0|h0
   ·exact h0
   ·obtain⟨_,_,e,_⟩:=HR.out.at_ h0
    cases e
  subst h0
  have hb0:bs=[]:=List.eq_nil_of_length_eq_zero HL.out
  subst hb0
  go_enter Tryz.func96,Tryz.ntmps96
  go_wp2
  go_ret
  exact⟨none,0,_,rfl,Nat.zero_le _,ah.nil _ _ _,Below.refl _ _⟩
 |some ad=>
  have hsz:(w.alloc (.cells #[] 5)).heap.size=w.heap.size+1:=by simp
  have HS:=Lib.hid (HR.out.below (wall w (.cells #[] 5)) (Nat.le_refl _))
  go_enter Tryz.func96,Tryz.ntmps96
  go_wp2_with ((at_builtin;refine aO (by rfl) _ _ 23 (by rfl) w.heap.size 5 i0 (.int .u8 0) 1 Tryz.underlying23 hi hz0 hz1 hz2 rfl _ 0 [] (by rfl) ⟨rfl, .inr ⟨w.heap.size,0,#[],rfl,Nat.le_refl _,(MapKept.heap_alloc w _).1,Nat.le_refl _,Nat.zero_le _,rfl,rfl⟩⟩ (some ad) n cap (bs.map bv) (by rfl) HS.out (dH bs) (by unfold maxLen;omega) (by omega) (by simp) ?_;intro A' c' w2 hown2 hgrow2 _ _))
  go_ret
  have hB2:Below w.heap.size w w2:=(wall w _).grown hgrow2 (by simp) (fun k hk=>by cases hk;exact Nat.le_refl _)
  obtain⟨a3,c3,e3,hac⟩:=cO hown2
  cases e3
  refine⟨_,n,_,rfl,by omega,?_,hB2⟩
  have hro:=(ah.lg hown2).2
  rw[List.nil_append]at hro
  simpa only[Nat.zero_add]using hro
set_option maxHeartbeats 1000000 in
theorem Ee {S:Nat→Prop} (a:Option Addr) (n cap:Nat) (bs:List UInt8) (w:World) (hn0:0<n) (hm:n≤1000000000) (hr:ah S w a n (bs.map bv)):
  Calls Tryz.prog 96 #[.slice a n cap] w (eO w bs):=by
 obtain⟨i0,hi,hz0,hz1,hz2⟩:=info_parts Tryz.Br
 have hll:bs.length=n:=by have:=hr.length;simpa using this
 have heq:=fun w=>Lib.run_eql_slice_nil (P:=Tryz.prog) w 23 5 a n cap 0 0 Tryz.underlying23
 have HR:=Lib.hid hr
 have HL:=Lib.hid hll
 clear hr hll
 obtain⟨ad,rfl⟩:∃ad,a=some ad:=by
  obtain⟨b,off,e,_⟩:=HR.out.at_ hn0
  exact⟨_,e⟩
 have hsz:(w.alloc (.cells #[] 5)).heap.size=w.heap.size+1:=by simp
 have HS:=Lib.hid (HR.out.below (wall w (.cells #[] 5)) (Nat.le_refl _))
 go_enter Tryz.func96,Tryz.ntmps96
 go_wp2_with ((at_builtin;refine aO (by rfl) _ _ 23 (by rfl) w.heap.size 5 i0 (.int .u8 0) 1 Tryz.underlying23 hi hz0 hz1 hz2 rfl _ 0 [] (by rfl) ⟨rfl, .inr ⟨w.heap.size,0,#[],rfl,Nat.le_refl _,(MapKept.heap_alloc w _).1,Nat.le_refl _,Nat.zero_le _,rfl,rfl⟩⟩ (some ad) n cap (bs.map bv) (by rfl) HS.out (dH bs) (by unfold maxLen;omega) (by omega) (by simp) ?_;intro A' c' w2 hown2 hgrow2 _ _))
 go_ret
 have hB2:Below w.heap.size w w2:=(wall w _).grown hgrow2 (by simp) (fun k hk=>by cases hk;exact Nat.le_refl _)
 have hl:=HL.out
 subst hl
 rw[Nat.zero_add]at hown2
 exact⟨A',c',rfl,by simpa using hown2,hB2⟩
section
variable {g:Nat→Own} {D:Nat→Prop} {p mb:Nat} {ib nb:Int→Nat} {T:aA}
theorem yS {S S':Nat→Prop} (a:Option Addr) (l c:Nat) (x:List UInt8) (a':Option Addr) (l' c':Nat) (y:List UInt8) (w:World) (hx:ah S w a l (x.map bv)) (hy:ah S' w a' l' (y.map bv)) (ht:l+l'≤1000000000):
  Calls Tryz.prog 78 #[.slice (some ⟨w.heap.size,0,none⟩) 2 2] (w.alloc (.cells #[.slice a l c, .slice a' l' c'] 23)) fun e w'=>∃a2 c2,e= .returned (.slice a2 (l+l') c2)∧kV (l+l') c2∧ah (fun b=>w.heap.size≤b∧b<w'.heap.size) w' a2 (l+l') ((x++y).map bv)∧Below w.heap.size w w':=by
 have e1:x.length=l:=by have:=hx.length;simpa using this
 have e2:y.length=l':=by have:=hy.length;simpa using this
 have e3:([x,y]:List (List UInt8)).flatten=x++y:=by simp
 have e4:(x++y).length=l+l':=by rw[List.length_append,e1,e2]
 refine(Gp (S:=fun b=>S b∨S' b) w.heap.size 2 [x,y] _ rfl (by omega) (by simp) (by rw[e3,e4];exact ht) (fun k hk=> ?_)).mono ?_
 ·rcases (show k=0∨k=1 by omega)with rfl|rfl
  ·exact⟨a,l,c,x,uy.1,(hx.below (wall w _) (Nat.le_refl _)).mono fun _=> .inl,rfl⟩
  ·exact⟨a',l',c',y,uy.2,(hy.below (wall w _) (Nat.le_refl _)).mono fun _=> .inr,rfl⟩
 ·rintro e w' ⟨a2,c2,rfl,hc2,hr,hb⟩
  rw[e3,e4]at hr hc2
  rw[e3,e4]
  exact⟨a2,c2,rfl,hc2,hr.mono fun b hb=>⟨by simp at hb;omega,hb.2⟩,(wall w _).trans (hb.mono (by simp))⟩
theorem Gt {w w1:World} {id:Int} {x:bq} {bs:List UInt8} {a2:Option Addr} {l c2:Nat} {v3 v:Value} (h:aH g D w p mb ib nb T) (hb:Below w.heap.size w w1) (hx:aj id T=some x) (hl:bs.length=l) (hcap:kV (x.b.length+l) c2)
  (hr:ah (fun b=>w.heap.size≤b∧b<w1.heap.size) w1 a2 (x.b.length+l) ((x.b++bs).map bv)) (h3:v3= .int .i64 ((x.b.length+l:Nat):Int)):
  Turn g D w p mb (aX id (fun x=>{x with b:=x.b++bs}) T) v (.returned v) ((w1.setCell ⟨ib id,6,none⟩ (.slice a2 (x.b.length+l) c2)).setCell ⟨ib id,3,none⟩ v3):=by
 subst h3
 have hA1:=h.below hb (Nat.le_refl _)
 have ti:=h.nk id x hx
 have hs:=hb.size
 have hK:=Keeps.set2 w1 (ib id) 6 3 (.slice a2 (x.b.length+l) c2) (.int .i64 ((x.b.length+l:Nat):Int))
 obtain⟨ax,cx,_,_,_,hc⟩:=(hA1.item id x hx).row
 have hlen:(x.b++bs).length=x.b.length+l:=by rw[List.length_append,hl]
 refine⟨rfl,g,fun b=>D b∨(w.heap.size≤b∧b<w1.heap.size),ib,nb,?_,fun b h=> .inl h,fun b hb=>hb.imp (fun h=>h) fun h=>h.1,?_⟩
 ·refine hA1.aX hx rfl (fun _ h=> .inl h) (fun b hb=> ?_) (by rw[size_set,size_set];exact Nat.le_refl _) (fun b hbw h1 _=>hK.block b hbw (fun e=>h1 (by rw[e];exact ti))) ?_
  ·rw[size_set,size_set]
   rcases hb with hb|hb
   ·exact⟨hA1.data b hb,hA1.mh b hb⟩
   ·refine⟨?_,hb.2⟩
    cases hg:g b with
    |none=>rfl
    |_=>have:=h.low b (by rw[hg];simp);omega
  ·refine⟨⟨a2,c2,?_,by rw[hlen];exact hcap,?_⟩,fun hk=> ?_⟩
   ·rw[aG (aG hc)]
    simp only[gP,hlen]
    rfl
   ·rw[hlen]
    refine hr.move hK.size fun b hb hbw=>⟨.inr hb,hK.block b hbw ?_⟩
    have:=h.low (ib id) (by rw[ti];simp)
    omega
   ·have tn:=h.kZ id x hx hk
    have e:dV {x with b:=x.b++bs}=dV x:=rfl
    rw[e]
    exact((hA1.item id x hx).names hk).kept (hK.block _ (hA1.low _ (by rw[tn];simp)) (fun e=>by rw[e,ti]at tn;cases tn))
 ·have hgi:g (ib id)≠ .none:=by rw[ti];simp
  exact⟨hK.os.trans hb.os,hK.tape.trans hb.tape,hK.output.trans hb.output,Nat.le_trans hs hK.size,fun b hbw hbg=>(hK.block b (by omega) (fun e=>hbg (by rw[e];exact hgi))).trans (hb.block b hbw)⟩
set_option maxRecDepth 100000 in
set_option maxHeartbeats 4000000 in
theorem Ki {S:Nat→Prop} (id:Int) (a:Option Addr) (l c:Nat) (bs:List UInt8) (w:World) (h:aH g D w p mb ib nb T) (hok:∀x,aj id T=some x→x.b.length≤4096) (hid:(Lit.int .i64 id).wf=true) (hr:ah S w a l (bs.map bv)) (hl:l≤1000000000):
  Calls Tryz.prog 29 #[ptr p, .int .i64 id, .slice a l c] w (Turn g D w p mb (bT T id bs).2 (.int .i64 (bT T id bs).1)):=by
 have HH:=Lib.hid h
 have hbl:bs.length=l:=by have:=hr.length;simpa using this
 by_cases hf:dG T id=0
 ·obtain⟨x,hx,hk⟩:=sZ hf
  have HF:=Lib.hid (xU id hx hk w h hid)
  obtain⟨c0,c1,c2,c3,c4,c5,c7,hiw⟩:=(h.item id x hx).cell
  have hxb:=hok x hx
  have hE:jH T id bs=if x.closed then 27 else if 4096<x.b.length+l then 15 else 0:=by unfold jH;rw[hx,hbl];simp only[if_neg hk]
  have HE:=Lib.hid hE
  cases hcl:x.closed with
  |true=>
   have HM:Hid (bT T id bs=(27,T)):=by
    unfold bT
    rw[HE.out,hcl];simp only[if_pos];exact rfl
   rw[hcl]at c5
   clear hE hcl hx hk hf h c7 hok hr hbl
   go_enter Tryz.func29,Tryz.ntmps29
   go_wp2_with fail
   (with_reducible refine HF.out.mono ?_)
   rintro e w1 ⟨rfl,rfl⟩
   go_wp2_with fail
   go_ret
   rw[HM.out]
   exact Turn.same HH.out (Below.refl _ _) rfl
  |false=>
   rw[hcl]at c5
   by_cases hbig:4096<x.b.length+l
   ·have HM:Hid (bT T id bs=(15,T)):=by
     unfold bT
     rw[HE.out,hcl];simp only[Bool.false_eq_true,if_false,if_pos hbig];exact rfl
    have hd:decide ((4096:Int)-(x.b.length:Int)<(l:Int))=true:=by simp;omega
    clear hE hcl hx hk hf h c7 hok hr hbl
    go_enter Tryz.func29,Tryz.ntmps29
    go_wp2_with fail
    (with_reducible refine HF.out.mono ?_)
    rintro e w1 ⟨rfl,rfl⟩
    go_wp2_with fail
    go_ret
    rw[HM.out]
    exact Turn.same HH.out (Below.refl _ _) rfl
   ·have HM:Hid (bT T id bs=(0,aX id (fun x=>{x with b:=x.b++bs}) T)):=by
     unfold bT
     rw[HE.out,hcl];simp only[Bool.false_eq_true,if_false,if_neg hbig];exact rfl
    have hd:decide ((4096:Int)-(x.b.length:Int)<(l:Int))=false:=by simp;omega
    obtain⟨ax,cx,c6,hcap,hrx,hcells⟩:=(h.item id x hx).row
    have HC:=Lib.hid (yS ax x.b.length cx x.b a l c bs w hrx hr (by omega))
    have HX:=Lib.hid hx
    have HCE:=Lib.hid hcells
    have BJ:=Lib.hid hbl
    clear hE hcl hx hk hf h c7 hok hr hbl hrx hcells hcap
    go_enter Tryz.func29,Tryz.ntmps29
    go_wp2_with fail
    (with_reducible refine HF.out.mono ?_)
    rintro e w1 ⟨rfl,rfl⟩
    go_wp2_with fail
    (with_reducible refine HC.out.mono ?_)
    rintro e w1 ⟨a2,c2',rfl,hcap2,hr2,hb2⟩
    have hA1:=HH.out.below hb2 (Nat.le_refl _)
    have hi1:=hA1.item id x HX.out
    have hfz6:=hi1.frozen 6
    have hfz3:=hi1.frozen 3
    have hiw1:=hi1.cell.2.2.2.2.2.2.2
    obtain⟨_,_,d6,_,_,_⟩:=hi1.row
    obtain⟨_,_,_,d3,_,_,_,_⟩:=hi1.cell
    have HA1:=Lib.hid hA1
    have HR2:=Lib.hid hr2
    have HB2:=Lib.hid hb2
    have X4:=Lib.hid hcap2
    clear hA1 hr2 hb2 hcap2 hi1
    go_wp2_with fail
    go_ret
    rw[HM.out]
    exact Gt HH.out HB2.out HX.out BJ.out X4.out HR2.out (by simp)
 ·have hne:(dG T id==0)=false:=by simpa using hf
  have HF:=Lib.hid (yQ id _ rfl hf w h hid)
  have HM:Hid (bT T id bs=(dG T id,T)):=by
   unfold bT
   rw[Ed hf,if_neg hf];exact rfl
  obtain⟨k,hk⟩:∃k,k=dG T id:=⟨_,rfl⟩
  rw[←hk]at HF hne HM
  clear hf h hk hok hr hbl
  go_enter Tryz.func29,Tryz.ntmps29
  go_wp2_with fail
  (with_reducible refine HF.out.mono ?_)
  rintro e w1 ⟨rfl,rfl⟩
  go_wp2_with fail
  go_ret
  rw[HM.out]
  exact Turn.same HH.out (Below.refl _ _) rfl
end
def newG (B b:Nat):Own:=if b=B then .items else if b=B+1 then .item 0 else if b=B+2 then .names 0 else .none
theorem QZ {w w1 w2:World} (hi:iq (fun _=>False) w1 0 (w.heap.size+1) (w.heap.size+1+1) (bL 2)) (hb:Below (w.heap.size+1) (w.alloc (.map #[] 0)) w1) (hs:w.heap.size+1+1<w1.heap.size)
  (hM:MapAt aW w2 w.heap.size (bM aW.lt 0 (ptr (w.heap.size+1)) [])) (hT:w1.mapTurned w2 w.heap.size):
  aH (fun b=>if b=w2.heap.size then .head else newG w.heap.size b) (fun _=>False) (w2.alloc (.cells #[.map (some w.heap.size)] 106)) w2.heap.size w.heap.size (fun _=>w.heap.size+1) (fun _=>w.heap.size+2) ni∧Below w.heap.size w (w2.alloc (.cells #[.map (some w.heap.size)] 106)):=by
 have hsz:=iC hT
 have hK:=fT hT
 have hw3:∀b,b<w2.heap.size→(w2.alloc (.cells #[.map (some w.heap.size)] 106)).heap[b]? =w2.heap[b]? :=fun b hb=>Below.heap_alloc _ _ _ hb
 have hget:∀k x,aj k ni=some x→k=0∧x=bL 2:=fun k x h=>by
  unfold ni at h
  rw[dZ]at h
  by_cases hk:(0:Int)=k
  ·rw[if_pos hk]at h;exact⟨hk.symm,by cases h;rfl⟩
  ·rw[if_neg hk]at h;cases h
 have hB0:Below w.heap.size w (w.alloc (.map #[] 0)):=wall w _
 constructor
 ·refine⟨(MapKept.heap_alloc w2 _).1,?_,fun k x hx=> ?_,by simp,?_,fun k x hx=> ?_,fun k x hx _=> ?_,fun _ h=>h.elim,fun b hb=> ?_,fun _ h=>h.elim⟩
  ·have:=hM.kept (hw3 _ (by omega))
   exact this
  ·obtain⟨rfl,rfl⟩:=hget k x hx
   refine hi.move (by simp;omega) ?_ (fun _=> ?_) (fun _ h=>h.elim)
   ·rw[hw3 _ (by omega),hK.block _ (by omega) (by omega)]
   ·rw[hw3 _ (by omega),hK.block _ (by omega) (by omega)]
  ·rw[if_neg (by omega)];simp[newG]
  ·obtain⟨rfl,rfl⟩:=hget k x hx
   rw[if_neg (by omega)];simp[newG]
  ·obtain⟨rfl,rfl⟩:=hget k x hx
   rw[if_neg (by omega)];simp[newG]
  ·rw[World.size_alloc]
   by_cases h1:b=w2.heap.size
   ·omega
   ·rw[if_neg h1]at hb
    unfold newG at hb
    by_cases h2:b=w.heap.size
    ·omega
    ·by_cases h3:b=w.heap.size+1
     ·omega
     ·by_cases h4:b=w.heap.size+2
      ·omega
      ·simp[h2,h3,h4]at hb
 ·refine(hB0.trans (hb.mono (by omega))).trans ⟨hK.os,hK.tape,hK.output,by rw[World.size_alloc];omega,fun b hbw=> ?_⟩
  have:=hb.size
  rw[World.size_alloc]at this
  rw[hw3 _ (by omega),hK.block _ (by omega) (by omega)]
set_option maxHeartbeats 1000000 in
theorem Q0 (w:World):Calls Tryz.prog 23 #[] w fun e w'=>∃g mb ib nb p,e= .returned (ptr p)∧aH g (fun _=>False) w' p mb ib nb ni∧(∀b,g b≠ .none→w.heap.size≤b)∧Below w.heap.size w w':=by
 have hmm:= @run_makeMap Tryz.prog
 have HST:Hid (∀w1,Below (w.heap.size+1) (w.alloc (.map #[] 0)) w1→∃w2,(Instr.mapUpdate 104 (.map (some w.heap.size)) (.int .i64 0) (ptr (w.heap.size+1))).run Tryz.prog w1= .ok () w2∧MapAt aW w2 w.heap.size (bM aW.lt 0 (ptr (w.heap.size+1)) [])∧w1.mapTurned w2 w.heap.size):=fun w1 hb=>by
  have hm1:MapAt aW w1 w.heap.size []:=(MapAt.made (F:=aW) w).kept (hb.block _ (by omega))
  exact hm1.oJ aW Tryz.underlying104 (by show 0<maxLen;unfold maxLen;omega) 0 _ (qC (by omega) (by omega))
 go_enter Tryz.func23,Tryz.ntmps23
 go_wp2_with fail
 (with_reducible refine(vE _ _ _).mono ?_)
 rintro e w1 ⟨rfl,hi1,hb1,hs1,hs2⟩
 rw[World.size_alloc]at hi1 hb1 hs1 hs2
 obtain⟨w2,hrun2,hM2,TM⟩:=HST.out w1 hb1
 have HI1:=Lib.hid hi1
 have HB1:=Lib.hid hb1
 have wQ:=Lib.hid hM2
 have HT2:=Lib.hid TM
 have hs3:=hs2 rfl
 clear hi1 hb1 hM2 TM hs2
 go_wp2_with fail
 go_ret
 obtain⟨h1,h2⟩:=QZ HI1.out HB1.out hs3 wQ.out HT2.out
 refine⟨_,_,_,_,_,rfl,h1,fun b hb=> ?_,h2⟩
 have h3:=HB1.out.size
 rw[World.size_alloc]at h3
 have h4:=iC HT2.out
 by_cases e1:b=w2.heap.size
 ·omega
 ·rw[if_neg e1]at hb
  unfold newG at hb
  by_cases e2:b=w.heap.size
  ·omega
  ·by_cases e3:b=w.heap.size+1
   ·omega
   ·by_cases e4:b=w.heap.size+2
    ·omega
    ·simp[e2,e3,e4]at hb
theorem xW:eH ni:=by
 have hget:∀k x,aj k ni=some x→k=0∧x=bL 2:=fun k x h=>by
  unfold ni at h
  rw[dZ]at h
  by_cases hk:(0:Int)=k
  ·rw[if_pos hk]at h;exact⟨hk.symm,by cases h;rfl⟩
  ·rw[if_neg hk]at h;cases h
 refine⟨⟨by simp[ni,aC],rfl,fun k x hx=> ?_,fun k x hx e he=> ?_,by simp[ni],fun k x hx=> ?_⟩,fun k x hx hk=> ?_⟩
 ·obtain⟨rfl,rfl⟩:=hget k x hx;exact BD (.inr rfl)
 ·obtain⟨rfl,rfl⟩:=hget k x hx;cases he
 ·obtain⟨rfl,rfl⟩:=hget k x hx;omega
 ·exact absurd (hget k x hx).1 hk
section
variable {g:Nat→Own} {D:Nat→Prop} {p mb:Nat} {ib nb:Int→Nat} {T:aA}
set_option maxHeartbeats 1000000 in
theorem Ns (id:Int) (hd:gK T id≠0) (w:World) (h:aH g D w p mb ib nb T) (hid:(Lit.int .i64 id).wf=true):
  Calls Tryz.prog 111 #[ptr p, .int .i64 id] w (Turn g D w p mb (cu T id).2 (.int .i64 (cu T id).1)):=by
 have HH:=Lib.hid h
 have hcb:(w.alloc (.cells #[.int .i64 id] 3)).cell? ⟨w.heap.size,0,none⟩=some (.int .i64 id):=jN
 have hA:=h.below (wall w (.cells #[.int .i64 id] 3)) (Nat.le_refl _)
 by_cases hf:dG T id=0
 ·obtain⟨x,hx,hk⟩:=sZ hf
  have HF:=Lib.hid (xU id hx hk _ hA hid)
  obtain⟨c0,c1,c2,c3,c4,c5,c7,hiw⟩:=(h.item id x hx).cell
  have hE:gK T id=if x.closed then 27 else 0:=by unfold gK;rw[hx];simp only[if_neg hk]
  cases hcl:x.closed with
  |false=>exact absurd (by rw[hE,hcl];rfl) hd
  |true=>
   have HM:Hid (cu T id=(27,T)):=by
    unfold cu
    rw[hE,hcl];simp only[if_pos];exact rfl
   rw[hcl]at c5
   clear hE hcl hx hk hf h c7 hA hd
   go_enter Tryz.func111,Tryz.ntmps111
   go_wp2_with fail
   (with_reducible refine HF.out.mono ?_)
   rintro e w1 ⟨rfl,rfl⟩
   go_wp2_with fail
   go_ret
   rw[HM.out]
   exact Turn.same HH.out (wall w _) rfl
 ·have hne:(dG T id==0)=false:=by simpa using hf
  have HF:=Lib.hid (yQ id _ rfl hf _ hA hid)
  have HM:Hid (cu T id=(dG T id,T)):=by
   unfold cu
   rw[Kg hf,if_neg hf];exact rfl
  obtain⟨k,hk⟩:∃k,k=dG T id:=⟨_,rfl⟩
  rw[←hk]at HF hne HM
  clear hf h hk hA hd
  go_enter Tryz.func111,Tryz.ntmps111
  go_wp2_with fail
  (with_reducible refine HF.out.mono ?_)
  rintro e w1 ⟨rfl,rfl⟩
  go_wp2_with fail
  go_ret
  rw[HM.out]
  exact Turn.same HH.out (wall w _) rfl
end
section
variable {g:Nat→Own} {D:Nat→Prop} {p mb:Nat} {ib nb:Int→Nat} {T:aA}
theorem dD {id:Int} {x:bq} (hx:aj id T=some x):bI T id=x.kind:=by unfold bI;rw[hx]
theorem Gu {p:List Nm} {id:Int} (h:aL T 0 p=(id,0)) (hT:eH T):(aj id T).isSome=true:=by
 have:=jZ hT p 0 (iG hT) (by rw[h])
 rw[h]at this
 exact this
end
theorem eH.del {T:aA} (h:eH T) {k:Int} {x:bq} (hx:aj k T=some x) (h0:k≠0) (hn:x.names=[]) (hc:eZ T k=0):eH (bF k T):=by
 have hget:∀j y,aj j (bF k T)=some y→j≠k∧aj j T=some y:=fun j y hy=>by
  rw[eu]at hy
  by_cases hj:j=k
  ·rw[if_pos hj]at hy;cases hy
  ·rw[if_neg hj]at hy;exact⟨hj,hy⟩
 have hcn:∀j,cn j x=0:=fun j=>by unfold cn;rw[hn];rfl
 refine⟨⟨h.sorted.bF _,?_,fun j y hy=>h.each j y (hget j y hy).2,fun j y hy e he=> ?_,?_,fun j y hy=>h.ids j y (hget j y hy).2⟩,fun j y hy hj=> ?_⟩
 ·have hr:=h.root
  unfold bI at hr⊢
  rw[eu,if_neg (Ne.symm h0)]
  exact hr
 ·have h1:=h.leads j y (hget j y hy).2 e he
  have h2:=xS hc (hget j y hy).2 e he
  rw[eu,if_neg h2]
  exact h1
 ·have:=qU bH h.sorted hx
  have:=h.len
  omega
 ·have h1:=vD h.sorted hx j
  rw[hcn]at h1
  have h2:=h.counts j y (hget j y hy).2 hj
  omega
theorem eH.settle {T:aA} (h:eH T) {k:Int} (hk:k≠0) (hf:∀x,aj k T=some x→x.kind≠2):eH (fG T k):=by
 unfold fG
 cases hx:aj k T with
 |none=>exact h
 |some x=>
  simp only
  by_cases hc:x.links=0∧x.closed=true
  ·rw[if_pos hc]
   have hk1:=(h.each k x hx).kind.resolve_right (hf x hx)
   refine h.del hx hk ((h.each k x hx).file hk1) ?_
   have:=h.counts k x hx hk
   omega
  ·rw[if_neg hc];exact h
theorem eH.xX {T:aA} (h:eH T) {k:Int} {x:bq} (hx:aj k T=some x) (hk:x.kind≠2):k≠0:=by
 rintro rfl
 have:=h.root
 unfold bI at this
 rw[hx]at this
 exact hk this
theorem yT {T:aA} (hT:eH T) {ls:List Nm} {kind:Int} (h:jw T ls kind=0):dA ls=0∧(kind=1∨kind=2)∧(aV T ls).2.2=0∧aj (aV T ls).2.1 (aY T (aV T ls).1)=none∧T.length<64:=by
 unfold jw at h
 by_cases h1:dA ls≠0
 ·rw[if_pos h1]at h;exact absurd h h1
 ·rw[if_neg h1]at h
  by_cases h2:¬(kind=1∨kind=2)
  ·rw[if_pos h2]at h;cases h
  ·rw[if_neg h2]at h
   by_cases h3:(aV T ls).2.2≠0
   ·rw[if_pos h3]at h;exact absurd h h3
   ·rw[if_neg h3]at h
    by_cases h4:(aj (aV T ls).2.1 (aY T (aV T ls).1)).isSome=true
    ·rw[if_pos h4]at h;cases h
    ·rw[if_neg h4]at h
     by_cases h5:64≤T.length
     ·rw[if_pos h5]at h;cases h
     ·exact⟨by omega,Decidable.not_not.1 h2,by omega,by simpa using h4,by omega⟩
theorem eH.dK {T:aA} (h:eH T) (ls:List Nm) (kind:Int):eH (dK T ls kind).2:=by
 unfold Go.Proofs.YtjnhnlabpccgjaaGreat.dK
 by_cases he:jw T ls kind=0
 ·rw[if_pos he]
  obtain⟨h1,h2,h3,h4,h5⟩:=yT h he
  obtain⟨x,hx,hk,hm⟩:=nV h h3
  obtain⟨f,hf,hf1,hf2,hfn,_⟩:=h.free
  have e1:aY T (aV T ls).1=x.names:=by unfold aY;rw[hx]
  rw[e1]at h4
  have hlen:=h.len
  show eH (qV T ls kind)
  unfold qV
  rw[hf]
  exact h.make h2 hfn (by omega) (by omega) h5 hx hk (sW h1 _ hm) h4
 ·rw[if_neg he];exact h
theorem eH.bT {T:aA} (h:eH T) (id:Int) (b:List UInt8):eH (bT T id b).2:=by
 unfold Go.Proofs.YtjnhnlabpccgjaaGreat.bT
 by_cases he:jH T id b=0
 ·simp only[if_pos he]
  unfold jH at he
  cases hx:aj id T with
  |none=>rw[hx]at he;cases he
  |some x=>
   rw[hx]at he
   simp only at he
   by_cases hk:x.kind=2
   ·rw[if_pos hk]at he;cases he
   ·rw[if_neg hk]at he
    cases hc:x.closed with
    |true=>rw[hc]at he;cases he
    |false=>
     rw[hc]at he
     simp only[Bool.false_eq_true,if_false]at he
     by_cases hb:4096<x.b.length+b.length
     ·rw[if_pos hb]at he;cases he
     ·have ho:=h.each id x hx
      exact h.BA hx ⟨ho.kind,ho.file,fun h=>absurd h hk,fun _=>hc,ho.sorted,ho.good,by rw[List.length_append];omega,ho.links,ho.aP⟩ rfl rfl rfl
 ·simp only[if_neg he];exact h
theorem eH.fC {T:aA} (h:eH T) (id aP:Int) (h0:0≤aP):eH (fC T id aP).2:=by
 unfold Go.Proofs.YtjnhnlabpccgjaaGreat.fC
 by_cases he:qB T id aP=0
 ·simp only[if_pos he]
  unfold qB at he
  cases hx:aj id T with
  |none=>rw[hx]at he;cases he
  |some x=>
   rw[hx]at he
   simp only at he
   by_cases hk:x.kind=2
   ·rw[if_pos hk]at he;cases he
   ·rw[if_neg hk]at he
    cases hc:x.closed with
    |true=>rw[hc]at he;cases he
    |false=>
     rw[hc]at he
     simp only[Bool.false_eq_true,if_false]at he
     by_cases hb:1099511627776<aP
     ·rw[if_pos hb]at he;cases he
     ·have ho:=h.each id x hx
      have hk1:=ho.kind.resolve_right hk
      have hcnt:=h.counts id x hx (h.xX hx hk)
      by_cases hl:x.links=0
      ·have hn:=ho.file hk1
       have e:fG (Go.Proofs.YtjnhnlabpccgjaaGreat.aX id (fun x=>{x with closed:=true,aP:=aP}) T) id=bF id T:=by
        unfold fG
        rw[bg,if_pos rfl,hx]
        simp only[Option.map_some,hl,and_self,if_true]
        unfold bF Go.Proofs.YtjnhnlabpccgjaaGreat.aX
        clear hx ho hcnt he h
        induction T with
        |nil=>rfl
        |cons y r ih=>
         rw[List.map_cons,List.filter_cons,List.filter_cons,ih]
         by_cases hy:y.1=id<;>simp[hy]
       rw[e]
       exact h.del hx (h.xX hx hk) hn (by omega)
      ·have hs:eH (Go.Proofs.YtjnhnlabpccgjaaGreat.aX id (fun x=>{x with closed:=true,aP:=aP}) T):=
        h.BA hx ⟨ho.kind,ho.file,fun h=>absurd h hk,fun h=>absurd h hl,ho.sorted,ho.good,ho.size,ho.links,⟨h0,by simp only;omega⟩⟩ rfl rfl rfl
       exact hs.settle (h.xX hx hk) (fun y hy=>by
        rw[bg,if_pos rfl,hx]at hy
        simp only[Option.map_some,Option.some.injEq]at hy
        rw[←hy]
        exact hk)
 ·simp only[if_neg he];exact h
structure ow (W:World) (P:Nat→Prop) (w:World) (p:Nat) (T:aA):Prop where
 at_:∃g D mb ib nb,aH g D w p mb ib nb T∧∀b,g b≠ .none∨D b→W.heap.size≤b∧¬P b
 ok:eH T
 below:Below W.heap.size W w
 low:∀x,P x→x<w.heap.size
structure uz (W:World) (P:Nat→Prop) (w:World) (p:Nat) (T:aA):Prop where
 at_:∃g D mb ib nb,aH g D w p mb ib nb T∧∀b,g b≠ .none∨D b→W.heap.size≤b∧¬P b
 ok:OkW T
 below:Below W.heap.size W w
theorem uz.grow {W w w':World} {P:Nat→Prop} {p:Nat} {T:aA} (h:uz W P w p T) (hb:Below w.heap.size w w'):uz W P w' p T:=by
 obtain⟨g,D,mb,ib,nb,hA,hF⟩:=h.at_
 exact⟨⟨g,D,mb,ib,nb,hA.below hb (Nat.le_refl _),hF⟩,h.ok,h.below.trans (hb.mono h.below.size)⟩
theorem ow.w {W w:World} {P:Nat→Prop} {p:Nat} {T:aA} (h:ow W P w p T):uz W P w p T:=⟨h.at_,h.ok.w,h.below⟩
instance {W w:World} {P:Nat→Prop} {p:Nat} {T:aA}:Coe (ow W P w p T) (uz W P w p T):=⟨ow.w⟩
theorem ow.grow {W w w':World} {P:Nat→Prop} {p:Nat} {T:aA} (h:ow W P w p T) (hb:Below w.heap.size w w'):ow W P w' p T:=by
 obtain⟨g,D,mb,ib,nb,hA,hF⟩:=h.at_
 exact⟨⟨g,D,mb,ib,nb,hA.below hb (Nat.le_refl _),hF⟩,h.ok,h.below.trans (hb.mono h.below.size),fun x hx=>Nat.lt_of_lt_of_le (h.low x hx) hb.size⟩
theorem ow.mono {W w:World} {P Q:Nat→Prop} {p:Nat} {T:aA} (h:ow W P w p T) (hq:∀x,Q x→P x):ow W Q w p T:=by
 obtain⟨g,D,mb,ib,nb,hA,hF⟩:=h.at_
 exact⟨⟨g,D,mb,ib,nb,hA,fun x hx=>⟨(hF x hx).1,fun h=>(hF x hx).2 (hq x h)⟩⟩,h.ok,h.below,fun x hx=>h.low x (hq x hx)⟩
section
variable {W w:World} {P:Nat→Prop} {p:Nat} {T:aA}
end
abbrev Mark:=Nat→Nat
structure Marks (W:World) (o:Mark) (w:World):Prop where
 new:∀b,o b≠0→W.heap.size≤b∧b<w.heap.size
 below:Below W.heap.size W w
structure Step (o:Mark) (I:Nat→Prop) (w:World) (o':Mark) (w':World):Prop where
 old:∀b,b<w.heap.size→o' b=o b
 new:∀b,w.heap.size≤b→o' b≠0→I (o' b)∧b<w'.heap.size
 keep:Keeps (fun b=>I (o b)) w w'
theorem Marks.step {W w w':World} {o o':Mark} {I:Nat→Prop} (h:Marks W o w) (hi:¬I 0) (hs:Step o I w o' w'):Marks W o' w':=by
 refine⟨fun b hb=> ?_,h.below.trans (hs.keep.fD h.below.size fun x hx (hxi:I (o x))=> ?_)⟩
 ·by_cases hlt:b<w.heap.size
  ·rw[hs.old b hlt]at hb
   exact⟨(h.new b hb).1,Nat.lt_of_lt_of_le hlt hs.keep.size⟩
  ·have h1:=(hs.new b (by omega) hb).2
   have:=h.below.size
   exact⟨by omega,h1⟩
 ·have h0:o x≠0:=fun e=>hi (by rw[e]at hxi;exact hxi)
  have:=(h.new x h0).1
  omega
theorem Marks.grow {W w w':World} {o:Mark} (h:Marks W o w) (hb:Below w.heap.size w w'):Marks W o w':=
 ⟨fun b hn=>⟨(h.new b hn).1,Nat.lt_of_lt_of_le (h.new b hn).2 hb.size⟩,h.below.trans (hb.mono h.below.size)⟩
theorem Step.mono {w w':World} {o o':Mark} {I J:Nat→Prop} (h:Step o I w o' w') (hIJ:∀i,I i→J i):Step o J w o' w':=
 ⟨h.old,fun b hb hn=>⟨hIJ _ (h.new b hb hn).1,(h.new b hb hn).2⟩,h.keep.mono fun x _ hx=>hIJ _ hx⟩
theorem Step.grow {W w w':World} {o:Mark} {I:Nat→Prop} (h:Marks W o w) (hb:Below w.heap.size w w'):Step o I w o w':=
 ⟨fun _ _=>rfl,fun b hb hn=>by have:=(h.new b hn).2;omega,(Keeps.below hb).mono fun x hx hx'=>absurd hx (by omega)⟩
theorem Step.trans {w w1 w2:World} {o o1 o2:Mark} {I:Nat→Prop} (h:Step o I w o1 w1) (k:Step o1 I w1 o2 w2):Step o I w o2 w2:=by
 have hs:=h.keep.size
 refine⟨fun b hb=>(k.old b (by omega)).trans (h.old b hb),fun b hb hn=> ?_,h.keep.trans k.keep fun x hx (hxi:I (o1 x))=>by rw[h.old x hx]at hxi;exact hxi⟩
 by_cases hlt:b<w1.heap.size
 ·rw[k.old b hlt]at hn⊢
  exact⟨(h.new b hb hn).1,Nat.lt_of_lt_of_le (h.new b hb hn).2 k.keep.size⟩
 ·exact k.new b (by omega) hn
theorem Step.then_ {W w w1 w2:World} {o o1:Mark} {I:Nat→Prop} (hM:Marks W o w) (hi:¬I 0) (h:Step o I w o1 w1) (hb:Below w1.heap.size w1 w2):Step o I w o1 w2:=h.trans (Step.grow (hM.step hi h) hb)
theorem Step.behind {W w w1 w2:World} {o o2:Mark} {I:Nat→Prop} (hM:Marks W o w) (hb:Below w.heap.size w w1) (h:Step o I w1 o2 w2):Step o I w o2 w2:=(Step.grow hM hb).trans h
theorem Step.block {w w':World} {o o':Mark} {I:Nat→Prop} (h:Step o I w o' w') {b:Nat} (hb:b<w.heap.size) (hn:¬I (o b)):w'.heap[b]? =w.heap[b]? :=h.keep.block b hb hn
def Free (o:Mark) (w:World) (b:Nat):Prop:=o b=0∧b<w.heap.size
theorem ah.free {o o':Mark} {I:Nat→Prop} {w w':World} {a:Option Addr} {n:Nat} {vs:List Value} (h:ah (Free o w) w a n vs) (hi:¬I 0) (hs:Step o I w o' w'):ah (Free o' w') w' a n vs:=
 h.move hs.keep.size fun b hb hbw=>⟨⟨(hs.old b hb.2).trans hb.1,Nat.lt_of_lt_of_le hb.2 hs.keep.size⟩,hs.block hb.2 (by rw[hb.1];exact hi)⟩
theorem ah.Nt {W w w':World} {o:Mark} {a:Option Addr} {n:Nat} {vs:List Value} (hM:Marks W o w) (h:ah (fun x=>w.heap.size≤x∧x<w'.heap.size) w' a n vs):ah (Free o w') w' a n vs:=
 h.mono fun b hb=>⟨Decidable.byContradiction fun h0=>by have:=(hM.new b h0).2;omega,hb.2⟩
def fH (o:Mark) (i:Nat) (w:World) (p:Nat) (T:aA):Prop:=
 ∃g D mb ib nb,aH g D w p mb ib nb T∧(∀b,g b≠ .none→o b=i)∧(∀b,D b→o b=0)
theorem fH.step {o o':Mark} {I:Nat→Prop} {j:Nat} {w w':World} {p:Nat} {T:aA} (h:fH o j w p T) (hi:¬I 0) (hij:¬I j) (hs:Step o I w o' w'):fH o' j w' p T:=by
 obtain⟨g,D,mb,ib,nb,hA,hg,hD⟩:=h
 refine⟨g,D,mb,ib,nb,hA.keeps hs.keep fun b hb=> ?_,fun b hb=>(hs.old b (hA.low b hb)).trans (hg b hb),fun b hb=>(hs.old b (hA.mh b hb)).trans (hD b hb)⟩
 rcases hb with hb|hb
 ·rw[hg b hb];exact hij
 ·rw[hD b hb];exact hi
theorem fH.grow {o:Mark} {j:Nat} {w w':World} {p:Nat} {T:aA} (h:fH o j w p T) (hb:Below w.heap.size w w'):fH o j w' p T:=by
 obtain⟨g,D,mb,ib,nb,hA,hg,hD⟩:=h
 exact⟨g,D,mb,ib,nb,hA.below hb (Nat.le_refl _),hg,hD⟩
theorem fH.remark {o o':Mark} {j k:Nat} {w:World} {p:Nat} {T:aA} (h:fH o j w p T) (h1:∀b,b<w.heap.size→o b=j→o' b=k) (h2:∀b,b<w.heap.size→o b=0→o' b=0):fH o' k w p T:=by
 obtain⟨g,D,mb,ib,nb,hA,hg,hD⟩:=h
 exact⟨g,D,mb,ib,nb,hA,fun b hb=>h1 b (hA.low b hb) (hg b hb),fun b hb=>h2 b (hA.mh b hb) (hD b hb)⟩
def jI (o:Mark) (i:Nat) (w:World) (p:Nat) (T':aA) (v:Value) (e:Ending) (w':World):Prop:=
 e= .returned v∧∃o',Step o (fun j=>j=i) w o' w'∧fH o' i w' p T'
open Classical in
theorem jI.of {W w w':World} {o:Mark} {i p mb:Nat} {T':aA} {v:Value} {e:Ending} {g:Nat→Own} {D:Nat→Prop} (hM:Marks W o w) (hi:i≠0) (hg:∀b,g b≠ .none→o b=i) (hD:∀b,D b→o b=0) (ht:Turn g D w p mb T' v e w'):jI o i w p T' v e w':=by
 obtain⟨rfl,g',D',MJ,nb',hA',hg',hD',hK⟩:=ht
 obtain⟨o',ho⟩:∃o':Mark,∀b,o' b=if b<w.heap.size then o b else if g' b≠ .none then i else 0:=⟨_,fun _=>rfl⟩
 refine⟨rfl,o',⟨fun b hb=>by rw[ho,if_pos hb],fun b hb hn=> ?_,hK.mono fun x _ hx=>hg x hx⟩,g',D',mb,MJ,nb',hA',fun b hb=> ?_,fun b hb=> ?_⟩
 ·rw[ho,if_neg (by omega)]at hn⊢
  by_cases h:g' b≠ .none
  ·rw[if_pos h];exact⟨rfl,hA'.low b h⟩
  ·rw[if_neg h]at hn;exact absurd rfl hn
 ·rw[ho]
  by_cases hlt:b<w.heap.size
  ·rw[if_pos hlt]
   rcases hg' b hb with h|h
   ·exact hg b h
   ·omega
  ·rw[if_neg hlt,if_pos hb]
 ·rw[ho]
  by_cases hlt:b<w.heap.size
  ·rw[if_pos hlt]
   rcases hD' b hb with h|h
   ·exact hD b h
   ·omega
  ·rw[if_neg hlt,if_neg (by rw[hA'.data b hb];simp)]
section
variable {W w:World} {o:Mark} {i p:Nat} {T:aA}
theorem Q5 {S:Nat→Prop} (h:fH o i w p T) (hM:Marks W o w) (hi:i≠0) (hT:eH T) (a:Option Addr) (n c:Nat) (ls:List Nm) (kind:Int) (hS:bB S w a n (ls.map strOf)) (hc:n≤c) (pO:n≤1000000):
  Calls Tryz.prog 27 #[ptr p, .slice a n c, .int .i64 kind] w (jI o i w p (dK T ls kind).2 (.tuple #[.int .i64 (dK T ls kind).1.1, .int .i64 (dK T ls kind).1.2])):=by
 obtain⟨g,D,mb,ib,nb,hA,hg,hD⟩:=h
 exact(QV a n c ls kind w hA hT hS hc pO).mono fun e w' ht=>jI.of hM hi hg hD ht
theorem Kj {S:Nat→Prop} (h:fH o i w p T) (hM:Marks W o w) (hi:i≠0) (hT:eH T) (id:Int) (a:Option Addr) (l c:Nat) (bs:List UInt8) (hid:(Lit.int .i64 id).wf=true) (hr:ah S w a l (bs.map bv)) (hl:l≤1000000000):
  Calls Tryz.prog 29 #[ptr p, .int .i64 id, .slice a l c] w (jI o i w p (bT T id bs).2 (.int .i64 (bT T id bs).1)):=by
 obtain⟨g,D,mb,ib,nb,hA,hg,hD⟩:=h
 exact(Ki id a l c bs w hA (fun x hx=>(hT.each id x hx).size) hid hr hl).mono fun e w' ht=>jI.of hM hi hg hD ht
end
end Go.Proofs.YtjnhnlabpccgjaaGreat
