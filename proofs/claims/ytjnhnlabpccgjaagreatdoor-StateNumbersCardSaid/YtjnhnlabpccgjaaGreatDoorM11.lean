/- DERIVED -/
import Derived.Test.YtjnhnlabpccgjaaGreatDoorProg
import Derived.Shelf.Spec.SlicesGrow
import Derived.Test.YtjnhnlabpccgjaaGreatDoorM10
import Derived.Test.YtjnhnlabpccgjaaGreatDoorM03
import Derived.Lib.SliceRun
import Derived.Test.YtjnhnlabpccgjaaGreatDoorM09
set_option maxRecDepth 100000
set_option maxHeartbeats 64000000
set_option linter.all false
namespace Go.Proofs
open Go.Shelf
def Tryz.Aa:Go.Shelf.Ren:=⟨fun|4=>195|n=>n,fun|22=>28|25=>5|3=>3|4=>4|9=>9|20=>20|0=>0|n=>n,fun|n=>n⟩
theorem Tryz.Y0:Go.Proofs.Lays8.n4 Tryz.prog Tryz.Aa:={
 mixed:=by kernel_rfl
 f4:=⟨Tryz.f195.name,by decide,Tryz.func195.trans (congrArg some (by kernel_rfl))⟩
 t0:=Tryz.underlying0
 a0:=Tryz.isAgg0
 z0:=Tryz.sizeOf0
 v0:=Tryz.zeroValue0
 t3:=Tryz.underlying3
 a3:=Tryz.isAgg3
 z3:=Tryz.sizeOf3
 v3:=Tryz.zeroValue3
 t4:=Tryz.underlying4
 a4:=Tryz.isAgg4
 z4:=Tryz.sizeOf4
 v4:=Tryz.zeroValue4
 t9:=Tryz.underlying9
 a9:=Tryz.isAgg9
 z9:=Tryz.sizeOf9
 v9:=Tryz.zeroValue9
 t20:=Tryz.underlying20
 a20:=Tryz.isAgg20
 z20:=Tryz.sizeOf20
 v20:=Tryz.zeroValue20
 t22:=Tryz.underlying28
 a22:=Tryz.isAgg28
 z22:=Tryz.sizeOf28
 v22:=Tryz.zeroValue28}
end Go.Proofs
namespace Go.Proofs.YtjnhnlabpccgjaaGreatDoor
open Go.ChangeShapes Go.WideShapes Go.ChangeAt Go.RowKit
theorem Sc(n:Nat)(w:World)(hn:n≤1000000000):
  Calls Tryz.prog 195 #[.slice none 0 0,.int .i64 n] w fun e w'=>∃v,e= .returned v∧w'.ownsRow w.heap.size 5 1 v 0 []∧Below w.heap.size w w':=by
 obtain⟨i0,hi,hz0,hz1,hz2⟩:=aap Tryz.Ny;by_cases h0:n=0
 ·subst h0;refine(Any8.slices_Grow_room Tryz.Y0 none 0 0 0 w (by omega) (by omega) (by omega) (by omega)).mono ?_;rintro e w' ⟨rfl,rfl⟩;exact⟨_,rfl,⟨rfl,.inl ⟨rfl,rfl⟩⟩,Below.refl _ _⟩
 ·refine(Any8.slices_Grow_grow Tryz.Y0 i0 (.int .u8 0) hi hz0 (by rw[hz1];omega) none 0 0 n [] w (by omega) (by omega) (by rw[hz2];omega) (by omega) (by simp) (fun _=>rfl) (fun a h=>by cases h)).mono ?_;rintro e w' ⟨rfl,rfl⟩;have h1:=grownCap_ge w (0+n) 0 (Tryz.Aa.t 25);have h2:=grownCap_le_maxLen w (0+n) 0 (Tryz.Aa.t 25) (by unfold maxLen;omega);refine⟨_,rfl,⟨rfl,.inr ⟨w.heap.size,_,_,rfl,Nat.le_refl _,(MapKept.heap_alloc w.drew _).1,Nat.zero_le _,h2,?_,rfl⟩⟩,(acD.drew).alloc acC _⟩;have e1:(Value.cells (.int .u8 0)).size=1:=rfl;simp only[Array.size_append,size_zeroCells,List.size_toArray,List.length_nil,e1];omega
theorem Ab{w:World}{base:Nat}{e:TypeId}{size:Nat}{v:Value}{n:Nat}{xs:List Value}(h:w.ownsRow base e size v n xs):∃a c,v= .slice a n c∧n≤c∧c≤maxLen:=by
 rcases h.2 with⟨rfl,rfl⟩|⟨g,cap,cur,rfl,_,_,h,h',_⟩
 ·exact⟨_,_,rfl,Nat.le_refl _,Nat.zero_le _⟩
 ·exact⟨_,_,rfl,h,h'⟩
theorem Fh(iW:List (List UInt8))(k:Nat)(bs:List UInt8)(h:iW[k]? =some bs):(iW.take (k+1)).flatten=(iW.take k).flatten++bs:=by
 obtain⟨hk,e⟩:=aae.1 h;rw[aah hk,acn,e];simp
theorem Wz(iW:List (List UInt8))(k:Nat):(iW.take k).flatten.length≤iW.flatten.length:=by
 conv=>rhs;rw[←abg k iW,acn]
 simp
def tQ(iW:List (List UInt8))(k:Nat):List UInt8:=(iW.take k).flatten
def rP(iW:List (List UInt8))(k:Nat):Nat:=(tQ iW k).length
theorem Lg{S:Nat→Prop}(B n:Nat)(iW:List (List UInt8))(w:World)(hn:n=iW.length)(hn2:n≤1000)(hB:B<w.heap.size)(htot:iW.flatten.length≤1000000000)
  (hc:∀k,k<n→∃a l c bs,w.cell? ⟨B,k,none⟩=some (.slice a l c)∧ah S w a l (bs.map bv)∧iW[k]? =some bs):
  Calls Tryz.prog 159 #[.slice (some ⟨B,0,none⟩) n n] w fun e w'=>∃a c,e= .returned (.slice a iW.flatten.length c)∧(iW.flatten.length≤c∧c≤maxLen)∧ah (fun x=>w.heap.size≤x∧x<w'.heap.size) w' a iW.flatten.length (iW.flatten.map bv)∧Below w.heap.size w w':=by
 obtain⟨i0,hi,hz0,hz1,hz2⟩:=aap Tryz.Ny;have HN:=acA hn;have HC:=acA hc;have hle:∀k,rP iW k≤iW.flatten.length:=fun k=>Wz iW k;obtain⟨N,hN⟩:∃N,N=iW.flatten.length:=⟨_,rfl⟩;obtain⟨fl,Lh⟩:∃fl,fl=iW.flatten:=⟨_,rfl⟩;rw[←hN]at htot hle⊢;rw[←Lh];have xP:=acA hN;have HFF:=acA Lh;clear hN Lh;have EH:=acA hle;have hG:=Sc N w htot;have HG:=acA hG;clear hn hc hle hG;go_enter Tryz.func159,Tryz.ntmps159;go_wp2
 go_loop [3,11] (fun s i=>∃k:Nat,k≤n∧i= .int .i64 k∧s= .int .i64 (rP iW k)) (fun _ i=>n-(intOf i).toNat)
 case atStart=>exact⟨0,by omega,rfl,rfl⟩
 case round=>
  obtain⟨k,hk,rfl,rfl⟩:=hrel;have hlk:=EH.o k;by_cases hlt:k<n
  ·obtain⟨a,l,c,bs,hcell,hS,hp⟩:=HC.o k hlt;have hll:l=bs.length:=by have:=hS.length;simpa using this.symm
   subst hll;have uS:acB (rP iW (k+1)=rP iW k+bs.length):=by unfold rP tQ;rw[Fh iW k bs hp,List.length_append];exact rfl
   have hlk2:rP iW k+bs.length≤1000000000:=by have:=uS.o;have:=EH.o (k+1);omega
   clear hp hS;go_wp2
   go_round
   case rel=>exact⟨k+1,by omega,by go_num,by rw[uS.o];go_num⟩
   case measure=>simp[intOf];omega
  ·obtain rfl:n=k:=by omega
   have HT:acB (tQ iW n=fl∧rP iW n=N):=by
    have:iW.take n=iW:=List.take_of_length_le (by have:=HN.o;omega);unfold rP tQ;rw[this];exact⟨HFF.o.symm,xP.o.symm⟩
   rw[HT.o.2];go_wp2_with fail;refine HG.o.mono ?_;rintro e w1 ⟨v,rfl,hown,hb1⟩;have HB1:=acA hb1;have hown0:w1.ownsRow w.heap.size 5 1 v (rP iW 0) ((tQ iW 0).map bv):=hown;have HO:=acA hown0;clear hb1 hown hown0 HG;go_wp2_with fail
   go_loopw [6,27] (fun v i wr=>∃k:Nat,k≤n∧i= .int .i64 k∧wr.ownsRow w.heap.size 5 1 v (rP iW k) ((tQ iW k).map bv)∧Below w.heap.size w wr) (fun _ i _=>n-(intOf i).toNat)
   case atStart=>exact⟨0,by omega,rfl,HO.o,HB1.o⟩
   case round=>
    obtain⟨k,hk,rfl,hown,hb⟩:=hrel;have hbs:=hb.size;by_cases hlt:k<n
    ·obtain⟨a,l,c,bs,hcell0,hS,hp⟩:=HC.o k hlt;have hcell:=(hb.cell (p:=⟨B,k,none⟩) hB).trans hcell0;have uS:acB (tQ iW (k+1)=tQ iW k++bs∧rP iW (k+1)=rP iW k+bs.length):=by unfold rP tQ;rw[Fh iW k bs hp,List.length_append];exact⟨rfl,rfl⟩
     have hll:l=bs.length:=by have:=hS.length;simpa using this.symm
     subst hll;have hlk2:rP iW k+bs.length≤1000000000:=by have:=uS.o.2;have:=EH.o (k+1);omega
     have HS:=acA (hS.below hb acC);have HOW:=acA hown;have HB:=acA hb;clear hp hS hown hb hcell0 hlk;go_wp2_with (at_builtin;refine aS (by rfl) _ _ 28 (by rfl) w.heap.size 5 i0 (.int .u8 0) 1 Tryz.underlying28 hi hz0 hz1 hz2 rfl _ _ _ (by rfl) HOW.o a bs.length c (bs.map bv) (by rfl) HS.o (eZ bs) (by unfold maxLen;omega) (by omega) hbs ?_;intro A' c' w2 hown2 hgrow2 _ _);have EI:=acA hown2;have HG2:=acA hgrow2;clear hown2 hgrow2;go_roundw
     case rel=>
      refine⟨k+1,by omega,by go_num,?_,HB.o.grown HG2.o hbs (bA HOW.o)⟩;rw[uS.o.1,uS.o.2,List.map_append];exact EI.o
     case measure=>simp[intOf];omega
    ·obtain rfl:n=k:=by omega
     rw[HT.o.1,HT.o.2]at hown;obtain⟨a,c,rfl,hac⟩:=Ab hown;have HOW:=acA hown;have HB:=acA hb;clear hown hb;go_wp2;go_ret;exact⟨a,c,rfl,hac,(ah.pJ HOW.o).2,HB.o⟩
section
variable{g:Nat→Own}{D:Nat→Prop}{p mb:Nat}{ib nb:Int→Nat}{T:aL}
theorem Turn.of{w w':World}{NG nb':Int→Nat}{T':aL}{v:Value}{e:Ending}(he:e= .returned v)(h:aO g D w' p mb NG nb' T')(hK:Keeps (fun b=>g b≠ .none) w w'):Turn g D w p mb T' v e w':=
 ⟨he,g,D,NG,nb',h,fun b h=> .inl h,fun b h=> .inl h,hK⟩
theorem qK{id:Int}(h:bV T id=0):∃x,aj id T=some x∧x.kind≠2:=by
 unfold bV at h;cases hx:aj id T with
 |none=>rw[hx]at h;cases h
 |some x=>
  rw[hx]at h;by_cases hk:x.kind=2
  ·simp only[if_pos hk]at h;cases h
  ·exact⟨x,rfl,hk⟩
theorem OP{id aA:Int}(h:bV T id≠0):uK T id aA=bV T id:=by
 unfold bV at h⊢;unfold uK;cases hx:aj id T with
 |none=>rfl
 |some x=>
  rw[hx]at h;by_cases hk:x.kind=2
  ·simp only[if_pos hk]
  ·simp only[if_neg hk]at h;exact absurd rfl h
theorem OQ{id aA:Int}(h:bV T id≠0):rM T id aA=bV T id:=by
 unfold bV at h⊢;unfold rM;cases hx:aj id T with
 |none=>rfl
 |some x=>
  rw[hx]at h;by_cases hk:x.kind=2
  ·simp only[if_pos hk]
  ·simp only[if_neg hk]at h;exact absurd rfl h
theorem Jd{id:Int}{b:List UInt8}(h:bV T id≠0):mK T id b=bV T id:=by
 unfold bV at h⊢;unfold mK;cases hx:aj id T with
 |none=>rfl
 |some x=>
  rw[hx]at h;by_cases hk:x.kind=2
  ·simp only[if_pos hk]
  ·simp only[if_neg hk]at h;exact absurd rfl h
theorem OT{id:Int}(h:bV T id≠0):jG T id=bV T id:=by
 unfold bV at h⊢;unfold jG;cases hx:aj id T with
 |none=>rfl
 |some x=>
  rw[hx]at h;by_cases hk:x.kind=2
  ·simp only[if_pos hk]
  ·simp only[if_neg hk]at h;exact absurd rfl h
theorem OU{id at_ n:Int}(h:bV T id≠0):uJ T id at_ n=bV T id∧jZ T id at_ n=[]:=by
 unfold bV at h⊢;unfold uJ jZ;cases hx:aj id T with
 |none=>exact⟨rfl,rfl⟩
 |some x=>
  rw[hx]at h;by_cases hk:x.kind=2
  ·simp only[if_pos hk,and_self]
  ·simp only[if_neg hk]at h;exact absurd rfl h
theorem WA(id aA:Int)(w:World)(h:aO g D w p mb ib nb T)(hid:(Lit.int .i64 id).wf=true)(ht0:0≤aA)(ht1:aA≤18446744073709551615):
  Calls Tryz.prog 148 #[ptr p,.int .i64 id,.int .u64 aA] w (Turn g D w p mb (eF T id aA).2 (.int .i64 (eF T id aA).1)):=by
 have HH:=acA h;by_cases hf:bV T id=0
 ·obtain⟨x,hx,hk⟩:=qK hf;have HF:=acA (wH id hx hk w h hid);obtain⟨c0,c1,c2,c3,c4,c5,c7,hiw⟩:=(h.item id x hx).cell;have HX:=acA hx;have hE:uK T id aA=if x.closed then 27 else if 1099511627776<aA then 1 else 0:=by unfold uK;rw[hx];simp only[if_neg hk]
  have HE:=acA hE;cases hcl:x.closed with
  |true=>
   have HM:acB (eF T id aA=(27,T)):=by
    unfold eF;rw[HE.o,hcl];simp only[if_pos];exact rfl
   rw[hcl]at c5;clear hE hcl hx hk hf h c7;go_enter Tryz.func148,Tryz.ntmps148;go_wp2_with fail;refine HF.o.mono ?_;rintro e w1 ⟨rfl,rfl⟩;go_wp2_with fail;go_ret;rw[HM.o];exact Turn.same HH.o acD rfl
  |false=>
   rw[hcl]at c5;by_cases htl:1099511627776<aA
   ·have HM:acB (eF T id aA=(1,T)):=by
     unfold eF;rw[HE.o,hcl];simp only[Bool.false_eq_true,if_false,if_pos htl];exact rfl
    clear hE hcl hx hk hf h c7;go_enter Tryz.func148,Tryz.ntmps148;go_wp2_with fail;refine HF.o.mono ?_;rintro e w1 ⟨rfl,rfl⟩;go_wp2_with fail;go_ret;rw[HM.o];exact Turn.same HH.o acD rfl
   ·have HM:acB (eF T id aA=(0,iR (bq id (fun x=>{x with closed:=true,aA:=aA}) T) id)):=by
     unfold eF;rw[HE.o,hcl];simp only[Bool.false_eq_true,if_false,if_neg htl];exact rfl
    have hfz4:=(h.item id x hx).frozen 4;have hfz5:=(h.item id x hx).frozen 5;have hA1:aO g D ((w.setCell ⟨ib id,5,none⟩ (.bool true)).setCell ⟨ib id,4,none⟩ (.int .u64 aA)) p mb ib nb (bq id (fun x=>{x with closed:=true,aA:=aA}) T):=by
     refine h.fields hx (fun x=>{x with closed:=true,aA:=aA}) rfl rfl rfl (Keeps.set2 w _ _ _ _ _) (by rw[size_set,size_set]) fun a c hc=> ?_;rw[aI (aI hc)];rfl
    have hx1:aj id (bq id (fun x=>{x with closed:=true,aA:=aA}) T)=some {x with closed:=true,aA:=aA}:=by rw[aW,if_pos rfl,hx];rfl
    have HS:=acA (CU id hx1 hid _ hA1);have hgi:=h.rG id x hx;have hgm:=h.lW;have HGI:acB (∀b,(b=ib id∨b=mb)→g b≠ .none):=fun b hb=>by
     rcases hb with rfl|rfl
     ·rw[hgi];simp
     ·rw[hgm];simp
    clear hE hcl hx hk hf h c7 hA1 hx1 hgi hgm;go_enter Tryz.func148,Tryz.ntmps148;go_wp2_with fail;refine HF.o.mono ?_;rintro e w1 ⟨rfl,rfl⟩;go_wp2_with fail;refine HS.o.mono ?_;rintro e w1 ⟨rfl,hA2,hK2,hs2⟩;have HA2:=acA hA2;have Je:=acA hK2;clear hA2 hK2;go_wp2_with fail;go_ret;rw[HM.o];exact Turn.of rfl HA2.o (((Keeps.set2 w (ib id) 5 4 _ _).mono fun b _ hb=>HGI.o b (.inl hb)).trans (Je.o.mono fun b _ hb=>HGI.o b (.inr hb)) (fun _ _ h=>h))
 ·have hne:(bV T id==0)=false:=by simpa using hf
  have HF:=acA (vG id _ rfl hf w h hid);have HM:acB (eF T id aA=(bV T id,T)):=by
   unfold eF;rw[OP hf,if_neg hf];exact rfl
  obtain⟨k,hk⟩:∃k,k=bV T id:=⟨_,rfl⟩;rw[←hk]at HF hne HM;clear hf h hk;go_enter Tryz.func148,Tryz.ntmps148;go_wp2_with fail;refine HF.o.mono ?_;rintro e w1 ⟨rfl,rfl⟩;go_wp2_with fail;go_ret;rw[HM.o];exact Turn.same HH.o acD rfl
theorem WB(id aA:Int)(w:World)(h:aO g D w p mb ib nb T)(hid:(Lit.int .i64 id).wf=true)(ht0:0≤aA)(ht1:aA≤18446744073709551615)(hok:∀x,aj id T=some x→0≤x.aA∧x.aA≤1099511627776):
  Calls Tryz.prog 157 #[ptr p,.int .i64 id,.int .u64 aA] w (Turn g D w p mb (eX T id aA).2 (.int .i64 (eX T id aA).1)):=by
 have HH:=acA h;by_cases hf:bV T id=0
 ·obtain⟨x,hx,hk⟩:=qK hf;have HF:=acA (wH id hx hk w h hid);obtain⟨c0,c1,c2,c3,c4,c5,c7,hiw⟩:=(h.item id x hx).cell;obtain⟨hx0,hx1⟩:=hok x hx;have hE:rM T id aA=if x.closed=false then 25 else if aA<x.aA then 28 else if 1099511627776<aA then 1 else 0:=by unfold rM;rw[hx];simp only[if_neg hk]
  have HE:=acA hE;cases hcl:x.closed with
  |false=>
   have HM:acB (eX T id aA=(25,T)):=by
    unfold eX;rw[HE.o,hcl];simp only[if_pos];exact rfl
   rw[hcl]at c5;clear hE hcl hx hk hf h c7 hok;go_enter Tryz.func157,Tryz.ntmps157;go_wp2_with fail;refine HF.o.mono ?_;rintro e w1 ⟨rfl,rfl⟩;go_wp2_with fail;go_ret;rw[HM.o];exact Turn.same HH.o acD rfl
  |true=>
   rw[hcl]at c5;by_cases hlt:aA<x.aA
   ·have HM:acB (eX T id aA=(28,T)):=by
     unfold eX;rw[HE.o,hcl];simp only[ab0,if_false,if_pos hlt];exact rfl
    clear hE hcl hx hk hf h c7 hok;go_enter Tryz.func157,Tryz.ntmps157;go_wp2_with fail;refine HF.o.mono ?_;rintro e w1 ⟨rfl,rfl⟩;go_wp2_with fail;go_ret;rw[HM.o];exact Turn.same HH.o acD rfl
   ·by_cases htl:1099511627776<aA
    ·have HM:acB (eX T id aA=(1,T)):=by
      unfold eX;rw[HE.o,hcl];simp only[ab0,if_false,if_neg hlt,if_pos htl];exact rfl
     clear hE hcl hx hk hf h c7 hok;go_enter Tryz.func157,Tryz.ntmps157;go_wp2_with fail;refine HF.o.mono ?_;rintro e w1 ⟨rfl,rfl⟩;go_wp2_with fail;go_ret;rw[HM.o];exact Turn.same HH.o acD rfl
    ·have HM:acB (eX T id aA=(0,bq id (fun x=>{x with aA:=aA}) T)):=by
      unfold eX;rw[HE.o,hcl];simp only[ab0,if_false,if_neg hlt,if_neg htl];exact rfl
     have hfz4:=(h.item id x hx).frozen 4;have hA1:aO g D (w.setCell ⟨ib id,4,none⟩ (.int .u64 aA)) p mb ib nb (bq id (fun x=>{x with aA:=aA}) T):=by
      refine h.fields hx (fun x=>{x with aA:=aA}) rfl rfl rfl (Keeps.f_ w ⟨ib id,4,none⟩ _) (by rw[size_set]) fun a c hc=> ?_;rw[aI hc];rfl
     have HA1:=acA hA1;have HGI:acB (g (ib id)≠ .none):=by rw[h.rG id x hx];exact fun e=>by cases e
     clear hE hcl hx hk hf h c7 hA1 hok;go_enter Tryz.func157,Tryz.ntmps157;go_wp2_with fail;refine HF.o.mono ?_;rintro e w1 ⟨rfl,rfl⟩;go_wp2_with fail;go_ret;rw[HM.o];exact Turn.of rfl HA1.o ((Keeps.f_ w ⟨ib id,4,none⟩ _).mono fun b _ hb=>by rw[show b=ib id from hb];exact HGI.o)
 ·have hne:(bV T id==0)=false:=by simpa using hf
  have HF:=acA (vG id _ rfl hf w h hid);have HM:acB (eX T id aA=(bV T id,T)):=by
   unfold eX;rw[OQ hf,if_neg hf];exact rfl
  obtain⟨k,hk⟩:∃k,k=bV T id:=⟨_,rfl⟩;rw[←hk]at HF hne HM;clear hf h hk hok;go_enter Tryz.func157,Tryz.ntmps157;go_wp2_with fail;refine HF.o.mono ?_;rintro e w1 ⟨rfl,rfl⟩;go_wp2_with fail;go_ret;rw[HM.o];exact Turn.same HH.o acD rfl
end
def tT(w:World)(bs:List UInt8)(e:Ending)(w':World):Prop:=
 ∃a n c,e= .returned (.slice a n c)∧n≤c∧ah (fun x=>w.heap.size≤x∧x<w'.heap.size) w' a n (bs.map bv)∧Below w.heap.size w w'
theorem mV{S:Nat→Prop}(a:Option Addr)(n cap:Nat)(bs:List UInt8)(w:World)(hm:n≤1000000000)(hr:ah S w a n (bs.map bv)):
  Calls Tryz.prog 126 #[.slice a n cap] w (tT w bs):=by
 obtain⟨i0,hi,hz0,hz1,hz2⟩:=aap Tryz.Ny;have hll:bs.length=n:=by have:=hr.length;simpa using this
 have heq:=fun w=>Lib.run_eql_slice_nil (P:=Tryz.prog) w 28 5 a n cap 0 0 Tryz.underlying28;have HR:=acA hr;have HL:=acA hll;clear hr hll;cases a with
 |none=>
  have h0:n=0:=by
   rcases abh n with h0|h0
   ·exact h0
   ·obtain⟨_,_,e,_⟩:=HR.o.at_ h0;cases e
  subst h0;have hb0:bs=[]:=aai HL.o;subst hb0;go_enter Tryz.func126,Tryz.ntmps126;go_wp2;go_ret;exact⟨none,0,_,rfl,Nat.zero_le _,ah.nil _ _ _,Below.refl _ _⟩
 |some ad=>
  have hsz:(w.alloc (.cells #[] 5)).heap.size=w.heap.size+1:=by simp
  have HS:=acA (HR.o.below (wall w (.cells #[] 5)) acC);go_enter Tryz.func126,Tryz.ntmps126;go_wp2_with ((at_builtin;refine aS (by rfl) _ _ 28 (by rfl) w.heap.size 5 i0 (.int .u8 0) 1 Tryz.underlying28 hi hz0 hz1 hz2 rfl _ 0 [] (by rfl) ⟨rfl,.inr ⟨w.heap.size,0,#[],rfl,Nat.le_refl _,(MapKept.heap_alloc w _).1,Nat.le_refl _,Nat.zero_le _,rfl,rfl⟩⟩ (some ad) n cap (bs.map bv) (by rfl) HS.o (eZ bs) (by unfold maxLen;omega) (by omega) (by simp) ?_;intro A' c' w2 hown2 hgrow2 _ _));go_ret;have hB2:Below w.heap.size w w2:=(wall w _).grown hgrow2 (by simp) (fun k hk=>by cases hk;exact Nat.le_refl _);obtain⟨a3,c3,e3,hac⟩:=dI hown2;cases e3;refine⟨_,n,_,rfl,by omega,?_,hB2⟩;have hro:=(ah.pJ hown2).2;rw[List.nil_append]at hro;simpa only[Nat.zero_add]using hro
theorem Jf{S:Nat→Prop}{a:Option Addr}{l k n:Nat}{bs:List UInt8}{w:World}(A N:Nat)(hr:ah S w a l (bs.map bv))(hk:k=min A l)(hn:n=min N (l-A)):ah S w (a.map fun x=>x.add k) n (((bs.drop A).take N).map bv):=by
 have hl:bs.length=l:=by have:=hr.length;simpa using this
 have hs:=hr.small;subst hn;refine⟨by simp[hl],by omega,fun h0=> ?_⟩;obtain⟨b,off,rfl,hS,hb,hc⟩:=hr.at_ (by omega);have hA:k=A:=by omega
 refine⟨b,off+A,by simp[hA,add_plain],hS,hb,fun i hi=> ?_⟩;rw[Nat.add_assoc,hc (A+i) (by omega),List.getElem?_map,List.getElem?_map,aaC,if_pos (by omega),abx]
theorem Fj{S:Nat→Prop}{ad:Addr}{l k n:Nat}{bs:List UInt8}{w:World}(A N:Nat)(hr:ah S w (some ad) l (bs.map bv))(hk:k=min A l)(hn:n=min N (l-A)):ah S w (some (ad.add k)) n (((bs.drop A).take N).map bv):=Jf (a:=some ad) A N hr hk hn
theorem Fp{S:Nat→Prop}{l n:Nat}{bs:List UInt8}{w:World}(A N:Nat)(hr:ah S w none l (bs.map bv))(hn:n=min N (l-A)):ah S w none n (((bs.drop A).take N).map bv):=Jf (a:=none) A N hr rfl hn
theorem Fq{S:Nat→Prop}(a:Option Addr){l n:Nat}{bs:List UInt8}{w:World}(A N:Nat)(hl:bs.length=l)(h:l≤A)(hn:n=min N (l-A)):ah S w a n (((bs.drop A).take N).map bv):=by
 refine ah.zero a _ _ (by omega) ?_;rw[aaD (by omega),List.take_nil];rfl
def tV(w:World)(bs:List UInt8)(k:Int)(e:Ending)(w':World):Prop:=
 ∃a n c,e= .returned (.tuple #[.slice a n c,.int .i64 k])∧n≤c∧ah (fun x=>w.heap.size≤x∧x<w'.heap.size) w' a n (bs.map bv)∧Below w.heap.size w w'
theorem WC{S:Nat→Prop}(a:Option Addr)(l c:Nat)(bs:List UInt8)(A N:Nat)(w:World)(hl:l≤1000000000)(hlc:l≤c)(hc:c≤maxLen)(hA:A≤9223372036854775807)(hN:N≤9223372036854775807)(hr:ah S w a l (bs.map bv)):
  Calls Tryz.prog 146 #[.slice a l c,.int .i64 A,.int .i64 N] w (tV w ((bs.drop A).take N) 0):=by
 unfold maxLen at hc;have z1:(0:Int)≤(A:Int):=by omega
 have z2:(0:Int)≤(N:Int):=by omega
 have z3:decide ((A:Int)<0)=false:=by simp
 have z4:decide ((N:Int)<0)=false:=by simp
 have HR:=acA hr;have hL:bs.length=l:=by have:=hr.length;simpa using this
 have HL:=acA hL;clear hr hL;by_cases hcap:c=min A l
 ·subst hcap;go_enter abS,abH;go_wp2_with fail;refine(mV (S:=S) _ _ _ ((bs.drop A).take N) _ (by omega) (Fq _ A N HL.o (by omega) (by omega))).mono ?_;rintro e w1 ⟨a1,n1,c1,rfl,hn1,hr1,hb1⟩;have HR1:=acA hr1;have HB1:=acA hb1;clear hr1 hb1;go_wp2_with fail
  go_ret2
  exact⟨a1,n1,c1,rfl,hn1,HR1.o,HB1.o⟩
 ·cases a with
  |none=>
   go_enter abS,abH;go_wp2_with fail;refine(mV (S:=S) _ _ _ ((bs.drop A).take N) _ (by omega) (Fp A N HR.o (by omega))).mono ?_;rintro e w1 ⟨a1,n1,c1,rfl,hn1,hr1,hb1⟩;have HR1:=acA hr1;have HB1:=acA hb1;clear hr1 hb1;go_wp2_with fail
   go_ret2
   exact⟨a1,n1,c1,rfl,hn1,HR1.o,HB1.o⟩
  |some ad=>
   go_enter abS,abH;go_wp2_with fail;refine(mV (S:=S) _ _ _ ((bs.drop A).take N) _ (by omega) (Fj A N HR.o (by omega) (by omega))).mono ?_;rintro e w1 ⟨a1,n1,c1,rfl,hn1,hr1,hb1⟩;have HR1:=acA hr1;have HB1:=acA hb1;clear hr1 hb1;go_wp2_with fail
   go_ret2
   exact⟨a1,n1,c1,rfl,hn1,HR1.o,HB1.o⟩
theorem Jg(a:Option Addr)(l c:Nat)(at_ n:Int)(w:World)(h:at_<0∨n<0):
  Calls Tryz.prog 146 #[.slice a l c,.int .i64 at_,.int .i64 n] w (tV w [] 1):=by
 by_cases h1:at_<0
 ·go_enter abS,abH;go_wp2
  go_ret2
  exact⟨none,0,0,rfl,Nat.le_refl _,ah.nil _ _ _,Below.refl _ _⟩
 ·have h2:n<0:=by omega
  have e1:decide (at_<0)=false:=by simpa using h1
  clear h;go_enter abS,abH;go_wp2
  go_ret2
  exact⟨none,0,0,rfl,Nat.le_refl _,ah.nil _ _ _,Below.refl _ _⟩
theorem Sd{S:Nat→Prop}(a:Option Addr)(l c:Nat)(bs:List UInt8)(at_ n:Int)(w:World)(hl:l≤1000000000)(hlc:xq l c)(hA:(Lit.int .i64 at_).wf=true)(hN:(Lit.int .i64 n).wf=true)(hr:ah S w a l (bs.map bv)):
  Calls Tryz.prog 146 #[.slice a l c,.int .i64 at_,.int .i64 n] w (tV w (kU bs at_ n) (oP at_ n)):=by
 simp only[Lit.wf,IntKind.min,IntKind.max,IntKind.signed,IntKind.bits,aaQ,aal]at hA hN;by_cases h:at_<0∨n<0
 ·unfold kU oP;rw[if_pos h,if_pos h];exact Jg a l c at_ n w h
 ·unfold kU oP;rw[if_neg h,if_neg h];have:=WC (S:=S) a l c bs at_.toNat n.toNat w hl hlc.1 hlc.2 (by simp at hA;omega) (by simp at hN;omega) hr;rw[show((at_.toNat:Nat):Int)=at_ by omega,show((n.toNat:Nat):Int)=n by omega]at this;exact this
section
variable{g:Nat→Own}{D:Nat→Prop}{p mb:Nat}{ib nb:Int→Nat}{T:aL}
theorem Sg(id at_ n:Int)(w:World)(h:aO g D w p mb ib nb T)(hok:∀x,aj id T=some x→x.b.length≤4096)(hid:(Lit.int .i64 id).wf=true)(hA:(Lit.int .i64 at_).wf=true)(hN:(Lit.int .i64 n).wf=true):
  Calls Tryz.prog 144 #[ptr p,.int .i64 id,.int .i64 at_,.int .i64 n] w (tV w (jZ T id at_ n) (uJ T id at_ n)):=by
 by_cases hf:bV T id=0
 ·obtain⟨x,hx,hk⟩:=qK hf;have HF:=acA (wH id hx hk w h hid);obtain⟨a,c,c6,hcap,hr,_⟩:=(h.item id x hx).row;have HP:=acA (Sd (S:=D) a x.b.length c x.b at_ n w (by have:=hok x hx;omega) hcap hA hN hr);have e:jZ T id at_ n=kU x.b at_ n∧uJ T id at_ n=oP at_ n:=by
   unfold jZ uJ;rw[hx];simp only[if_neg hk,and_self]
  rw[e.1,e.2];clear h hx hok hA hN hid hf hk e hr hcap;go_enter Tryz.func144,Tryz.ntmps144;go_wp2_with fail;refine HF.o.mono ?_;rintro e w1 ⟨rfl,rfl⟩;go_wp2_with fail;refine HP.o.mono ?_;rintro e w1 ⟨a1,n1,c1,rfl,hn1,hr1,hb1⟩;have HR1:=acA hr1;have HB1:=acA hb1;clear hr1 hb1;go_wp2_with fail
  go_ret2
  exact⟨a1,n1,c1,rfl,hn1,HR1.o,HB1.o⟩
 ·have hne:(bV T id==0)=false:=by simpa using hf
  have HF:=acA (vG id _ rfl hf w h hid);obtain⟨e1,e2⟩:=OU (at_:=at_) (n:=n) hf;rw[e1,e2];obtain⟨k,hk⟩:∃k,k=bV T id:=⟨_,rfl⟩;rw[←hk]at HF hne⊢;clear hf h hk hok e1 e2 hA hN hid;go_enter Tryz.func144,Tryz.ntmps144;go_wp2_with fail;refine HF.o.mono ?_;rintro e w1 ⟨rfl,rfl⟩;go_wp2_with fail
  go_ret2
  exact⟨none,0,0,rfl,Nat.le_refl _,ah.nil _ _ _,Below.refl _ _⟩
theorem CV{S S':Nat→Prop}(a:Option Addr)(l c:Nat)(x:List UInt8)(a':Option Addr)(l' c':Nat)(y:List UInt8)(w:World)(hx:ah S w a l (x.map bv))(hy:ah S' w a' l' (y.map bv))(ht:l+l'≤1000000000):
  Calls Tryz.prog 159 #[.slice (some ⟨w.heap.size,0,none⟩) 2 2] (w.alloc (.cells #[.slice a l c,.slice a' l' c'] 28)) fun e w'=>∃a2 c2,e= .returned (.slice a2 (l+l') c2)∧xq (l+l') c2∧ah (fun b=>w.heap.size≤b∧b<w'.heap.size) w' a2 (l+l') ((x++y).map bv)∧Below w.heap.size w w':=by
 have e1:x.length=l:=by have:=hx.length;simpa using this
 have e2:y.length=l':=by have:=hy.length;simpa using this
 have e3:([x,y]:List (List UInt8)).flatten=x++y:=by simp
 have e4:(x++y).length=l+l':=by rw[List.length_append,e1,e2]
 refine(Lg (S:=fun b=>S b∨S' b) w.heap.size 2 [x,y] _ rfl (by omega) (by simp) (by rw[e3,e4];exact ht) (fun k hk=> ?_)).mono ?_
 ·rcases (show k=0∨k=1 by omega)with rfl|rfl
  ·exact⟨a,l,c,x,qc.1,(hx.below (wall w _) acC).mono fun _=> .inl,rfl⟩
  ·exact⟨a',l',c',y,qc.2,(hy.below (wall w _) acC).mono fun _=> .inr,rfl⟩
 ·rintro e w' ⟨a2,c2,rfl,hc2,hr,hb⟩;rw[e3,e4]at hr hc2;rw[e3,e4];exact⟨a2,c2,rfl,hc2,hr.mono fun b hb=>⟨by simp at hb;omega,hb.2⟩,(wall w _).trans (hb.mono (by simp))⟩
theorem Li{w w1:World}{id:Int}{x:bP}{bs:List UInt8}{a2:Option Addr}{l c2:Nat}{v3 v:Value}(h:aO g D w p mb ib nb T)(hb:Below w.heap.size w w1)(hx:aj id T=some x)(hl:bs.length=l)(hcap:xq (x.b.length+l) c2)
  (hr:ah (fun b=>w.heap.size≤b∧b<w1.heap.size) w1 a2 (x.b.length+l) ((x.b++bs).map bv))(h3:v3= .int .i64 ((x.b.length+l:Nat):Int)):
  Turn g D w p mb (bq id (fun x=>{x with b:=x.b++bs}) T) v (.returned v) ((w1.setCell ⟨ib id,6,none⟩ (.slice a2 (x.b.length+l) c2)).setCell ⟨ib id,3,none⟩ v3):=by
 subst h3;have hA1:=h.below hb acC;have ti:=h.rG id x hx;have hs:=hb.size;have hK:=Keeps.set2 w1 (ib id) 6 3 (.slice a2 (x.b.length+l) c2) (.int .i64 ((x.b.length+l:Nat):Int));obtain⟨ax,cx,_,_,_,hc⟩:=(hA1.item id x hx).row;have hlen:(x.b++bs).length=x.b.length+l:=by rw[List.length_append,hl]
 refine⟨rfl,g,fun b=>D b∨(w.heap.size≤b∧b<w1.heap.size),ib,nb,?_,fun b h=> .inl h,fun b hb=>hb.imp (fun h=>h) fun h=>h.1,?_⟩
 ·refine hA1.bq hx rfl (fun _ h=> .inl h) (fun b hb=> ?_) (by rw[size_set,size_set];exact Nat.le_refl _) (fun b hbw h1 _=>hK.block b hbw (fun e=>h1 (by rw[e];exact ti))) ?_
  ·rw[size_set,size_set];rcases hb with hb|hb
   ·exact⟨hA1.data b hb,hA1.rX b hb⟩
   ·refine⟨?_,hb.2⟩;cases hg:g b with
    |none=>rfl
    |_=>have:=h.low b (by rw[hg];simp);omega
  ·refine⟨⟨a2,c2,?_,by rw[hlen];exact hcap,?_⟩,fun hk=> ?_⟩
   ·rw[aI (aI hc)];simp only[kP,hlen];rfl
   ·rw[hlen];refine hr.move hK.size fun b hb hbw=>⟨.inr hb,hK.block b hbw ?_⟩;have:=h.low (ib id) (by rw[ti];simp);omega
   ·have tn:=h.pI id x hx hk;have e:bW {x with b:=x.b++bs}=bW x:=rfl;rw[e];exact((hA1.item id x hx).names hk).kept (hK.block _ (hA1.low _ (by rw[tn];simp)) (fun e=>by rw[e,ti]at tn;cases tn))
 ·have hgi:g (ib id)≠ .none:=by rw[ti];simp
  exact⟨hK.os.trans hb.os,hK.tape.trans hb.tape,hK.output.trans hb.output,Nat.le_trans hs hK.size,fun b hbw hbg=>(hK.block b (by omega) (fun e=>hbg (by rw[e];exact hgi))).trans (hb.block b hbw)⟩
theorem OV{S:Nat→Prop}(id:Int)(a:Option Addr)(l c:Nat)(bs:List UInt8)(w:World)(h:aO g D w p mb ib nb T)(hok:∀x,aj id T=some x→x.b.length≤4096)(hid:(Lit.int .i64 id).wf=true)(hr:ah S w a l (bs.map bv))(hl:l≤1000000000):
  Calls Tryz.prog 147 #[ptr p,.int .i64 id,.slice a l c] w (Turn g D w p mb (dw T id bs).2 (.int .i64 (dw T id bs).1)):=by
 have HH:=acA h;have hbl:bs.length=l:=by have:=hr.length;simpa using this
 by_cases hf:bV T id=0
 ·obtain⟨x,hx,hk⟩:=qK hf;have HF:=acA (wH id hx hk w h hid);obtain⟨c0,c1,c2,c3,c4,c5,c7,hiw⟩:=(h.item id x hx).cell;have hxb:=hok x hx;have hE:mK T id bs=if x.closed then 27 else if 4096<x.b.length+l then 15 else 0:=by unfold mK;rw[hx,hbl];simp only[if_neg hk]
  have HE:=acA hE;cases hcl:x.closed with
  |true=>
   have HM:acB (dw T id bs=(27,T)):=by
    unfold dw;rw[HE.o,hcl];simp only[if_pos];exact rfl
   rw[hcl]at c5;clear hE hcl hx hk hf h c7 hok hr hbl;go_enter Tryz.func147,Tryz.ntmps147;go_wp2_with fail;refine HF.o.mono ?_;rintro e w1 ⟨rfl,rfl⟩;go_wp2_with fail;go_ret;rw[HM.o];exact Turn.same HH.o acD rfl
  |false=>
   rw[hcl]at c5;by_cases hbig:4096<x.b.length+l
   ·have HM:acB (dw T id bs=(15,T)):=by
     unfold dw;rw[HE.o,hcl];simp only[Bool.false_eq_true,if_false,if_pos hbig];exact rfl
    have hd:decide ((4096:Int)-(x.b.length:Int)<(l:Int))=true:=by simp;omega
    clear hE hcl hx hk hf h c7 hok hr hbl;go_enter Tryz.func147,Tryz.ntmps147;go_wp2_with fail;refine HF.o.mono ?_;rintro e w1 ⟨rfl,rfl⟩;go_wp2_with fail;go_ret;rw[HM.o];exact Turn.same HH.o acD rfl
   ·have HM:acB (dw T id bs=(0,bq id (fun x=>{x with b:=x.b++bs}) T)):=by
     unfold dw;rw[HE.o,hcl];simp only[Bool.false_eq_true,if_false,if_neg hbig];exact rfl
    have hd:decide ((4096:Int)-(x.b.length:Int)<(l:Int))=false:=by simp;omega
    obtain⟨ax,cx,c6,hcap,hrx,hcells⟩:=(h.item id x hx).row;have HC:=acA (CV ax x.b.length cx x.b a l c bs w hrx hr (by omega));have HX:=acA hx;have HCE:=acA hcells;have KY:=acA hbl;clear hE hcl hx hk hf h c7 hok hr hbl hrx hcells hcap;go_enter Tryz.func147,Tryz.ntmps147;go_wp2_with fail;refine HF.o.mono ?_;rintro e w1 ⟨rfl,rfl⟩;go_wp2_with fail;refine HC.o.mono ?_;rintro e w1 ⟨a2,c2',rfl,hcap2,hr2,hb2⟩;have hA1:=HH.o.below hb2 acC;have hi1:=hA1.item id x HX.o;have hfz6:=hi1.frozen 6;have hfz3:=hi1.frozen 3;have hiw1:=hi1.cell.2.2.2.2.2.2.2;obtain⟨_,_,d6,_,_,_⟩:=hi1.row;obtain⟨_,_,_,d3,_,_,_,_⟩:=hi1.cell;have HA1:=acA hA1;have HR2:=acA hr2;have HB2:=acA hb2;have Rq:=acA hcap2;clear hA1 hr2 hb2 hcap2 hi1;go_wp2_with fail;go_ret;rw[HM.o];exact Li HH.o HB2.o HX.o KY.o Rq.o HR2.o (by simp)
 ·have hne:(bV T id==0)=false:=by simpa using hf
  have HF:=acA (vG id _ rfl hf w h hid);have HM:acB (dw T id bs=(bV T id,T)):=by
   unfold dw;rw[Jd hf,if_neg hf];exact rfl
  obtain⟨k,hk⟩:∃k,k=bV T id:=⟨_,rfl⟩;rw[←hk]at HF hne HM;clear hf h hk hok hr hbl;go_enter Tryz.func147,Tryz.ntmps147;go_wp2_with fail;refine HF.o.mono ?_;rintro e w1 ⟨rfl,rfl⟩;go_wp2_with fail;go_ret;rw[HM.o];exact Turn.same HH.o acD rfl
end
def newG(B b:Nat):Own:=if b=B then .items else if b=B+1 then .item 0 else if b=B+2 then .names 0 else .none
theorem WE{w w1 w2:World}(hi:kZ (fun _=>False) w1 0 (w.heap.size+1) (w.heap.size+1+1) (dh 2))(hb:Below (w.heap.size+1) (w.alloc (.map #[] 0)) w1)(hs:w.heap.size+1+1<w1.heap.size)
  (hM:MapAt bY w2 w.heap.size (dW bY.lt 0 (ptr (w.heap.size+1)) []))(hT:w1.mapTurned w2 w.heap.size):
  aO (fun b=>if b=w2.heap.size then .head else newG w.heap.size b) (fun _=>False) (w2.alloc (.cells #[.map (some w.heap.size)] 106)) w2.heap.size w.heap.size (fun _=>w.heap.size+1) (fun _=>w.heap.size+2) wX∧Below w.heap.size w (w2.alloc (.cells #[.map (some w.heap.size)] 106)):=by
 have hsz:=kY hT;have hK:=fJ hT;have hw3:∀b,b<w2.heap.size→(w2.alloc (.cells #[.map (some w.heap.size)] 106)).heap[b]? =w2.heap[b]? :=fun b hb=>abt _ _ _ hb;have hget:∀k x,aj k wX=some x→k=0∧x=dh 2:=fun k x h=>by
  unfold wX at h;rw[iQ]at h;by_cases hk:(0:Int)=k
  ·rw[if_pos hk]at h;exact⟨hk.symm,by cases h;rfl⟩
  ·rw[if_neg hk]at h;cases h
 have hB0:Below w.heap.size w (w.alloc (.map #[] 0)):=wall w _;constructor
 ·refine⟨(MapKept.heap_alloc w2 _).1,?_,fun k x hx=> ?_,by simp,?_,fun k x hx=> ?_,fun k x hx _=> ?_,fun _ h=>h.elim,fun b hb=> ?_,fun _ h=>h.elim⟩
  ·have:=hM.kept (hw3 _ (by omega));exact this
  ·obtain⟨rfl,rfl⟩:=hget k x hx;refine hi.move (by simp;omega) ?_ (fun _=> ?_) (fun _ h=>h.elim)
   ·rw[hw3 _ (by omega),hK.block _ (by omega) (by omega)]
   ·rw[hw3 _ (by omega),hK.block _ (by omega) (by omega)]
  ·rw[if_neg (by omega)];simp[newG]
  ·obtain⟨rfl,rfl⟩:=hget k x hx;rw[if_neg (by omega)];simp[newG]
  ·obtain⟨rfl,rfl⟩:=hget k x hx;rw[if_neg (by omega)];simp[newG]
  ·rw[aad];by_cases h1:b=w2.heap.size
   ·omega
   ·rw[if_neg h1]at hb;unfold newG at hb;by_cases h2:b=w.heap.size
    ·omega
    ·by_cases h3:b=w.heap.size+1
     ·omega
     ·by_cases h4:b=w.heap.size+2
      ·omega
      ·simp[h2,h3,h4]at hb
 ·refine(hB0.trans (hb.mono (by omega))).trans ⟨hK.os,hK.tape,hK.output,by rw[aad];omega,fun b hbw=> ?_⟩;have:=hb.size;rw[aad]at this;rw[hw3 _ (by omega),hK.block _ (by omega) (by omega)]
theorem WG(w:World):Calls Tryz.prog 20 #[] w fun e w'=>∃g mb ib nb p,e= .returned (ptr p)∧aO g (fun _=>False) w' p mb ib nb wX∧(∀b,g b≠ .none→w.heap.size≤b)∧Below w.heap.size w w':=by
 have hmm:= @run_makeMap Tryz.prog;have HST:acB (∀w1,Below (w.heap.size+1) (w.alloc (.map #[] 0)) w1→∃w2,(Instr.mapUpdate 104 (.map (some w.heap.size)) (.int .i64 0) (ptr (w.heap.size+1))).run Tryz.prog w1= .ok () w2∧MapAt bY w2 w.heap.size (dW bY.lt 0 (ptr (w.heap.size+1)) [])∧w1.mapTurned w2 w.heap.size):=fun w1 hb=>by
  have hm1:MapAt bY w1 w.heap.size []:=(MapAt.made (F:=bY) w).kept (hb.block _ (by omega));exact hm1.zP bY Tryz.underlying104 (by show 0<maxLen;unfold maxLen;omega) 0 _ (jU (by omega) (by omega))
 go_enter Tryz.func20,Tryz.ntmps20;go_wp2_with fail;refine(zY _ _ _).mono ?_;rintro e w1 ⟨rfl,hi1,hb1,hs1,hs2⟩;rw[aad]at hi1 hb1 hs1 hs2;obtain⟨w2,hrun2,hM2,OW⟩:=HST.o w1 hb1;have HI1:=acA hi1;have HB1:=acA hb1;have Gt:=acA hM2;have HT2:=acA OW;have hs3:=hs2 rfl;clear hi1 hb1 hM2 OW hs2;go_wp2_with fail;go_ret;obtain⟨h1,h2⟩:=WE HI1.o HB1.o hs3 Gt.o HT2.o;refine⟨_,_,_,_,_,rfl,h1,fun b hb=> ?_,h2⟩;have h3:=HB1.o.size;rw[aad]at h3;have h4:=kY HT2.o;by_cases e1:b=w2.heap.size
 ·omega
 ·rw[if_neg e1]at hb;unfold newG at hb;by_cases e2:b=w.heap.size
  ·omega
  ·by_cases e3:b=w.heap.size+1
   ·omega
   ·by_cases e4:b=w.heap.size+2
    ·omega
    ·simp[e2,e3,e4]at hb
theorem WH:dG wX:=by
 have hget:∀k x,aj k wX=some x→k=0∧x=dh 2:=fun k x h=>by
  unfold wX at h;rw[iQ]at h;by_cases hk:(0:Int)=k
  ·rw[if_pos hk]at h;exact⟨hk.symm,by cases h;rfl⟩
  ·rw[if_neg hk]at h;cases h
 refine⟨⟨by simp[wX,aT],rfl,fun k x hx=> ?_,fun k x hx e he=> ?_,by simp[wX],fun k x hx=> ?_⟩,fun k x hx hk=> ?_⟩
 ·obtain⟨rfl,rfl⟩:=hget k x hx;exact E9 (.inr rfl)
 ·obtain⟨rfl,rfl⟩:=hget k x hx;cases he
 ·obtain⟨rfl,rfl⟩:=hget k x hx;omega
 ·exact absurd (hget k x hx).1 hk
section
variable{g:Nat→Own}{D:Nat→Prop}{p mb:Nat}{ib nb:Int→Nat}{T:aL}
theorem Si(id:Int)(hd:jG T id≠0)(w:World)(h:aO g D w p mb ib nb T)(hid:(Lit.int .i64 id).wf=true):
  Calls Tryz.prog 132 #[ptr p,.int .i64 id] w (Turn g D w p mb (fB T id).2 (.int .i64 (fB T id).1)):=by
 have HH:=acA h;have hcb:(w.alloc (.cells #[.int .i64 id] 3)).cell? ⟨w.heap.size,0,none⟩=some (.int .i64 id):=mU;have hA:=h.below (wall w (.cells #[.int .i64 id] 3)) acC;by_cases hf:bV T id=0
 ·obtain⟨x,hx,hk⟩:=qK hf;have HF:=acA (wH id hx hk _ hA hid);obtain⟨c0,c1,c2,c3,c4,c5,c7,hiw⟩:=(h.item id x hx).cell;have hE:jG T id=if x.closed then 27 else 0:=by unfold jG;rw[hx];simp only[if_neg hk]
  cases hcl:x.closed with
  |false=>exact absurd (by rw[hE,hcl];rfl) hd
  |true=>
   have HM:acB (fB T id=(27,T)):=by
    unfold fB;rw[hE,hcl];simp only[if_pos];exact rfl
   rw[hcl]at c5;clear hE hcl hx hk hf h c7 hA hd;go_enter Tryz.func132,Tryz.ntmps132;go_wp2_with fail;refine HF.o.mono ?_;rintro e w1 ⟨rfl,rfl⟩;go_wp2_with fail;go_ret;rw[HM.o];exact Turn.same HH.o (wall w _) rfl
 ·have hne:(bV T id==0)=false:=by simpa using hf
  have HF:=acA (vG id _ rfl hf _ hA hid);have HM:acB (fB T id=(bV T id,T)):=by
   unfold fB;rw[OT hf,if_neg hf];exact rfl
  obtain⟨k,hk⟩:∃k,k=bV T id:=⟨_,rfl⟩;rw[←hk]at HF hne HM;clear hf h hk hA hd;go_enter Tryz.func132,Tryz.ntmps132;go_wp2_with fail;refine HF.o.mono ?_;rintro e w1 ⟨rfl,rfl⟩;go_wp2_with fail;go_ret;rw[HM.o];exact Turn.same HH.o (wall w _) rfl
end
end Go.Proofs.YtjnhnlabpccgjaaGreatDoor
