/- DERIVED -/
import Derived.Test.YtjnhnlabpccgjaaGreatDoorProg
import Derived.Shelf.Spec.SlicesGrow
import Derived.Test.YtjnhnlabpccgjaaGreatDoorM10
import Derived.Test.YtjnhnlabpccgjaaGreatDoorM03
import Derived.Lib.SliceRun
import Derived.Test.YtjnhnlabpccgjaaGreatDoorM09
set_option maxRecDepth 100000
set_option maxHeartbeats 64000000
set_option linter.all false
namespace Go.Proofs
open Go.Shelf
def Tryz.zZ:Go.Shelf.Ren:=⟨fun|4=>195|n=>n,fun|22=>28|25=>5|3=>3|4=>4|9=>9|20=>20|0=>0|n=>n,fun|n=>n⟩
theorem Tryz.Zx:Go.Proofs.Lays8.n4 Tryz.prog Tryz.zZ:={
 mixed:=by kernel_rfl
 f4:=⟨Tryz.f195.name,by decide,Tryz.func195.trans (congrArg some (by kernel_rfl))⟩
 t0:=Tryz.underlying0
 a0:=Tryz.isAgg0
 z0:=Tryz.sizeOf0
 v0:=Tryz.zeroValue0
 t3:=Tryz.underlying3
 a3:=Tryz.isAgg3
 z3:=Tryz.sizeOf3
 v3:=Tryz.zeroValue3
 t4:=Tryz.underlying4
 a4:=Tryz.isAgg4
 z4:=Tryz.sizeOf4
 v4:=Tryz.zeroValue4
 t9:=Tryz.underlying9
 a9:=Tryz.isAgg9
 z9:=Tryz.sizeOf9
 v9:=Tryz.zeroValue9
 t20:=Tryz.underlying20
 a20:=Tryz.isAgg20
 z20:=Tryz.sizeOf20
 v20:=Tryz.zeroValue20
 t22:=Tryz.underlying28
 a22:=Tryz.isAgg28
 z22:=Tryz.sizeOf28
 v22:=Tryz.zeroValue28}
end Go.Proofs
namespace Go.Proofs.YtjnhnlabpccgjaaGreatDoor
open Go.ChangeShapes Go.WideShapes Go.ChangeAt Go.RowKit
theorem Tq(n:Nat)(w:World)(hn:n≤1000000000):
  Calls Tryz.prog 195 #[.slice none 0 0,.int .i64 n] w fun e w'=>∃v,e= .returned v∧w'.ownsRow w.heap.size 5 1 v 0 []∧Below w.heap.size w w':=by
 obtain⟨i0,hi,hz0,hz1,hz2⟩:=aam Tryz.IY;by_cases h0:n=0
 ·subst h0;refine(Any8.slices_Grow_room Tryz.Zx none 0 0 0 w (by omega) (by omega) (by omega) (by omega)).mono ?_;rintro e w' ⟨rfl,rfl⟩;exact⟨_,rfl,⟨rfl,.inl ⟨rfl,rfl⟩⟩,Below.refl _ _⟩
 ·refine(Any8.slices_Grow_grow Tryz.Zx i0 (.int .u8 0) hi hz0 (by rw[hz1];omega) none 0 0 n [] w (by omega) (by omega) (by rw[hz2];omega) (by omega) (by simp) (fun _=>rfl) (fun a h=>by cases h)).mono ?_;rintro e w' ⟨rfl,rfl⟩;have h1:=grownCap_ge w (0+n) 0 (Tryz.zZ.t 25);have h2:=grownCap_le_maxLen w (0+n) 0 (Tryz.zZ.t 25) (by unfold maxLen;omega);refine⟨_,rfl,⟨rfl,.inr ⟨w.heap.size,_,_,rfl,Nat.le_refl _,(MapKept.heap_alloc w.drew _).1,Nat.zero_le _,h2,?_,rfl⟩⟩,(acv.drew).alloc acu _⟩;have e1:(Value.cells (.int .u8 0)).size=1:=rfl;simp only[Array.size_append,size_zeroCells,List.size_toArray,List.length_nil,e1];omega
theorem FL{w:World}{base:Nat}{e:TypeId}{size:Nat}{v:Value}{n:Nat}{xs:List Value}(h:w.ownsRow base e size v n xs):∃a c,v= .slice a n c∧n≤c∧c≤maxLen:=by
 rcases h.2 with⟨rfl,rfl⟩|⟨g,cap,cur,rfl,_,_,h,h',_⟩
 ·exact⟨_,_,rfl,Nat.le_refl _,Nat.zero_le _⟩
 ·exact⟨_,_,rfl,h,h'⟩
theorem FM(nA:List (List UInt8))(k:Nat)(bs:List UInt8)(h:nA[k]? =some bs):(nA.take (k+1)).flatten=(nA.take k).flatten++bs:=by
 obtain⟨hk,e⟩:=aac.1 h;rw[aae hk,List.flatten_append,e];simp
theorem Xd(nA:List (List UInt8))(k:Nat):(nA.take k).flatten.length≤nA.flatten.length:=by
 conv=>rhs;rw[←aaR k nA,List.flatten_append]
 simp
def sS(nA:List (List UInt8))(k:Nat):List UInt8:=(nA.take k).flatten
def qX(nA:List (List UInt8))(k:Nat):Nat:=(sS nA k).length
theorem LB{S:Nat→Prop}(B n:Nat)(nA:List (List UInt8))(w:World)(hn:n=nA.length)(hn2:n≤1000)(hB:B<w.heap.size)(htot:nA.flatten.length≤1000000000)
  (hc:∀k,k<n→∃a l c bs,w.cell? ⟨B,k,none⟩=some (.slice a l c)∧ah S w a l (bs.map bv)∧nA[k]? =some bs):
  Calls Tryz.prog 159 #[.slice (some ⟨B,0,none⟩) n n] w fun e w'=>∃a c,e= .returned (.slice a nA.flatten.length c)∧(nA.flatten.length≤c∧c≤maxLen)∧ah (fun x=>w.heap.size≤x∧x<w'.heap.size) w' a nA.flatten.length (nA.flatten.map bv)∧Below w.heap.size w w':=by
 obtain⟨i0,hi,hz0,hz1,hz2⟩:=aam Tryz.IY;have HN:=acr hn;have HC:=acr hc;have hle:∀k,qX nA k≤nA.flatten.length:=fun k=>Xd nA k;obtain⟨N,hN⟩:∃N,N=nA.flatten.length:=⟨_,rfl⟩;obtain⟨fl,hfl0⟩:∃fl,fl=nA.flatten:=⟨_,rfl⟩;rw[←hN]at htot hle⊢;rw[←hfl0];have pq:=acr hN;have HFF:=acr hfl0;clear hN hfl0;have FN:=acr hle;have hG:=Tq N w htot;have HG:=acr hG;clear hn hc hle hG;go_enter Tryz.func159,Tryz.ntmps159;go_wp2
 go_loop [3,11] (fun s i=>∃k:Nat,k≤n∧i= .int .i64 k∧s= .int .i64 (qX nA k)) (fun _ i=>n-(intOf i).toNat)
 case atStart=>exact⟨0,by omega,rfl,rfl⟩
 case round=>
  obtain⟨k,hk,rfl,rfl⟩:=hrel;have hlk:=FN.o k;by_cases hlt:k<n
  ·obtain⟨a,l,c,bs,hcell,hS,hp⟩:=HC.o k hlt;have hll:l=bs.length:=by have:=hS.length;simpa using this.symm
   subst hll;have E5:acs (qX nA (k+1)=qX nA k+bs.length):=by unfold qX sS;rw[FM nA k bs hp,List.length_append];exact rfl
   have hlk2:qX nA k+bs.length≤1000000000:=by have:=E5.o;have:=FN.o (k+1);omega
   clear hp hS;go_wp2
   go_round
   case rel=>exact⟨k+1,by omega,by go_num,by rw[E5.o];go_num⟩
   case measure=>simp[intOf];omega
  ·obtain rfl:n=k:=by omega
   have HT:acs (sS nA n=fl∧qX nA n=N):=by
    have:nA.take n=nA:=List.take_of_length_le (by have:=HN.o;omega);unfold qX sS;rw[this];exact⟨HFF.o.symm,pq.o.symm⟩
   rw[HT.o.2];go_wp2_with fail;refine HG.o.mono ?_;rintro e w1 ⟨v,rfl,hown,hb1⟩;have HB1:=acr hb1;have hown0:w1.ownsRow w.heap.size 5 1 v (qX nA 0) ((sS nA 0).map bv):=hown;have HO:=acr hown0;clear hb1 hown hown0 HG;go_wp2_with fail
   go_loopw [6,27] (fun v i wr=>∃k:Nat,k≤n∧i= .int .i64 k∧wr.ownsRow w.heap.size 5 1 v (qX nA k) ((sS nA k).map bv)∧Below w.heap.size w wr) (fun _ i _=>n-(intOf i).toNat)
   case atStart=>exact⟨0,by omega,rfl,HO.o,HB1.o⟩
   case round=>
    obtain⟨k,hk,rfl,hown,hb⟩:=hrel;have hbs:=hb.size;by_cases hlt:k<n
    ·obtain⟨a,l,c,bs,hcell0,hS,hp⟩:=HC.o k hlt;have hcell:=(hb.cell (p:=⟨B,k,none⟩) hB).trans hcell0;have E5:acs (sS nA (k+1)=sS nA k++bs∧qX nA (k+1)=qX nA k+bs.length):=by unfold qX sS;rw[FM nA k bs hp,List.length_append];exact⟨rfl,rfl⟩
     have hll:l=bs.length:=by have:=hS.length;simpa using this.symm
     subst hll;have hlk2:qX nA k+bs.length≤1000000000:=by have:=E5.o.2;have:=FN.o (k+1);omega
     have HS:=acr (hS.below hb acu);have HOW:=acr hown;have HB:=acr hb;clear hp hS hown hb hcell0 hlk;go_wp2_with (at_builtin;refine aQ (by rfl) _ _ 28 (by rfl) w.heap.size 5 i0 (.int .u8 0) 1 Tryz.underlying28 hi hz0 hz1 hz2 rfl _ _ _ (by rfl) HOW.o a bs.length c (bs.map bv) (by rfl) HS.o (dV bs) (by unfold maxLen;omega) (by omega) hbs ?_;intro A' c' w2 hown2 hgrow2 _ _);have E8:=acr hown2;have HG2:=acr hgrow2;clear hown2 hgrow2;go_roundw
     case rel=>
      refine⟨k+1,by omega,by go_num,?_,HB.o.grown HG2.o hbs (dA HOW.o)⟩;rw[E5.o.1,E5.o.2,List.map_append];exact E8.o
     case measure=>simp[intOf];omega
    ·obtain rfl:n=k:=by omega
     rw[HT.o.1,HT.o.2]at hown;obtain⟨a,c,rfl,hac⟩:=FL hown;have HOW:=acr hown;have HB:=acr hb;clear hown hb;go_wp2;go_ret;exact⟨a,c,rfl,hac,(ah.mR HOW.o).2,HB.o⟩
section
variable{g:Nat→Own}{D:Nat→Prop}{p mb:Nat}{ib nb:Int→Nat}{T:aA}
theorem Turn.of{w w':World}{SB nb':Int→Nat}{T':aA}{v:Value}{e:Ending}(he:e= .returned v)(h:aP g D w' p mb SB nb' T')(hK:Keeps (fun b=>g b≠ .none) w w'):Turn g D w p mb T' v e w':=
 ⟨he,g,D,SB,nb',h,fun b h=> .inl h,fun b h=> .inl h,hK⟩
theorem xE{id:Int}(h:dG T id=0):∃x,aj id T=some x∧x.kind≠2:=by
 unfold dG at h;cases hx:aj id T with
 |none=>rw[hx]at h;cases h
 |some x=>
  rw[hx]at h;by_cases hk:x.kind=2
  ·simp only[if_pos hk]at h;cases h
  ·exact⟨x,rfl,hk⟩
theorem PY{id aF:Int}(h:dG T id≠0):uD T id aF=dG T id:=by
 unfold dG at h⊢;unfold uD;cases hx:aj id T with
 |none=>rfl
 |some x=>
  rw[hx]at h;by_cases hk:x.kind=2
  ·simp only[if_pos hk]
  ·simp only[if_neg hk]at h;exact absurd rfl h
theorem Jc{id:Int}{b:List UInt8}(h:dG T id≠0):lG T id b=dG T id:=by
 unfold dG at h⊢;unfold lG;cases hx:aj id T with
 |none=>rfl
 |some x=>
  rw[hx]at h;by_cases hk:x.kind=2
  ·simp only[if_pos hk]
  ·simp only[if_neg hk]at h;exact absurd rfl h
theorem PZ{id:Int}(h:dG T id≠0):jf T id=dG T id:=by
 unfold dG at h⊢;unfold jf;cases hx:aj id T with
 |none=>rfl
 |some x=>
  rw[hx]at h;by_cases hk:x.kind=2
  ·simp only[if_pos hk]
  ·simp only[if_neg hk]at h;exact absurd rfl h
theorem Xe(id aF:Int)(w:World)(h:aP g D w p mb ib nb T)(hid:(Lit.int .i64 id).wf=true)(ht0:0≤aF)(ht1:aF≤18446744073709551615):
  Calls Tryz.prog 148 #[ptr p,.int .i64 id,.int .u64 aF] w (Turn g D w p mb (dY T id aF).2 (.int .i64 (dY T id aF).1)):=by
 have HH:=acr h;by_cases hf:dG T id=0
 ·obtain⟨x,hx,hk⟩:=xE hf;have HF:=acr (Ci id hx hk w h hid);obtain⟨c0,c1,c2,c3,c4,c5,c7,hiw⟩:=(h.item id x hx).cell;have HX:=acr hx;have hE:uD T id aF=if x.closed then 27 else if 1099511627776<aF then 1 else 0:=by unfold uD;rw[hx];simp only[if_neg hk]
  have HE:=acr hE;cases hcl:x.closed with
  |true=>
   have HM:acs (dY T id aF=(27,T)):=by
    unfold dY;rw[HE.o,hcl];simp only[if_pos];exact rfl
   rw[hcl]at c5;clear hE hcl hx hk hf h c7;go_enter Tryz.func148,Tryz.ntmps148;go_wp2_with fail;refine HF.o.mono ?_;rintro e w1 ⟨rfl,rfl⟩;go_wp2_with fail;go_ret;rw[HM.o];exact Turn.same HH.o acv rfl
  |false=>
   rw[hcl]at c5;by_cases htl:1099511627776<aF
   ·have HM:acs (dY T id aF=(1,T)):=by
     unfold dY;rw[HE.o,hcl];simp only[abe,if_false,if_pos htl];exact rfl
    clear hE hcl hx hk hf h c7;go_enter Tryz.func148,Tryz.ntmps148;go_wp2_with fail;refine HF.o.mono ?_;rintro e w1 ⟨rfl,rfl⟩;go_wp2_with fail;go_ret;rw[HM.o];exact Turn.same HH.o acv rfl
   ·have HM:acs (dY T id aF=(0,gY (bC id (fun x=>{x with closed:=true,aF:=aF}) T) id)):=by
     unfold dY;rw[HE.o,hcl];simp only[abe,if_false,if_neg htl];exact rfl
    have hfz4:=(h.item id x hx).frozen 4;have hfz5:=(h.item id x hx).frozen 5;have hA1:aP g D ((w.setCell ⟨ib id,5,none⟩ (.bool true)).setCell ⟨ib id,4,none⟩ (.int .u64 aF)) p mb ib nb (bC id (fun x=>{x with closed:=true,aF:=aF}) T):=by
     refine h.fields hx (fun x=>{x with closed:=true,aF:=aF}) rfl rfl rfl (Keeps.set2 w _ _ _ _ _) (by rw[size_set,size_set]) fun a c hc=> ?_;rw[aO (aO hc)];rfl
    have hx1:aj id (bC id (fun x=>{x with closed:=true,aF:=aF}) T)=some {x with closed:=true,aF:=aF}:=by rw[bf,if_pos rfl,hx];rfl
    have HS:=acr (Db id hx1 hid _ hA1);have hgi:=h.qg id x hx;have hgm:=h.jQ;have HGI:acs (∀b,(b=ib id∨b=mb)→g b≠ .none):=fun b hb=>by
     rcases hb with rfl|rfl
     ·rw[hgi];simp
     ·rw[hgm];simp
    clear hE hcl hx hk hf h c7 hA1 hx1 hgi hgm;go_enter Tryz.func148,Tryz.ntmps148;go_wp2_with fail;refine HF.o.mono ?_;rintro e w1 ⟨rfl,rfl⟩;go_wp2_with fail;refine HS.o.mono ?_;rintro e w1 ⟨rfl,hA2,hK2,hs2⟩;have HA2:=acr hA2;have N9:=acr hK2;clear hA2 hK2;go_wp2_with fail;go_ret;rw[HM.o];exact Turn.of rfl HA2.o (((Keeps.set2 w (ib id) 5 4 _ _).mono fun b _ hb=>HGI.o b (.inl hb)).trans (N9.o.mono fun b _ hb=>HGI.o b (.inr hb)) (fun _ _ h=>h))
 ·have hne:(dG T id==0)=false:=by simpa using hf
  have HF:=acr (Da id _ rfl hf w h hid);have HM:acs (dY T id aF=(dG T id,T)):=by
   unfold dY;rw[PY hf,if_neg hf];exact rfl
  obtain⟨k,hk⟩:∃k,k=dG T id:=⟨_,rfl⟩;rw[←hk]at HF hne HM;clear hf h hk;go_enter Tryz.func148,Tryz.ntmps148;go_wp2_with fail;refine HF.o.mono ?_;rintro e w1 ⟨rfl,rfl⟩;go_wp2_with fail;go_ret;rw[HM.o];exact Turn.same HH.o acv rfl
end
def z_(w:World)(bs:List UInt8)(e:Ending)(w':World):Prop:=
 ∃a n c,e= .returned (.slice a n c)∧n≤c∧ah (fun x=>w.heap.size≤x∧x<w'.heap.size) w' a n (bs.map bv)∧Below w.heap.size w w'
def fB(w:World)(bs:List UInt8)(e:Ending)(w':World):Prop:=
 ∃a c,e= .returned (.slice a bs.length c)∧w'.ownsRow w.heap.size 5 1 (.slice a bs.length c) bs.length (bs.map bv)∧Below w.heap.size w w'
theorem P5{w:World}{B B':Nat}{e:TypeId}{s:Nat}{v:Value}{n:Nat}{xs:List Value}(h:w.ownsRow B e s v n xs)(hB:B'≤B):w.ownsRow B' e s v n xs:=by
 refine⟨h.1,?_⟩;rcases h.2 with h1|⟨g,cap,cur,e1,hg,r⟩
 ·exact .inl h1
 ·exact .inr ⟨g,cap,cur,e1,aax hB hg,r⟩
theorem LC{S:Nat→Prop}(a:Option Addr)(n cap:Nat)(bs:List UInt8)(w:World)(hm:n≤1000000000)(hr:ah S w a n (bs.map bv)):
  Calls Tryz.prog 126 #[.slice a n cap] w (z_ w bs):=by
 obtain⟨i0,hi,hz0,hz1,hz2⟩:=aam Tryz.IY;have hll:bs.length=n:=by have:=hr.length;simpa using this
 have heq:=fun w=>Lib.run_eql_slice_nil (P:=Tryz.prog) w 28 5 a n cap 0 0 Tryz.underlying28;have HR:=acr hr;have HL:=acr hll;clear hr hll;cases a with
 |none=>
  have h0:n=0:=by
   rcases abv n with h0|h0
   ·exact h0
   ·obtain⟨_,_,e,_⟩:=HR.o.at_ h0;cases e
  subst h0;have hb0:bs=[]:=aad HL.o;subst hb0;go_enter Tryz.func126,Tryz.ntmps126;go_wp2;go_ret;exact⟨none,0,_,rfl,Nat.zero_le _,ah.nil _ _ _,Below.refl _ _⟩
 |some ad=>
  have hsz:(w.alloc (.cells #[] 5)).heap.size=w.heap.size+1:=by simp
  have HS:=acr (HR.o.below (wall w (.cells #[] 5)) acu);go_enter Tryz.func126,Tryz.ntmps126;go_wp2_with ((at_builtin;refine aQ (by rfl) _ _ 28 (by rfl) w.heap.size 5 i0 (.int .u8 0) 1 Tryz.underlying28 hi hz0 hz1 hz2 rfl _ 0 [] (by rfl) ⟨rfl,.inr ⟨w.heap.size,0,#[],rfl,Nat.le_refl _,(MapKept.heap_alloc w _).1,Nat.le_refl _,Nat.zero_le _,rfl,rfl⟩⟩ (some ad) n cap (bs.map bv) (by rfl) HS.o (dV bs) (by unfold maxLen;omega) (by omega) (by simp) ?_;intro A' c' w2 hown2 hgrow2 _ _));go_ret;have hB2:Below w.heap.size w w2:=(wall w _).grown hgrow2 (by simp) (fun k hk=>by cases hk;exact Nat.le_refl _);obtain⟨a3,c3,e3,hac⟩:=fM hown2;cases e3;refine⟨_,n,_,rfl,by omega,?_,hB2⟩;have hro:=(ah.mR hown2).2;rw[List.nil_append]at hro;simpa only[Nat.zero_add]using hro
theorem Jd{S:Nat→Prop}(a:Option Addr)(n cap:Nat)(bs:List UInt8)(w:World)(hn0:0<n)(hm:n≤1000000000)(hr:ah S w a n (bs.map bv)):
  Calls Tryz.prog 126 #[.slice a n cap] w (fB w bs):=by
 obtain⟨i0,hi,hz0,hz1,hz2⟩:=aam Tryz.IY;have hll:bs.length=n:=by have:=hr.length;simpa using this
 have heq:=fun w=>Lib.run_eql_slice_nil (P:=Tryz.prog) w 28 5 a n cap 0 0 Tryz.underlying28;have HR:=acr hr;have HL:=acr hll;clear hr hll;obtain⟨ad,rfl⟩:∃ad,a=some ad:=by
  obtain⟨b,off,e,_⟩:=HR.o.at_ hn0;exact⟨_,e⟩
 have hsz:(w.alloc (.cells #[] 5)).heap.size=w.heap.size+1:=by simp
 have HS:=acr (HR.o.below (wall w (.cells #[] 5)) acu);go_enter Tryz.func126,Tryz.ntmps126;go_wp2_with ((at_builtin;refine aQ (by rfl) _ _ 28 (by rfl) w.heap.size 5 i0 (.int .u8 0) 1 Tryz.underlying28 hi hz0 hz1 hz2 rfl _ 0 [] (by rfl) ⟨rfl,.inr ⟨w.heap.size,0,#[],rfl,Nat.le_refl _,(MapKept.heap_alloc w _).1,Nat.le_refl _,Nat.zero_le _,rfl,rfl⟩⟩ (some ad) n cap (bs.map bv) (by rfl) HS.o (dV bs) (by unfold maxLen;omega) (by omega) (by simp) ?_;intro A' c' w2 hown2 hgrow2 _ _));go_ret;have hB2:Below w.heap.size w w2:=(wall w _).grown hgrow2 (by simp) (fun k hk=>by cases hk;exact Nat.le_refl _);have hl:=HL.o;subst hl;rw[Nat.zero_add]at hown2;exact⟨A',c',rfl,by simpa using hown2,hB2⟩
section
variable{g:Nat→Own}{D:Nat→Prop}{p mb:Nat}{ib nb:Int→Nat}{T:aA}
theorem LD{S S':Nat→Prop}(a:Option Addr)(l c:Nat)(x:List UInt8)(a':Option Addr)(l' c':Nat)(y:List UInt8)(w:World)(hx:ah S w a l (x.map bv))(hy:ah S' w a' l' (y.map bv))(ht:l+l'≤1000000000):
  Calls Tryz.prog 159 #[.slice (some ⟨w.heap.size,0,none⟩) 2 2] (w.alloc (.cells #[.slice a l c,.slice a' l' c'] 28)) fun e w'=>∃a2 c2,e= .returned (.slice a2 (l+l') c2)∧ny (l+l') c2∧ah (fun b=>w.heap.size≤b∧b<w'.heap.size) w' a2 (l+l') ((x++y).map bv)∧Below w.heap.size w w':=by
 have e1:x.length=l:=by have:=hx.length;simpa using this
 have e2:y.length=l':=by have:=hy.length;simpa using this
 have e3:([x,y]:List (List UInt8)).flatten=x++y:=by simp
 have e4:(x++y).length=l+l':=by rw[List.length_append,e1,e2]
 refine(LB (S:=fun b=>S b∨S' b) w.heap.size 2 [x,y] _ rfl (by omega) (by simp) (by rw[e3,e4];exact ht) (fun k hk=> ?_)).mono ?_
 ·rcases (show k=0∨k=1 by omega)with rfl|rfl
  ·exact⟨a,l,c,x,yL.1,(hx.below (wall w _) acu).mono fun _=> .inl,rfl⟩
  ·exact⟨a',l',c',y,yL.2,(hy.below (wall w _) acu).mono fun _=> .inr,rfl⟩
 ·rintro e w' ⟨a2,c2,rfl,hc2,hr,hb⟩;rw[e3,e4]at hr hc2;rw[e3,e4];exact⟨a2,c2,rfl,hc2,hr.mono fun b hb=>⟨by simp at hb;omega,hb.2⟩,(wall w _).trans (hb.mono (by simp))⟩
theorem LG{w w1:World}{id:Int}{x:bJ}{bs:List UInt8}{a2:Option Addr}{l c2:Nat}{v3 v:Value}(h:aP g D w p mb ib nb T)(hb:Below w.heap.size w w1)(hx:aj id T=some x)(hl:bs.length=l)(hcap:ny (x.b.length+l) c2)
  (hr:ah (fun b=>w.heap.size≤b∧b<w1.heap.size) w1 a2 (x.b.length+l) ((x.b++bs).map bv))(h3:v3= .int .i64 ((x.b.length+l:Nat):Int)):
  Turn g D w p mb (bC id (fun x=>{x with b:=x.b++bs}) T) v (.returned v) ((w1.setCell ⟨ib id,6,none⟩ (.slice a2 (x.b.length+l) c2)).setCell ⟨ib id,3,none⟩ v3):=by
 subst h3;have hA1:=h.below hb acu;have ti:=h.qg id x hx;have hs:=hb.size;have hK:=Keeps.set2 w1 (ib id) 6 3 (.slice a2 (x.b.length+l) c2) (.int .i64 ((x.b.length+l:Nat):Int));obtain⟨ax,cx,_,_,_,hc⟩:=(hA1.item id x hx).row;have hlen:(x.b++bs).length=x.b.length+l:=by rw[List.length_append,hl]
 refine⟨rfl,g,fun b=>D b∨(w.heap.size≤b∧b<w1.heap.size),ib,nb,?_,fun b h=> .inl h,fun b hb=>hb.imp (fun h=>h) fun h=>h.1,?_⟩
 ·refine hA1.bC hx rfl (fun _ h=> .inl h) (fun b hb=> ?_) (by rw[size_set,size_set];exact Nat.le_refl _) (fun b hbw h1 _=>hK.block b hbw (fun e=>h1 (by rw[e];exact ti))) ?_
  ·rw[size_set,size_set];rcases hb with hb|hb
   ·exact⟨hA1.data b hb,hA1.o_ b hb⟩
   ·refine⟨?_,hb.2⟩;cases hg:g b with
    |none=>rfl
    |_=>have:=h.low b (by rw[hg];simp);omega
  ·refine⟨⟨a2,c2,?_,by rw[hlen];exact hcap,?_⟩,fun hk=> ?_⟩
   ·rw[aO (aO hc)];simp only[ji,hlen];rfl
   ·rw[hlen];refine hr.move hK.size fun b hb hbw=>⟨.inr hb,hK.block b hbw ?_⟩;have:=h.low (ib id) (by rw[ti];simp);omega
   ·have tn:=h.nG id x hx hk;have e:fA {x with b:=x.b++bs}=fA x:=rfl;rw[e];exact((hA1.item id x hx).names hk).kept (hK.block _ (hA1.low _ (by rw[tn];simp)) (fun e=>by rw[e,ti]at tn;cases tn))
 ·have hgi:g (ib id)≠ .none:=by rw[ti];simp
  exact⟨hK.os.trans hb.os,hK.tape.trans hb.tape,hK.output.trans hb.output,aax hs hK.size,fun b hbw hbg=>(hK.block b (by omega) (fun e=>hbg (by rw[e];exact hgi))).trans (hb.block b hbw)⟩
theorem P6{S:Nat→Prop}(id:Int)(a:Option Addr)(l c:Nat)(bs:List UInt8)(w:World)(h:aP g D w p mb ib nb T)(hok:∀x,aj id T=some x→x.b.length≤4096)(hid:(Lit.int .i64 id).wf=true)(hr:ah S w a l (bs.map bv))(hl:l≤1000000000):
  Calls Tryz.prog 147 #[ptr p,.int .i64 id,.slice a l c] w (Turn g D w p mb (cK T id bs).2 (.int .i64 (cK T id bs).1)):=by
 have HH:=acr h;have hbl:bs.length=l:=by have:=hr.length;simpa using this
 by_cases hf:dG T id=0
 ·obtain⟨x,hx,hk⟩:=xE hf;have HF:=acr (Ci id hx hk w h hid);obtain⟨c0,c1,c2,c3,c4,c5,c7,hiw⟩:=(h.item id x hx).cell;have hxb:=hok x hx;have hE:lG T id bs=if x.closed then 27 else if 4096<x.b.length+l then 15 else 0:=by unfold lG;rw[hx,hbl];simp only[if_neg hk]
  have HE:=acr hE;cases hcl:x.closed with
  |true=>
   have HM:acs (cK T id bs=(27,T)):=by
    unfold cK;rw[HE.o,hcl];simp only[if_pos];exact rfl
   rw[hcl]at c5;clear hE hcl hx hk hf h c7 hok hr hbl;go_enter Tryz.func147,Tryz.ntmps147;go_wp2_with fail;refine HF.o.mono ?_;rintro e w1 ⟨rfl,rfl⟩;go_wp2_with fail;go_ret;rw[HM.o];exact Turn.same HH.o acv rfl
  |false=>
   rw[hcl]at c5;by_cases hbig:4096<x.b.length+l
   ·have HM:acs (cK T id bs=(15,T)):=by
     unfold cK;rw[HE.o,hcl];simp only[abe,if_false,if_pos hbig];exact rfl
    have hd:decide ((4096:Int)-(x.b.length:Int)<(l:Int))=true:=by simp;omega
    clear hE hcl hx hk hf h c7 hok hr hbl;go_enter Tryz.func147,Tryz.ntmps147;go_wp2_with fail;refine HF.o.mono ?_;rintro e w1 ⟨rfl,rfl⟩;go_wp2_with fail;go_ret;rw[HM.o];exact Turn.same HH.o acv rfl
   ·have HM:acs (cK T id bs=(0,bC id (fun x=>{x with b:=x.b++bs}) T)):=by
     unfold cK;rw[HE.o,hcl];simp only[abe,if_false,if_neg hbig];exact rfl
    have hd:decide ((4096:Int)-(x.b.length:Int)<(l:Int))=false:=by simp;omega
    obtain⟨ax,cx,c6,hcap,hrx,hcells⟩:=(h.item id x hx).row;have HC:=acr (LD ax x.b.length cx x.b a l c bs w hrx hr (by omega));have HX:=acr hx;have HCE:=acr hcells;have N_:=acr hbl;clear hE hcl hx hk hf h c7 hok hr hbl hrx hcells hcap;go_enter Tryz.func147,Tryz.ntmps147;go_wp2_with fail;refine HF.o.mono ?_;rintro e w1 ⟨rfl,rfl⟩;go_wp2_with fail;refine HC.o.mono ?_;rintro e w1 ⟨a2,c2',rfl,hcap2,hr2,hb2⟩;have hA1:=HH.o.below hb2 acu;have hi1:=hA1.item id x HX.o;have hfz6:=hi1.frozen 6;have hfz3:=hi1.frozen 3;have hiw1:=hi1.cell.2.2.2.2.2.2.2;obtain⟨_,_,d6,_,_,_⟩:=hi1.row;obtain⟨_,_,_,d3,_,_,_,_⟩:=hi1.cell;have HA1:=acr hA1;have HR2:=acr hr2;have HB2:=acr hb2;have HCP:=acr hcap2;clear hA1 hr2 hb2 hcap2 hi1;go_wp2_with fail;go_ret;rw[HM.o];exact LG HH.o HB2.o HX.o N_.o HCP.o HR2.o (by simp)
 ·have hne:(dG T id==0)=false:=by simpa using hf
  have HF:=acr (Da id _ rfl hf w h hid);have HM:acs (cK T id bs=(dG T id,T)):=by
   unfold cK;rw[Jc hf,if_neg hf];exact rfl
  obtain⟨k,hk⟩:∃k,k=dG T id:=⟨_,rfl⟩;rw[←hk]at HF hne HM;clear hf h hk hok hr hbl;go_enter Tryz.func147,Tryz.ntmps147;go_wp2_with fail;refine HF.o.mono ?_;rintro e w1 ⟨rfl,rfl⟩;go_wp2_with fail;go_ret;rw[HM.o];exact Turn.same HH.o acv rfl
end
def newG(B b:Nat):Own:=if b=B then .items else if b=B+1 then .item 0 else if b=B+2 then .names 0 else .none
theorem Xf{w w1 w2:World}(hi:jD (fun _=>False) w1 0 (w.heap.size+1) (w.heap.size+1+1) (cu 2))(hb:Below (w.heap.size+1) (w.alloc (.map #[] 0)) w1)(hs:w.heap.size+1+1<w1.heap.size)
  (hM:MapAt bK w2 w.heap.size (b_ bK.lt 0 (ptr (w.heap.size+1)) []))(hT:w1.mapTurned w2 w.heap.size):
  aP (fun b=>if b=w2.heap.size then .head else newG w.heap.size b) (fun _=>False) (w2.alloc (.cells #[.map (some w.heap.size)] 106)) w2.heap.size w.heap.size (fun _=>w.heap.size+1) (fun _=>w.heap.size+2) wO∧Below w.heap.size w (w2.alloc (.cells #[.map (some w.heap.size)] 106)):=by
 have hsz:=jL hT;have hK:=iF hT;have hw3:∀b,b<w2.heap.size→(w2.alloc (.cells #[.map (some w.heap.size)] 106)).heap[b]? =w2.heap[b]? :=fun b hb=>abr _ _ _ hb;have hget:∀k x,aj k wO=some x→k=0∧x=cu 2:=fun k x h=>by
  unfold wO at h;rw[fF]at h;by_cases hk:(0:Int)=k
  ·rw[if_pos hk]at h;exact⟨hk.symm,by cases h;rfl⟩
  ·rw[if_neg hk]at h;cases h
 have hB0:Below w.heap.size w (w.alloc (.map #[] 0)):=wall w _;constructor
 ·refine⟨(MapKept.heap_alloc w2 _).1,?_,fun k x hx=> ?_,by simp,?_,fun k x hx=> ?_,fun k x hx _=> ?_,fun _ h=>h.elim,fun b hb=> ?_,fun _ h=>h.elim⟩
  ·have:=hM.kept (hw3 _ (by omega));exact this
  ·obtain⟨rfl,rfl⟩:=hget k x hx;refine hi.move (by simp;omega) ?_ (fun _=> ?_) (fun _ h=>h.elim)
   ·rw[hw3 _ (by omega),hK.block _ (by omega) (by omega)]
   ·rw[hw3 _ (by omega),hK.block _ (by omega) (by omega)]
  ·rw[if_neg (by omega)];simp[newG]
  ·obtain⟨rfl,rfl⟩:=hget k x hx;rw[if_neg (by omega)];simp[newG]
  ·obtain⟨rfl,rfl⟩:=hget k x hx;rw[if_neg (by omega)];simp[newG]
  ·rw[Pe];by_cases h1:b=w2.heap.size
   ·omega
   ·rw[if_neg h1]at hb;unfold newG at hb;by_cases h2:b=w.heap.size
    ·omega
    ·by_cases h3:b=w.heap.size+1
     ·omega
     ·by_cases h4:b=w.heap.size+2
      ·omega
      ·simp[h2,h3,h4]at hb
 ·refine(hB0.trans (hb.mono (by omega))).trans ⟨hK.os,hK.tape,hK.output,by rw[Pe];omega,fun b hbw=> ?_⟩;have:=hb.size;rw[Pe]at this;rw[hw3 _ (by omega),hK.block _ (by omega) (by omega)]
theorem Xg(w:World):Calls Tryz.prog 20 #[] w fun e w'=>∃g mb ib nb p,e= .returned (ptr p)∧aP g (fun _=>False) w' p mb ib nb wO∧(∀b,g b≠ .none→w.heap.size≤b)∧Below w.heap.size w w':=by
 have hmm:= @run_makeMap Tryz.prog;have HST:acs (∀w1,Below (w.heap.size+1) (w.alloc (.map #[] 0)) w1→∃w2,(Instr.mapUpdate 104 (.map (some w.heap.size)) (.int .i64 0) (ptr (w.heap.size+1))).run Tryz.prog w1= .ok () w2∧MapAt bK w2 w.heap.size (b_ bK.lt 0 (ptr (w.heap.size+1)) [])∧w1.mapTurned w2 w.heap.size):=fun w1 hb=>by
  have hm1:MapAt bK w1 w.heap.size []:=(MapAt.made (F:=bK) w).kept (hb.block _ (by omega));exact hm1.rT bK Tryz.underlying104 (by show 0<maxLen;unfold maxLen;omega) 0 _ (kD (by omega) (by omega))
 go_enter Tryz.func20,Tryz.ntmps20;go_wp2_with fail;refine(zY _ _ _).mono ?_;rintro e w1 ⟨rfl,hi1,hb1,hs1,hs2⟩;rw[Pe]at hi1 hb1 hs1 hs2;obtain⟨w2,hrun2,hM2,WK⟩:=HST.o w1 hb1;have HI1:=acr hi1;have HB1:=acr hb1;have zO:=acr hM2;have HT2:=acr WK;have hs3:=hs2 rfl;clear hi1 hb1 hM2 WK hs2;go_wp2_with fail;go_ret;obtain⟨h1,h2⟩:=Xf HI1.o HB1.o hs3 zO.o HT2.o;refine⟨_,_,_,_,_,rfl,h1,fun b hb=> ?_,h2⟩;have h3:=HB1.o.size;rw[Pe]at h3;have h4:=jL HT2.o;by_cases e1:b=w2.heap.size
 ·omega
 ·rw[if_neg e1]at hb;unfold newG at hb;by_cases e2:b=w.heap.size
  ·omega
  ·by_cases e3:b=w.heap.size+1
   ·omega
   ·by_cases e4:b=w.heap.size+2
    ·omega
    ·simp[e2,e3,e4]at hb
theorem Xh:dZ wO:=by
 have hget:∀k x,aj k wO=some x→k=0∧x=cu 2:=fun k x h=>by
  unfold wO at h;rw[fF]at h;by_cases hk:(0:Int)=k
  ·rw[if_pos hk]at h;exact⟨hk.symm,by cases h;rfl⟩
  ·rw[if_neg hk]at h;cases h
 refine⟨⟨by simp[wO,aI],rfl,fun k x hx=> ?_,fun k x hx e he=> ?_,by simp[wO],fun k x hx=> ?_⟩,fun k x hx hk=> ?_⟩
 ·obtain⟨rfl,rfl⟩:=hget k x hx;exact FE (.inr rfl)
 ·obtain⟨rfl,rfl⟩:=hget k x hx;cases he
 ·obtain⟨rfl,rfl⟩:=hget k x hx;omega
 ·exact absurd (hget k x hx).1 hk
section
variable{g:Nat→Own}{D:Nat→Prop}{p mb:Nat}{ib nb:Int→Nat}{T:aA}
theorem Tt(id:Int)(hd:jf T id≠0)(w:World)(h:aP g D w p mb ib nb T)(hid:(Lit.int .i64 id).wf=true):
  Calls Tryz.prog 132 #[ptr p,.int .i64 id] w (Turn g D w p mb (dO T id).2 (.int .i64 (dO T id).1)):=by
 have HH:=acr h;have hcb:(w.alloc (.cells #[.int .i64 id] 3)).cell? ⟨w.heap.size,0,none⟩=some (.int .i64 id):=qj;have hA:=h.below (wall w (.cells #[.int .i64 id] 3)) acu;by_cases hf:dG T id=0
 ·obtain⟨x,hx,hk⟩:=xE hf;have HF:=acr (Ci id hx hk _ hA hid);obtain⟨c0,c1,c2,c3,c4,c5,c7,hiw⟩:=(h.item id x hx).cell;have hE:jf T id=if x.closed then 27 else 0:=by unfold jf;rw[hx];simp only[if_neg hk]
  cases hcl:x.closed with
  |false=>exact absurd (by rw[hE,hcl];rfl) hd
  |true=>
   have HM:acs (dO T id=(27,T)):=by
    unfold dO;rw[hE,hcl];simp only[if_pos];exact rfl
   rw[hcl]at c5;clear hE hcl hx hk hf h c7 hA hd;go_enter Tryz.func132,Tryz.ntmps132;go_wp2_with fail;refine HF.o.mono ?_;rintro e w1 ⟨rfl,rfl⟩;go_wp2_with fail;go_ret;rw[HM.o];exact Turn.same HH.o (wall w _) rfl
 ·have hne:(dG T id==0)=false:=by simpa using hf
  have HF:=acr (Da id _ rfl hf _ hA hid);have HM:acs (dO T id=(dG T id,T)):=by
   unfold dO;rw[PZ hf,if_neg hf];exact rfl
  obtain⟨k,hk⟩:∃k,k=dG T id:=⟨_,rfl⟩;rw[←hk]at HF hne HM;clear hf h hk hA hd;go_enter Tryz.func132,Tryz.ntmps132;go_wp2_with fail;refine HF.o.mono ?_;rintro e w1 ⟨rfl,rfl⟩;go_wp2_with fail;go_ret;rw[HM.o];exact Turn.same HH.o (wall w _) rfl
end
section
variable{g:Nat→Own}{D:Nat→Prop}{p mb:Nat}{ib nb:Int→Nat}{T:aA}
theorem dh{id:Int}{x:bJ}(hx:aj id T=some x):bI T id=x.kind:=by unfold bI;rw[hx]
theorem dZ.link(h:dZ T){d id:Int}{x y:bJ}{n:Nm}(hx:aj d T=some x)(hxk:x.kind=2)(hn:bT n=true)(hnn:aj n x.names=none)(hy:aj id T=some y)(hyk:y.kind≠2)(hl:y.links<64)(h0:id≠0):
  dZ (Go.Proofs.YtjnhnlabpccgjaaGreatDoor.bC id (fun x=>{x with links:=x.links+1}) (setName T d n id)):=by
 have hdi:id≠d:=fun e=>by subst e;rw[hx]at hy;cases hy;exact hyk hxk
 have hP:=h.towP.set (n:=n) (id:=id) hx hxk hn ⟨by rw[hy];rfl,h0⟩;have hy1:aj id (setName T d n id)=some y:=by unfold setName;rw[bf,if_neg hdi];exact hy
 have hoy:=h.each id y hy;have hk1:y.kind=1:=hoy.kind.resolve_right hyk;have hsame:cn id {y with links:=y.links+1}=cn id y:=rfl;refine⟨hP.bC (f:=fun x=>{x with links:=x.links+1}) hy1 ⟨hoy.kind,hoy.file,fun h=>absurd h hyk,fun h=> ?_,hoy.sorted,hoy.good,hoy.size,?_,hoy.aF⟩ rfl (hP.leads id y hy1),fun j z hz hj=> ?_⟩
 ·have:=hoy.links;have h2:y.links+1=0:=h;omega
 ·have:=hoy.links;simp only;omega
 ·have h1:=nH hP.sorted (fun x=>{x with links:=x.links+1}) hy1 j;have h1':cn j {y with links:=y.links+1}=cn j y:=rfl;have h2:=nH h.sorted (fun x=>{x with names:=b_ bytesBefore n id x.names}) hx j;have h3:=Lv (id:=id) hnn j;have e:fV (Go.Proofs.YtjnhnlabpccgjaaGreatDoor.bC id (fun x=>{x with links:=x.links+1}) (setName T d n id)) j=fV T j+if id=j then 1 else 0:=by
   unfold setName at h1⊢;rw[h1']at h1;omega
  rw[e];rw[bf]at hz;by_cases hji:j=id
  ·subst hji;rw[if_pos rfl,hy1]at hz;simp only[aao,Pd]at hz;rw[←hz,if_pos rfl];have:=h.counts j y hy hj;simp only;omega
  ·rw[if_neg hji]at hz;rw[if_neg (aaT hji)];unfold setName at hz;rw[bf]at hz;by_cases hjd:j=d
   ·subst hjd;rw[if_pos rfl,hx]at hz;simp only[aao,Pd]at hz;have:=h.counts j x hx hj;rw[←hz];simp only;omega
   ·rw[if_neg hjd]at hz;have:=h.counts j z hz hj;omega
theorem Dc{p:List Nm}{id:Int}(h:aG T 0 p=(id,0))(hT:dZ T):(aj id T).isSome=true:=by
 have:=gq hT p 0 (fD hT) (by rw[h]);rw[h]at this;exact this
end
theorem dZ.del{T:aA}(h:dZ T){k:Int}{x:bJ}(hx:aj k T=some x)(h0:k≠0)(hn:x.names=[])(hc:fV T k=0):dZ (bP k T):=by
 have hget:∀j y,aj j (bP k T)=some y→j≠k∧aj j T=some y:=fun j y hy=>by
  rw[eP]at hy;by_cases hj:j=k
  ·rw[if_pos hj]at hy;cases hy
  ·rw[if_neg hj]at hy;exact⟨hj,hy⟩
 have hcn:∀j,cn j x=0:=fun j=>by unfold cn;rw[hn];rfl
 refine⟨⟨h.sorted.bP _,?_,fun j y hy=>h.each j y (hget j y hy).2,fun j y hy e he=> ?_,?_,fun j y hy=>h.ids j y (hget j y hy).2⟩,fun j y hy hj=> ?_⟩
 ·have hr:=h.root;unfold bI at hr⊢;rw[eP,if_neg (aaT h0)];exact hr
 ·have h1:=h.leads j y (hget j y hy).2 e he;have h2:=Ch hc (hget j y hy).2 e he;rw[eP,if_neg h2];exact h1
 ·have:=u_ bY h.sorted hx;have:=h.len;omega
 ·have h1:=zW h.sorted hx j;rw[hcn]at h1;have h2:=h.counts j y (hget j y hy).2 hj;omega
theorem dZ.settle{T:aA}(h:dZ T){k:Int}(hk:k≠0)(hf:∀x,aj k T=some x→x.kind≠2):dZ (gY T k):=by
 unfold gY;cases hx:aj k T with
 |none=>exact h
 |some x=>
  simp only;by_cases hc:x.links=0∧x.closed=true
  ·rw[if_pos hc];have hk1:=(h.each k x hx).kind.resolve_right (hf x hx);refine h.del hx hk ((h.each k x hx).file hk1) ?_;have:=h.counts k x hx hk;omega
  ·rw[if_neg hc];exact h
theorem dZ.yO{T:aA}(h:dZ T){k:Int}{x:bJ}(hx:aj k T=some x)(hk:x.kind≠2):k≠0:=by
 rintro rfl;have:=h.root;unfold bI at this;rw[hx]at this;exact hk this
theorem Df{T:aA}(hT:dZ T){ls:List Nm}{kind:Int}(h:kS T ls kind=0):bH ls=0∧(kind=1∨kind=2)∧(aH T ls).2.2=0∧aj (aH T ls).2.1 (aU T (aH T ls).1)=none∧T.length<64:=by
 unfold kS at h;by_cases h1:bH ls≠0
 ·rw[if_pos h1]at h;exact absurd h h1
 ·rw[if_neg h1]at h;by_cases h2:¬(kind=1∨kind=2)
  ·rw[if_pos h2]at h;cases h
  ·rw[if_neg h2]at h;by_cases h3:(aH T ls).2.2≠0
   ·rw[if_pos h3]at h;exact absurd h h3
   ·rw[if_neg h3]at h;by_cases h4:(aj (aH T ls).2.1 (aU T (aH T ls).1)).isSome=true
    ·rw[if_pos h4]at h;cases h
    ·rw[if_neg h4]at h;by_cases h5:64≤T.length
     ·rw[if_pos h5]at h;cases h
     ·exact⟨by omega,Decidable.not_not.1 h2,by omega,by simpa using h4,by omega⟩
theorem dZ.bZ{T:aA}(h:dZ T)(ls:List Nm)(kind:Int):dZ (bZ T ls kind).2:=by
 unfold Go.Proofs.YtjnhnlabpccgjaaGreatDoor.bZ;by_cases he:kS T ls kind=0
 ·rw[if_pos he];obtain⟨h1,h2,h3,h4,h5⟩:=Df h he;obtain⟨x,hx,hk,hm⟩:=jM h h3;obtain⟨f,hf,hf1,hf2,hfn,_⟩:=h.free;have e1:aU T (aH T ls).1=x.names:=by unfold aU;rw[hx]
  rw[e1]at h4;have hlen:=h.len;show dZ (vg T ls kind);unfold vg;rw[hf];exact h.make h2 hfn (by omega) (by omega) h5 hx hk (qh h1 _ hm) h4
 ·rw[if_neg he];exact h
theorem dZ.cK{T:aA}(h:dZ T)(id:Int)(b:List UInt8):dZ (cK T id b).2:=by
 unfold Go.Proofs.YtjnhnlabpccgjaaGreatDoor.cK;by_cases he:lG T id b=0
 ·simp only[if_pos he];unfold lG at he;cases hx:aj id T with
  |none=>rw[hx]at he;cases he
  |some x=>
   rw[hx]at he;simp only at he;by_cases hk:x.kind=2
   ·rw[if_pos hk]at he;cases he
   ·rw[if_neg hk]at he;cases hc:x.closed with
    |true=>rw[hc]at he;cases he
    |false=>
     rw[hc]at he;simp only[abe,if_false]at he;by_cases hb:4096<x.b.length+b.length
     ·rw[if_pos hb]at he;cases he
     ·have ho:=h.each id x hx;exact h.zX hx ⟨ho.kind,ho.file,fun h=>absurd h hk,fun _=>hc,ho.sorted,ho.good,by rw[List.length_append];omega,ho.links,ho.aF⟩ rfl rfl rfl
 ·simp only[if_neg he];exact h
theorem dZ.dY{T:aA}(h:dZ T)(id aF:Int)(h0:0≤aF):dZ (dY T id aF).2:=by
 unfold Go.Proofs.YtjnhnlabpccgjaaGreatDoor.dY;by_cases he:uD T id aF=0
 ·simp only[if_pos he];unfold uD at he;cases hx:aj id T with
  |none=>rw[hx]at he;cases he
  |some x=>
   rw[hx]at he;simp only at he;by_cases hk:x.kind=2
   ·rw[if_pos hk]at he;cases he
   ·rw[if_neg hk]at he;cases hc:x.closed with
    |true=>rw[hc]at he;cases he
    |false=>
     rw[hc]at he;simp only[abe,if_false]at he;by_cases hb:1099511627776<aF
     ·rw[if_pos hb]at he;cases he
     ·have ho:=h.each id x hx;have hk1:=ho.kind.resolve_right hk;have hcnt:=h.counts id x hx (h.yO hx hk);by_cases hl:x.links=0
      ·have hn:=ho.file hk1;have e:gY (Go.Proofs.YtjnhnlabpccgjaaGreatDoor.bC id (fun x=>{x with closed:=true,aF:=aF}) T) id=bP id T:=by
        unfold gY;rw[bf,if_pos rfl,hx];simp only[aao,hl,and_self,abC];unfold bP Go.Proofs.YtjnhnlabpccgjaaGreatDoor.bC;clear hx ho hcnt he h
        induction T with
        |nil=>rfl
        |cons y r ih=>
         rw[List.map_cons,List.filter_cons,List.filter_cons,ih];by_cases hy:y.1=id<;>simp[hy]
       rw[e];exact h.del hx (h.yO hx hk) hn (by omega)
      ·have hs:dZ (Go.Proofs.YtjnhnlabpccgjaaGreatDoor.bC id (fun x=>{x with closed:=true,aF:=aF}) T):=
        h.zX hx ⟨ho.kind,ho.file,fun h=>absurd h hk,fun h=>absurd h hl,ho.sorted,ho.good,ho.size,ho.links,⟨h0,by simp only;omega⟩⟩ rfl rfl rfl
       exact hs.settle (h.yO hx hk) (fun y hy=>by
        rw[bf,if_pos rfl,hx]at hy;simp only[aao,Pd]at hy;rw[←hy];exact hk)
 ·simp only[if_neg he];exact h
theorem dZ.jA{T:aA}(h:dZ T)(id aF:Int)(h0:0≤aF):dZ (jA T id aF).2:=by
 unfold Go.Proofs.YtjnhnlabpccgjaaGreatDoor.jA;by_cases he:wS T id aF=0
 ·simp only[if_pos he];unfold wS at he;cases hx:aj id T with
  |none=>rw[hx]at he;cases he
  |some x=>
   rw[hx]at he;simp only at he;by_cases hk:x.kind=2
   ·rw[if_pos hk]at he;cases he
   ·rw[if_neg hk]at he;by_cases hc:x.closed=false
    ·rw[if_pos hc]at he;cases he
    ·rw[if_neg hc]at he;by_cases hb:aF<x.aF
     ·rw[if_pos hb]at he;cases he
     ·rw[if_neg hb]at he;by_cases hb:1099511627776<aF
      ·rw[if_pos hb]at he;cases he
      ·have ho:=h.each id x hx;exact h.zX hx ⟨ho.kind,ho.file,fun h=>absurd h hk,ho.gone,ho.sorted,ho.good,ho.size,ho.links,⟨h0,by simp only;omega⟩⟩ rfl rfl rfl
 ·simp only[if_neg he];exact h
theorem Dg{T:aA}{p tq:List Nm}(h:wT T p tq=0):oV p tq=0∧(aG T 0 p).2=0∧bI T (aG T 0 p).1≠2∧(aH T tq).2.2=0∧aj (aH T tq).2.1 (aU T (aH T tq).1)=none∧xC T (aG T 0 p).1<64:=by
 unfold wT at h;by_cases h1:oV p tq≠0
 ·rw[if_pos h1]at h;exact absurd h h1
 ·rw[if_neg h1]at h;by_cases h2:(aG T 0 p).2≠0
  ·rw[if_pos h2]at h;exact absurd h h2
  ·rw[if_neg h2]at h;by_cases h3:bI T (aG T 0 p).1=2
   ·rw[if_pos h3]at h;cases h
   ·rw[if_neg h3]at h;by_cases h4:(aH T tq).2.2≠0
    ·rw[if_pos h4]at h;exact absurd h h4
    ·rw[if_neg h4]at h;by_cases h5:(aj (aH T tq).2.1 (aU T (aH T tq).1)).isSome=true
     ·rw[if_pos h5]at h;cases h
     ·rw[if_neg h5]at h;by_cases h6:64≤xC T (aG T 0 p).1
      ·rw[if_pos h6]at h;cases h
      ·exact⟨by omega,by omega,h3,by omega,by simpa using h5,by omega⟩
theorem sU{p q:List Nm}(h:oV p q=0):bH p=0∧bH q=0:=by
 unfold oV at h;split at h
 ·rename_i h1;exact absurd h h1
 ·exact⟨by omega,h⟩
theorem dZ.kW{T:aA}(h:dZ T)(p tq:List Nm):dZ (kW T p tq).2:=by
 unfold Go.Proofs.YtjnhnlabpccgjaaGreatDoor.kW;by_cases he:wT T p tq=0
 ·simp only[if_pos he];obtain⟨h1,h2,h3,h4,h5,h6⟩:=Dg he;obtain⟨x,hx,hk,hm⟩:=jM h h4;obtain⟨y,hy⟩:=aaf.1 (gq h p 0 (fD h) h2);have e1:aU T (aH T tq).1=x.names:=by unfold aU;rw[hx]
  have e2:xC T (aG T 0 p).1=y.links:=by unfold xC;rw[hy]
  rw[e1]at h5;rw[e2]at h6;rw[dh hy]at h3;exact h.link hx hk (qh (sU h1).2 _ hm) h5 hy h3 h6 (h.yO hy h3)
 ·simp only[if_neg he];exact h
structure rH(W:World)(P:Nat→Prop)(w:World)(p:Nat)(T:aA):Prop where
 at_:∃g D mb ib nb,aP g D w p mb ib nb T∧∀b,g b≠ .none∨D b→W.heap.size≤b∧¬P b
 ok:dZ T
 below:Below W.heap.size W w
 low:∀x,P x→x<w.heap.size
structure yP(W:World)(P:Nat→Prop)(w:World)(p:Nat)(T:aA):Prop where
 at_:∃g D mb ib nb,aP g D w p mb ib nb T∧∀b,g b≠ .none∨D b→W.heap.size≤b∧¬P b
 ok:OkW T
 below:Below W.heap.size W w
theorem yP.grow{W w w':World}{P:Nat→Prop}{p:Nat}{T:aA}(h:yP W P w p T)(hb:Below w.heap.size w w'):yP W P w' p T:=by
 obtain⟨g,D,mb,ib,nb,hA,hF⟩:=h.at_;exact⟨⟨g,D,mb,ib,nb,hA.below hb acu,hF⟩,h.ok,h.below.trans (hb.mono h.below.size)⟩
theorem rH.w{W w:World}{P:Nat→Prop}{p:Nat}{T:aA}(h:rH W P w p T):yP W P w p T:=⟨h.at_,h.ok.w,h.below⟩
instance{W w:World}{P:Nat→Prop}{p:Nat}{T:aA}:Coe (rH W P w p T) (yP W P w p T):=⟨rH.w⟩
theorem rH.grow{W w w':World}{P:Nat→Prop}{p:Nat}{T:aA}(h:rH W P w p T)(hb:Below w.heap.size w w'):rH W P w' p T:=by
 obtain⟨g,D,mb,ib,nb,hA,hF⟩:=h.at_;exact⟨⟨g,D,mb,ib,nb,hA.below hb acu,hF⟩,h.ok,h.below.trans (hb.mono h.below.size),fun x hx=>Nat.lt_of_lt_of_le (h.low x hx) hb.size⟩
theorem rH.mono{W w:World}{P Q:Nat→Prop}{p:Nat}{T:aA}(h:rH W P w p T)(hq:∀x,Q x→P x):rH W Q w p T:=by
 obtain⟨g,D,mb,ib,nb,hA,hF⟩:=h.at_;exact⟨⟨g,D,mb,ib,nb,hA,fun x hx=>⟨(hF x hx).1,fun h=>(hF x hx).2 (hq x h)⟩⟩,h.ok,h.below,fun x hx=>h.low x (hq x hx)⟩
section
variable{W w:World}{P:Nat→Prop}{p:Nat}{T:aA}
end
abbrev Mark:=Nat→Nat
structure Marks(W:World)(o:Mark)(w:World):Prop where
 new:∀b,o b≠0→W.heap.size≤b∧b<w.heap.size
 below:Below W.heap.size W w
structure Step(o:Mark)(I:Nat→Prop)(w:World)(o':Mark)(w':World):Prop where
 old:∀b,b<w.heap.size→o' b=o b
 new:∀b,w.heap.size≤b→o' b≠0→I (o' b)∧b<w'.heap.size
 keep:Keeps (fun b=>I (o b)) w w'
theorem Marks.step{W w w':World}{o o':Mark}{I:Nat→Prop}(h:Marks W o w)(hi:¬I 0)(hs:Step o I w o' w'):Marks W o' w':=by
 refine⟨fun b hb=> ?_,h.below.trans (hs.keep.gP h.below.size fun x hx (hxi:I (o x))=> ?_)⟩
 ·by_cases hlt:b<w.heap.size
  ·rw[hs.old b hlt]at hb;exact⟨(h.new b hb).1,Nat.lt_of_lt_of_le hlt hs.keep.size⟩
  ·have h1:=(hs.new b (by omega) hb).2;have:=h.below.size;exact⟨by omega,h1⟩
 ·have h0:o x≠0:=fun e=>hi (by rw[e]at hxi;exact hxi);have:=(h.new x h0).1;omega
theorem Marks.grow{W w w':World}{o:Mark}(h:Marks W o w)(hb:Below w.heap.size w w'):Marks W o w':=
 ⟨fun b hn=>⟨(h.new b hn).1,Nat.lt_of_lt_of_le (h.new b hn).2 hb.size⟩,h.below.trans (hb.mono h.below.size)⟩
theorem Step.mono{w w':World}{o o':Mark}{I J:Nat→Prop}(h:Step o I w o' w')(hIJ:∀i,I i→J i):Step o J w o' w':=
 ⟨h.old,fun b hb hn=>⟨hIJ _ (h.new b hb hn).1,(h.new b hb hn).2⟩,h.keep.mono fun x _ hx=>hIJ _ hx⟩
theorem Step.grow{W w w':World}{o:Mark}{I:Nat→Prop}(h:Marks W o w)(hb:Below w.heap.size w w'):Step o I w o w':=
 ⟨fun _ _=>rfl,fun b hb hn=>by have:=(h.new b hn).2;omega,(Keeps.below hb).mono fun x hx hx'=>absurd hx (by omega)⟩
theorem Step.trans{w w1 w2:World}{o o1 o2:Mark}{I:Nat→Prop}(h:Step o I w o1 w1)(k:Step o1 I w1 o2 w2):Step o I w o2 w2:=by
 have hs:=h.keep.size;refine⟨fun b hb=>(k.old b (by omega)).trans (h.old b hb),fun b hb hn=> ?_,h.keep.trans k.keep fun x hx (hxi:I (o1 x))=>by rw[h.old x hx]at hxi;exact hxi⟩;by_cases hlt:b<w1.heap.size
 ·rw[k.old b hlt]at hn⊢;exact⟨(h.new b hb hn).1,Nat.lt_of_lt_of_le (h.new b hb hn).2 k.keep.size⟩
 ·exact k.new b (by omega) hn
theorem Step.then_{W w w1 w2:World}{o o1:Mark}{I:Nat→Prop}(hM:Marks W o w)(hi:¬I 0)(h:Step o I w o1 w1)(hb:Below w1.heap.size w1 w2):Step o I w o1 w2:=h.trans (Step.grow (hM.step hi h) hb)
theorem Step.behind{W w w1 w2:World}{o o2:Mark}{I:Nat→Prop}(hM:Marks W o w)(hb:Below w.heap.size w w1)(h:Step o I w1 o2 w2):Step o I w o2 w2:=(Step.grow hM hb).trans h
theorem Step.block{w w':World}{o o':Mark}{I:Nat→Prop}(h:Step o I w o' w'){b:Nat}(hb:b<w.heap.size)(hn:¬I (o b)):w'.heap[b]? =w.heap[b]? :=h.keep.block b hb hn
def Free(o:Mark)(w:World)(b:Nat):Prop:=o b=0∧b<w.heap.size
theorem ah.free{o o':Mark}{I:Nat→Prop}{w w':World}{a:Option Addr}{n:Nat}{vs:List Value}(h:ah (Free o w) w a n vs)(hi:¬I 0)(hs:Step o I w o' w'):ah (Free o' w') w' a n vs:=
 h.move hs.keep.size fun b hb hbw=>⟨⟨(hs.old b hb.2).trans hb.1,Nat.lt_of_lt_of_le hb.2 hs.keep.size⟩,hs.block hb.2 (by rw[hb.1];exact hi)⟩
theorem ah.Tv{W w w':World}{o:Mark}{a:Option Addr}{n:Nat}{vs:List Value}(hM:Marks W o w)(h:ah (fun x=>w.heap.size≤x∧x<w'.heap.size) w' a n vs):ah (Free o w') w' a n vs:=
 h.mono fun b hb=>⟨Decidable.byContradiction fun h0=>by have:=(hM.new b h0).2;omega,hb.2⟩
def gZ(o:Mark)(i:Nat)(w:World)(p:Nat)(T:aA):Prop:=
 ∃g D mb ib nb,aP g D w p mb ib nb T∧(∀b,g b≠ .none→o b=i)∧(∀b,D b→o b=0)
theorem gZ.step{o o':Mark}{I:Nat→Prop}{j:Nat}{w w':World}{p:Nat}{T:aA}(h:gZ o j w p T)(hi:¬I 0)(hij:¬I j)(hs:Step o I w o' w'):gZ o' j w' p T:=by
 obtain⟨g,D,mb,ib,nb,hA,hg,hD⟩:=h;refine⟨g,D,mb,ib,nb,hA.keeps hs.keep fun b hb=> ?_,fun b hb=>(hs.old b (hA.low b hb)).trans (hg b hb),fun b hb=>(hs.old b (hA.o_ b hb)).trans (hD b hb)⟩;rcases hb with hb|hb
 ·rw[hg b hb];exact hij
 ·rw[hD b hb];exact hi
theorem gZ.grow{o:Mark}{j:Nat}{w w':World}{p:Nat}{T:aA}(h:gZ o j w p T)(hb:Below w.heap.size w w'):gZ o j w' p T:=by
 obtain⟨g,D,mb,ib,nb,hA,hg,hD⟩:=h;exact⟨g,D,mb,ib,nb,hA.below hb acu,hg,hD⟩
theorem gZ.remark{o o':Mark}{j k:Nat}{w:World}{p:Nat}{T:aA}(h:gZ o j w p T)(h1:∀b,b<w.heap.size→o b=j→o' b=k)(h2:∀b,b<w.heap.size→o b=0→o' b=0):gZ o' k w p T:=by
 obtain⟨g,D,mb,ib,nb,hA,hg,hD⟩:=h;exact⟨g,D,mb,ib,nb,hA,fun b hb=>h1 b (hA.low b hb) (hg b hb),fun b hb=>h2 b (hA.o_ b hb) (hD b hb)⟩
def lI(o:Mark)(i:Nat)(w:World)(p:Nat)(T':aA)(v:Value)(e:Ending)(w':World):Prop:=
 e= .returned v∧∃o',Step o (fun j=>j=i) w o' w'∧gZ o' i w' p T'
open Classical in
theorem lI.of{W w w':World}{o:Mark}{i p mb:Nat}{T':aA}{v:Value}{e:Ending}{g:Nat→Own}{D:Nat→Prop}(hM:Marks W o w)(hi:i≠0)(hg:∀b,g b≠ .none→o b=i)(hD:∀b,D b→o b=0)(ht:Turn g D w p mb T' v e w'):lI o i w p T' v e w':=by
 obtain⟨rfl,g',D',SB,nb',hA',hg',hD',hK⟩:=ht;obtain⟨o',ho⟩:∃o':Mark,∀b,o' b=if b<w.heap.size then o b else if g' b≠ .none then i else 0:=⟨_,fun _=>rfl⟩;refine⟨rfl,o',⟨fun b hb=>by rw[ho,if_pos hb],fun b hb hn=> ?_,hK.mono fun x _ hx=>hg x hx⟩,g',D',mb,SB,nb',hA',fun b hb=> ?_,fun b hb=> ?_⟩
 ·rw[ho,if_neg (by omega)]at hn⊢;by_cases h:g' b≠ .none
  ·rw[if_pos h];exact⟨rfl,hA'.low b h⟩
  ·rw[if_neg h]at hn;exact absurd rfl hn
 ·rw[ho];by_cases hlt:b<w.heap.size
  ·rw[if_pos hlt];rcases hg' b hb with h|h
   ·exact hg b h
   ·omega
  ·rw[if_neg hlt,if_pos hb]
 ·rw[ho];by_cases hlt:b<w.heap.size
  ·rw[if_pos hlt];rcases hD' b hb with h|h
   ·exact hD b h
   ·omega
  ·rw[if_neg hlt,if_neg (by rw[hA'.data b hb];simp)]
section
variable{W w:World}{o:Mark}{i p:Nat}{T:aA}
theorem Xi{S:Nat→Prop}(h:gZ o i w p T)(hM:Marks W o w)(hi:i≠0)(hT:dZ T)(a:Option Addr)(n c:Nat)(ls:List Nm)(kind:Int)(hS:aT S w a n (ls.map strOf))(hc:n≤c)(mQ:n≤1000000):
  Calls Tryz.prog 72 #[ptr p,.slice a n c,.int .i64 kind] w (lI o i w p (bZ T ls kind).2 (.tuple #[.int .i64 (bZ T ls kind).1.1,.int .i64 (bZ T ls kind).1.2])):=by
 obtain⟨g,D,mb,ib,nb,hA,hg,hD⟩:=h;exact(Xb a n c ls kind w hA hT hS hc mQ).mono fun e w' ht=>lI.of hM hi hg hD ht
theorem P7{S:Nat→Prop}(h:gZ o i w p T)(hM:Marks W o w)(hi:i≠0)(hT:dZ T)(id:Int)(a:Option Addr)(l c:Nat)(bs:List UInt8)(hid:(Lit.int .i64 id).wf=true)(hr:ah S w a l (bs.map bv))(hl:l≤1000000000):
  Calls Tryz.prog 147 #[ptr p,.int .i64 id,.slice a l c] w (lI o i w p (cK T id bs).2 (.int .i64 (cK T id bs).1)):=by
 obtain⟨g,D,mb,ib,nb,hA,hg,hD⟩:=h;exact(P6 id a l c bs w hA (fun x hx=>(hT.each id x hx).size) hid hr hl).mono fun e w' ht=>lI.of hM hi hg hD ht
end
end Go.Proofs.YtjnhnlabpccgjaaGreatDoor
