/- DERIVED -/
import Derived.Test.YtmflaonodghbcaaGreatDoorProg
import Derived.Shelf.Spec.SlicesGrow
import Derived.Test.YtmflaonodghbcaaGreatDoorM03
import Derived.Test.YtmflaonodghbcaaGreatDoorM02
import Derived.Lib.SliceRun
import Derived.Test.YtmflaonodghbcaaGreatDoorM12
import Derived.Test.YtmflaonodghbcaaGreatDoorM11
set_option maxRecDepth 100000
set_option maxHeartbeats 64000000
set_option linter.all false
namespace Go.Proofs
open Go.Shelf
def Tryz.Az:Go.Shelf.Ren:=⟨fun|4=>176|n=>n,fun|22=>32|25=>5|3=>3|4=>4|9=>9|20=>20|0=>0|n=>n,fun|n=>n⟩
theorem Tryz.growL:Go.Proofs.Lays8.n4 Tryz.prog Tryz.Az:={
 mixed:=by kernel_rfl
 f4:=⟨Tryz.f176.name,by decide,Tryz.func176.trans (congrArg some (by kernel_rfl))⟩
 t0:=Tryz.underlying0
 a0:=Tryz.isAgg0
 z0:=Tryz.sizeOf0
 v0:=Tryz.zeroValue0
 t3:=Tryz.underlying3
 a3:=Tryz.isAgg3
 z3:=Tryz.sizeOf3
 v3:=Tryz.zeroValue3
 t4:=Tryz.underlying4
 a4:=Tryz.isAgg4
 z4:=Tryz.sizeOf4
 v4:=Tryz.zeroValue4
 t9:=Tryz.underlying9
 a9:=Tryz.isAgg9
 z9:=Tryz.sizeOf9
 v9:=Tryz.zeroValue9
 t20:=Tryz.underlying20
 a20:=Tryz.isAgg20
 z20:=Tryz.sizeOf20
 v20:=Tryz.zeroValue20
 t22:=Tryz.underlying32
 a22:=Tryz.isAgg32
 z22:=Tryz.sizeOf32
 v22:=Tryz.zeroValue32}
end Go.Proofs
namespace Go.Proofs.YtmflaonodghbcaaGreatDoor
open Go.ChangeShapes Go.WideShapes Go.ChangeAt Go.RowKit
theorem U5(n:Nat)(w:World)(hn:n≤1000000000):
  Calls Tryz.prog 176 #[.slice none 0 0,.int .i64 n] w fun e w'=>∃v,e= .returned v∧w'.ownsRow w.heap.size 5 1 v 0 []∧Below w.heap.size w w':=by
 obtain⟨i0,hi,hz0,hz1,hz2⟩:=aay Tryz.uP;by_cases h0:n=0
 ·subst h0;refine(Any8.slices_Grow_room Tryz.growL none 0 0 0 w (by omega) (by omega) (by omega) (by omega)).mono ?_;rintro e w' ⟨rfl,rfl⟩;exact⟨_,rfl,⟨rfl,.inl ⟨rfl,rfl⟩⟩,Below.refl _ _⟩
 ·refine(Any8.slices_Grow_grow Tryz.growL i0 (.int .u8 0) hi hz0 (by rw[hz1];omega) none 0 0 n [] w (by omega) (by omega) (by rw[hz2];omega) (by omega) (by simp) (fun _=>rfl) (fun a h=>by cases h)).mono ?_;rintro e w' ⟨rfl,rfl⟩;have h1:=grownCap_ge w (0+n) 0 (Tryz.Az.t 25);have h2:=grownCap_le_maxLen w (0+n) 0 (Tryz.Az.t 25) (by unfold maxLen;omega);refine⟨_,rfl,⟨rfl,.inr ⟨w.heap.size,_,_,rfl,Nat.le_refl _,(MapKept.heap_alloc w.drew _).1,Nat.zero_le _,h2,?_,rfl⟩⟩,(acf.drew).alloc ace _⟩;have e1:(Value.cells (.int .u8 0)).size=1:=rfl;simp only[Array.size_append,size_zeroCells,List.size_toArray,List.length_nil,e1];omega
theorem RF{w:World}{base:Nat}{e:TypeId}{size:Nat}{v:Value}{n:Nat}{xs:List Value}(h:w.ownsRow base e size v n xs):∃a c,v= .slice a n c∧n≤c∧c≤maxLen:=by
 rcases h.2 with⟨rfl,rfl⟩|⟨g,cap,cur,rfl,_,_,h,h',_⟩
 ·exact⟨_,_,rfl,Nat.le_refl _,Nat.zero_le _⟩
 ·exact⟨_,_,rfl,h,h'⟩
theorem GV(kH:List (List UInt8))(k:Nat)(bs:List UInt8)(h:kH[k]? =some bs):(kH.take (k+1)).flatten=(kH.take k).flatten++bs:=by
 obtain⟨hk,e⟩:=aaj.1 h;rw[aai hk,List.flatten_append,e];simp
theorem Y9(kH:List (List UInt8))(k:Nat):(kH.take k).flatten.length≤kH.flatten.length:=by
 conv=>rhs;rw[←aaQ k kH,List.flatten_append]
 simp
def sO(kH:List (List UInt8))(k:Nat):List UInt8:=(kH.take k).flatten
def qL(kH:List (List UInt8))(k:Nat):Nat:=(sO kH k).length
theorem DX{S:Nat→Prop}(B off cp n:Nat)(kH:List (List UInt8))(w:World)(hn:n=kH.length)(hn2:n≤1000)(hB:B<w.heap.size)(htot:kH.flatten.length≤1000000000)
  (hc:∀k,k<n→∃a l c bs,w.cell? ⟨B,off+k,none⟩=some (.slice a l c)∧ah S w a l (bs.map bv)∧kH[k]? =some bs):
  Calls Tryz.prog 101 #[.slice (some ⟨B,off,none⟩) n cp] w fun e w'=>∃a c,e= .returned (.slice a kH.flatten.length c)∧(kH.flatten.length≤c∧c≤maxLen)∧ah (fun x=>w.heap.size≤x∧x<w'.heap.size) w' a kH.flatten.length (kH.flatten.map bv)∧Below w.heap.size w w':=by
 obtain⟨i0,hi,hz0,hz1,hz2⟩:=aay Tryz.uP;have HN:=ab9 hn;have HC:=ab9 hc;have hle:∀k,qL kH k≤kH.flatten.length:=fun k=>Y9 kH k;obtain⟨N,hN⟩:∃N,N=kH.flatten.length:=⟨_,rfl⟩;obtain⟨fl,hfl0⟩:∃fl,fl=kH.flatten:=⟨_,rfl⟩;rw[←hN]at htot hle⊢;rw[←hfl0];have qJ:=ab9 hN;have HFF:=ab9 hfl0;clear hN hfl0;have Gb:=ab9 hle;have hG:=U5 N w htot;have HG:=ab9 hG;clear hn hc hle hG;go_enter Tryz.func101,Tryz.ntmps101;go_wp2
 go_loop [3,11] (fun s i=>∃k:Nat,k≤n∧i= .int .i64 k∧s= .int .i64 (qL kH k)) (fun _ i=>n-(intOf i).toNat)
 case atStart=>exact⟨0,by omega,rfl,rfl⟩
 case round=>
  obtain⟨k,hk,rfl,rfl⟩:=hrel;have hlk:=Gb.o k;by_cases hlt:k<n
  ·obtain⟨a,l,c,bs,hcell,hS,hp⟩:=HC.o k hlt;have hll:l=bs.length:=by have:=hS.length;simpa using this.symm
   subst hll;have DT:acd (qL kH (k+1)=qL kH k+bs.length):=by unfold qL sO;rw[GV kH k bs hp,List.length_append];exact rfl
   have hlk2:qL kH k+bs.length≤1000000000:=by have:=DT.o;have:=Gb.o (k+1);omega
   clear hp hS;go_wp2
   go_round
   case rel=>exact⟨k+1,by omega,by go_num,by rw[DT.o];go_num⟩
   case measure=>simp[intOf];omega
  ·obtain rfl:n=k:=by omega
   have HT:acd (sO kH n=fl∧qL kH n=N):=by
    have:kH.take n=kH:=List.take_of_length_le (by have:=HN.o;omega);unfold qL sO;rw[this];exact⟨HFF.o.symm,qJ.o.symm⟩
   rw[HT.o.2];go_wp2_with fail;refine HG.o.mono ?_;rintro e w1 ⟨v,rfl,hown,hb1⟩;have HB1:=ab9 hb1;have hown0:w1.ownsRow w.heap.size 5 1 v (qL kH 0) ((sO kH 0).map bv):=hown;have HO:=ab9 hown0;clear hb1 hown hown0 HG;go_wp2_with fail
   go_loopw [6,27] (fun v i wr=>∃k:Nat,k≤n∧i= .int .i64 k∧wr.ownsRow w.heap.size 5 1 v (qL kH k) ((sO kH k).map bv)∧Below w.heap.size w wr) (fun _ i _=>n-(intOf i).toNat)
   case atStart=>exact⟨0,by omega,rfl,HO.o,HB1.o⟩
   case round=>
    obtain⟨k,hk,rfl,hown,hb⟩:=hrel;have hbs:=hb.size;by_cases hlt:k<n
    ·obtain⟨a,l,c,bs,hcell0,hS,hp⟩:=HC.o k hlt;have hcell:=(hb.cell (p:=⟨B,off+k,none⟩) hB).trans hcell0;have DT:acd (sO kH (k+1)=sO kH k++bs∧qL kH (k+1)=qL kH k+bs.length):=by unfold qL sO;rw[GV kH k bs hp,List.length_append];exact⟨rfl,rfl⟩
     have hll:l=bs.length:=by have:=hS.length;simpa using this.symm
     subst hll;have hlk2:qL kH k+bs.length≤1000000000:=by have:=DT.o.2;have:=Gb.o (k+1);omega
     have HS:=ab9 (hS.below hb ace);have HOW:=ab9 hown;have HB:=ab9 hb;clear hp hS hown hb hcell0 hlk;go_wp2_with (at_builtin;refine bV (by rfl) _ _ 32 (by rfl) w.heap.size 5 i0 (.int .u8 0) 1 Tryz.underlying32 hi hz0 hz1 hz2 rfl _ _ _ (by rfl) HOW.o a bs.length c (bs.map bv) (by rfl) HS.o (iU bs) (by unfold maxLen;omega) (by omega) hbs ?_;intro A' c' w2 hown2 hgrow2 _ _);have Nj:=ab9 hown2;have HG2:=ab9 hgrow2;clear hown2 hgrow2;go_roundw
     case rel=>
      refine⟨k+1,by omega,by go_num,?_,HB.o.grown HG2.o hbs (bC HOW.o)⟩;rw[DT.o.1,DT.o.2,aaz];exact Nj.o
     case measure=>simp[intOf];omega
    ·obtain rfl:n=k:=by omega
     rw[HT.o.1,HT.o.2]at hown;obtain⟨a,c,rfl,hac⟩:=RF hown;have HOW:=ab9 hown;have HB:=ab9 hb;clear hown hb;go_wp2;go_ret;exact⟨a,c,rfl,hac,(ah.mU HOW.o).2,HB.o⟩
theorem DY{S:Nat→Prop}(B n:Nat)(kH:List (List UInt8))(w:World)(hn:n=kH.length)(hn2:n≤1000)(hB:B<w.heap.size)(htot:kH.flatten.length≤1000000000)
  (hc:∀k,k<n→∃a l c bs,w.cell? ⟨B,k,none⟩=some (.slice a l c)∧ah S w a l (bs.map bv)∧kH[k]? =some bs):
  Calls Tryz.prog 101 #[.slice (some ⟨B,0,none⟩) n n] w fun e w'=>∃a c,e= .returned (.slice a kH.flatten.length c)∧(kH.flatten.length≤c∧c≤maxLen)∧ah (fun x=>w.heap.size≤x∧x<w'.heap.size) w' a kH.flatten.length (kH.flatten.map bv)∧Below w.heap.size w w':=
 DX B 0 n n kH w hn hn2 hB htot fun k hk=>by rw[Nat.zero_add];exact hc k hk
theorem xW(b off n cap:Nat)(bs:List UInt8)(w:World)(hn:0<n)(hl:bs.length=n)(hm:n≤1048576)(hc:∀j u,(bs.map bv)[j]? =some u→w.cell? ((⟨b,off,none⟩:Addr).add j)=some u)(hb:b<w.heap.size):
  Calls Tryz.prog 75 #[.slice (some ⟨b,off,none⟩) n cap] w fun e w'=>∃v,e= .returned v∧Kg (fun x=>w.heap.size≤x∧x<w'.heap.size) w' n v bs∧Below w.heap.size w w':=by
 obtain⟨i0,hi,hz0,hz1,hz2⟩:=aay Tryz.uP;have heq:=fun w=>Lib.run_eql_slice_nil (P:=Tryz.prog) w 32 5 (some ⟨b,off,none⟩) n cap 0 0 Tryz.underlying32;go_enter abC,abu;go_wp2_with ((at_builtin;refine wpList_append_own _ rfl _ _ 32 rfl w.heap.size 5 i0 (.int .u8 0) 1 1 Tryz.underlying32 hi hz0 hz1 hz2 rfl (by omega) _ 0 [] rfl ⟨rfl,.inr ⟨w.heap.size,0,#[],rfl,Nat.le_refl _,(MapKept.heap_alloc w _).1,Nat.le_refl _,Nat.zero_le _,rfl,rfl⟩⟩ ⟨b,off,none⟩ n cap (bs.map bv) rfl (by simp[hl]) (fun j u hu=>(World.cell?_of_block (w:=w) (w':=w.alloc _) (a:=(⟨b,off,none⟩:Addr).add j) (by rw[add_plain];exact Below.heap_alloc w _ b hb)).trans (hc j u hu)) (by intro u hu;obtain⟨x,_,rfl⟩:=List.mem_map.1 hu;rfl) (by unfold maxLen;omega) (by omega) (by simp) ?_;intro v w2 hown2 hgrow2 hnil2));go_ret;have hs2:=hgrow2.size;rw[Pd]at hs2;have hB2:Below w.heap.size w w2:=(acf.alloc ace _).grown hgrow2 (by simp) (fun k hk=>by cases hk;exact Nat.le_refl _);obtain⟨hlen,h⟩:=hown2;rcases h with⟨rfl,h0⟩|⟨g,cp,cur,rfl,hbg,hcur,h1,h2,h3,h4⟩
 ·omega
 ·refine⟨_,rfl,⟨hl,g,cp,cur,by simp,⟨hbg,(uh.1 hcur).1⟩,hcur,by simpa using h4,by omega,h2,by simpa using h3⟩,hB2⟩
section
variable{g:Nat→Own}{D:Nat→Prop}{p mb:Nat}{ib nb:Int→Nat}{T:aI}
theorem Turn.of{w w':World}{Qq nb':Int→Nat}{T':aI}{v:Value}{e:Ending}(he:e= .returned v)(h:aM g D w' p mb Qq nb' T')(hK:Keeps (fun b=>g b≠ .none) w w'):Turn g D w p mb T' v e w':=
 ⟨he,g,D,Qq,nb',h,fun b h=> .inl h,fun b h=> .inl h,hK⟩
theorem xX{id:Int}(h:jr T id=0):∃x,aj id T=some x∧x.kind≠2:=by
 unfold jr at h;cases hx:aj id T with
 |none=>rw[hx]at h;cases h
 |some x=>
  rw[hx]at h;by_cases hk:x.kind=2
  ·simp only[if_pos hk]at h;cases h
  ·exact⟨x,rfl,hk⟩
theorem RG{id aT:Int}(h:jr T id≠0):BK T id aT=jr T id:=by
 unfold jr at h⊢;unfold BK;cases hx:aj id T with
 |none=>rfl
 |some x=>
  rw[hx]at h;by_cases hk:x.kind=2
  ·simp only[if_pos hk]
  ·simp only[if_neg hk]at h;exact absurd rfl h
theorem KG{id:Int}{b:List UInt8}(h:jr T id≠0):qI T id b=jr T id:=by
 unfold jr at h⊢;unfold qI;cases hx:aj id T with
 |none=>rfl
 |some x=>
  rw[hx]at h;by_cases hk:x.kind=2
  ·simp only[if_pos hk]
  ·simp only[if_neg hk]at h;exact absurd rfl h
theorem RH{id:Int}(h:jr T id≠0):kC T id=jr T id:=by
 unfold jr at h⊢;unfold kC;cases hx:aj id T with
 |none=>rfl
 |some x=>
  rw[hx]at h;by_cases hk:x.kind=2
  ·simp only[if_pos hk]
  ·simp only[if_neg hk]at h;exact absurd rfl h
theorem Y_(id aT:Int)(w:World)(h:aM g D w p mb ib nb T)(hid:(Lit.int .i64 id).wf=true)(ht0:0≤aT)(ht1:aT≤18446744073709551615):
  Calls Tryz.prog 125 #[ptr p,.int .i64 id,.int .u64 aT] w (Turn g D w p mb (fZ T id aT).2 (.int .i64 (fZ T id aT).1)):=by
 have HH:=ab9 h;by_cases hf:jr T id=0
 ·obtain⟨x,hx,hk⟩:=xX hf;have HF:=ab9 (CU id hx hk w h hid);obtain⟨c0,c1,c2,c3,c4,c5,c7,hiw⟩:=(h.item id x hx).cell;have HX:=ab9 hx;have hE:BK T id aT=if x.closed then 27 else if 1099511627776<aT then 1 else 0:=by unfold BK;rw[hx];simp only[if_neg hk]
  have HE:=ab9 hE;cases hcl:x.closed with
  |true=>
   have HM:acd (fZ T id aT=(27,T)):=by
    unfold fZ;rw[HE.o,hcl];simp only[if_pos];exact rfl
   rw[hcl]at c5;clear hE hcl hx hk hf h c7;go_enter Tryz.func125,Tryz.ntmps125;go_wp2_with fail;refine HF.o.mono ?_;rintro e w1 ⟨rfl,rfl⟩;go_wp2_with fail;go_ret;rw[HM.o];exact Turn.same HH.o acf rfl
  |false=>
   rw[hcl]at c5;by_cases htl:1099511627776<aT
   ·have HM:acd (fZ T id aT=(1,T)):=by
     unfold fZ;rw[HE.o,hcl];simp only[aa3,if_false,if_pos htl];exact rfl
    clear hE hcl hx hk hf h c7;go_enter Tryz.func125,Tryz.ntmps125;go_wp2_with fail;refine HF.o.mono ?_;rintro e w1 ⟨rfl,rfl⟩;go_wp2_with fail;go_ret;rw[HM.o];exact Turn.same HH.o acf rfl
   ·have HM:acd (fZ T id aT=(0,gX (cu id (fun x=>{x with closed:=true,aT:=aT}) T) id)):=by
     unfold fZ;rw[HE.o,hcl];simp only[aa3,if_false,if_neg htl];exact rfl
    have hfz4:=(h.item id x hx).frozen 4;have hfz5:=(h.item id x hx).frozen 5;have hA1:aM g D ((w.setCell ⟨ib id,5,none⟩ (.bool true)).setCell ⟨ib id,4,none⟩ (.int .u64 aT)) p mb ib nb (cu id (fun x=>{x with closed:=true,aT:=aT}) T):=by
     refine h.fields hx (fun x=>{x with closed:=true,aT:=aT}) rfl rfl rfl (Keeps.set2 w _ _ _ _ _) (by rw[size_set,size_set]) fun a c hc=> ?_;rw[aK (aK hc)];rfl
    have hx1:aj id (cu id (fun x=>{x with closed:=true,aT:=aT}) T)=some {x with closed:=true,aT:=aT}:=by rw[bF,if_pos rfl,hx];rfl
    have HS:=ab9 (DW id hx1 hid _ hA1);have hgi:=h.pR id x hx;have hgm:=h.jg;have HGI:acd (∀b,(b=ib id∨b=mb)→g b≠ .none):=fun b hb=>by
     rcases hb with rfl|rfl
     ·rw[hgi];simp
     ·rw[hgm];simp
    clear hE hcl hx hk hf h c7 hA1 hx1 hgi hgm;go_enter Tryz.func125,Tryz.ntmps125;go_wp2_with fail;refine HF.o.mono ?_;rintro e w1 ⟨rfl,rfl⟩;go_wp2_with fail;refine HS.o.mono ?_;rintro e w1 ⟨rfl,hA2,hK2,hs2⟩;have HA2:=ab9 hA2;have AA:=ab9 hK2;clear hA2 hK2;go_wp2_with fail;go_ret;rw[HM.o];exact Turn.of rfl HA2.o (((Keeps.set2 w (ib id) 5 4 _ _).mono fun b _ hb=>HGI.o b (.inl hb)).trans (AA.o.mono fun b _ hb=>HGI.o b (.inr hb)) (fun _ _ h=>h))
 ·have hne:(jr T id==0)=false:=by simpa using hf
  have HF:=ab9 (DU id _ rfl hf w h hid);have HM:acd (fZ T id aT=(jr T id,T)):=by
   unfold fZ;rw[RG hf,if_neg hf];exact rfl
  obtain⟨k,hk⟩:∃k,k=jr T id:=⟨_,rfl⟩;rw[←hk]at HF hne HM;clear hf h hk;go_enter Tryz.func125,Tryz.ntmps125;go_wp2_with fail;refine HF.o.mono ?_;rintro e w1 ⟨rfl,rfl⟩;go_wp2_with fail;go_ret;rw[HM.o];exact Turn.same HH.o acf rfl
end
def fJ(w:World)(bs:List UInt8)(e:Ending)(w':World):Prop:=
 ∃a n c,e= .returned (.slice a n c)∧n≤c∧ah (fun x=>w.heap.size≤x∧x<w'.heap.size) w' a n (bs.map bv)∧Below w.heap.size w w'
def DZ(w:World)(bs:List UInt8)(e:Ending)(w':World):Prop:=
 ∃a c,e= .returned (.slice a bs.length c)∧w'.ownsRow w.heap.size 5 1 (.slice a bs.length c) bs.length (bs.map bv)∧Below w.heap.size w w'
theorem RI{w:World}{B B':Nat}{e:TypeId}{s:Nat}{v:Value}{n:Nat}{xs:List Value}(h:w.ownsRow B e s v n xs)(hB:B'≤B):w.ownsRow B' e s v n xs:=by
 refine⟨h.1,?_⟩;rcases h.2 with h1|⟨g,cap,cur,e1,hg,r⟩
 ·exact .inl h1
 ·exact .inr ⟨g,cap,cur,e1,Nat.le_trans hB hg,r⟩
theorem DZ.ret{w w':World}{bs:List UInt8}{e:Ending}(h:DZ w bs e w'):fJ w bs e w':=by
 obtain⟨a,c,rfl,ho,hb⟩:=h;obtain⟨a1,c1,e1,hc⟩:=bG ho;cases e1;exact⟨a,_,c,rfl,hc,(ah.mU ho).2,hb⟩
theorem pW{S:Nat→Prop}(a:Option Addr)(n cap:Nat)(bs:List UInt8)(w:World)(hm:n≤1000000000)(hr:ah S w a n (bs.map bv)):
  Calls Tryz.prog 75 #[.slice a n cap] w (fJ w bs):=by
 obtain⟨i0,hi,hz0,hz1,hz2⟩:=aay Tryz.uP;have hll:bs.length=n:=by have:=hr.length;simpa using this
 have heq:=fun w=>Lib.run_eql_slice_nil (P:=Tryz.prog) w 32 5 a n cap 0 0 Tryz.underlying32;have HR:=ab9 hr;have HL:=ab9 hll;clear hr hll;cases a with
 |none=>
  have h0:n=0:=by
   rcases aaF n with h0|h0
   ·exact h0
   ·obtain⟨_,_,e,_⟩:=HR.o.at_ h0;cases e
  subst h0;have hb0:bs=[]:=Pe HL.o;subst hb0;go_enter abC,abu;go_wp2;go_ret;exact⟨none,0,_,rfl,Nat.zero_le _,ah.nil _ _ _,Below.refl _ _⟩
 |some ad=>
  have hsz:(w.alloc (.cells #[] 5)).heap.size=w.heap.size+1:=by simp
  have HS:=ab9 (HR.o.below (wall w (.cells #[] 5)) ace);go_enter abC,abu;go_wp2_with ((at_builtin;refine bV (by rfl) _ _ 32 (by rfl) w.heap.size 5 i0 (.int .u8 0) 1 Tryz.underlying32 hi hz0 hz1 hz2 rfl _ 0 [] (by rfl) ⟨rfl,.inr ⟨w.heap.size,0,#[],rfl,Nat.le_refl _,(MapKept.heap_alloc w _).1,Nat.le_refl _,Nat.zero_le _,rfl,rfl⟩⟩ (some ad) n cap (bs.map bv) (by rfl) HS.o (iU bs) (by unfold maxLen;omega) (by omega) (by simp) ?_;intro A' c' w2 hown2 hgrow2 _ _));go_ret;have hB2:Below w.heap.size w w2:=(wall w _).grown hgrow2 (by simp) (fun k hk=>by cases hk;exact Nat.le_refl _);obtain⟨a3,c3,e3,hac⟩:=bG hown2;cases e3;refine⟨_,n,_,rfl,by omega,?_,hB2⟩;have hro:=(ah.mU hown2).2;rw[List.nil_append]at hro;simpa only[Nat.zero_add]using hro
theorem KH{S:Nat→Prop}(a:Option Addr)(n cap:Nat)(bs:List UInt8)(w:World)(hn0:0<n)(hm:n≤1000000000)(hr:ah S w a n (bs.map bv)):
  Calls Tryz.prog 75 #[.slice a n cap] w (DZ w bs):=by
 obtain⟨i0,hi,hz0,hz1,hz2⟩:=aay Tryz.uP;have hll:bs.length=n:=by have:=hr.length;simpa using this
 have heq:=fun w=>Lib.run_eql_slice_nil (P:=Tryz.prog) w 32 5 a n cap 0 0 Tryz.underlying32;have HR:=ab9 hr;have HL:=ab9 hll;clear hr hll;obtain⟨ad,rfl⟩:∃ad,a=some ad:=by
  obtain⟨b,off,e,_⟩:=HR.o.at_ hn0;exact⟨_,e⟩
 have hsz:(w.alloc (.cells #[] 5)).heap.size=w.heap.size+1:=by simp
 have HS:=ab9 (HR.o.below (wall w (.cells #[] 5)) ace);go_enter abC,abu;go_wp2_with ((at_builtin;refine bV (by rfl) _ _ 32 (by rfl) w.heap.size 5 i0 (.int .u8 0) 1 Tryz.underlying32 hi hz0 hz1 hz2 rfl _ 0 [] (by rfl) ⟨rfl,.inr ⟨w.heap.size,0,#[],rfl,Nat.le_refl _,(MapKept.heap_alloc w _).1,Nat.le_refl _,Nat.zero_le _,rfl,rfl⟩⟩ (some ad) n cap (bs.map bv) (by rfl) HS.o (iU bs) (by unfold maxLen;omega) (by omega) (by simp) ?_;intro A' c' w2 hown2 hgrow2 _ _));go_ret;have hB2:Below w.heap.size w w2:=(wall w _).grown hgrow2 (by simp) (fun k hk=>by cases hk;exact Nat.le_refl _);have hl:=HL.o;subst hl;rw[Nat.zero_add]at hown2;exact⟨A',c',rfl,by simpa using hown2,hB2⟩
theorem dB(w:World):Calls Tryz.prog 65 #[] w fun e w'=>e= .returned (ptr w.heap.size)∧bN w.heap.size w' w.heap.size (.slice none 0 0) []∧Below w.heap.size w w':=by
 go_enter Tryz.func65,Tryz.ntmps65;go_wp2;go_ret;exact⟨rfl,⟨(MapKept.heap_alloc w _).1,⟨rfl,.inl ⟨rfl,rfl⟩⟩,Nat.le_refl _,by simp[Value.ownBlock]⟩,wall w _⟩
section
variable{B x:Nat}{w:World}{v:Value}{bs:List UInt8}
theorem kD.low{bs':List UInt8}{v':Value}{w':World}(h:kD B w x v bs' v' w')(h0:bN B w x v bs):Below B w w':=
 h.2.1.bQ (Nat.le_of_lt (Nat.lt_of_le_of_lt h0.low h0.lt)) fun b hb hf=>by
  rcases hf with h1|h1
  ·have:=h0.low;omega
  ·have:=bC h0.own b h1;omega
theorem dV(h:bN B w x v bs)(n:Int)(hn0:0≤n)(hn:n≤1000000000)(hl:bs.length≤100000000):Calls Tryz.prog 68 #[ptr x,.int .i64 n] w (oJ B w x v (bs++bA n 2)):=by
 have HP:acd (Calls Tryz.prog 140 #[ptr x,.int .u64 n,.int .i64 2] w (oJ B w x v (bs++bA n 2))):=CQ h n 2 (by omega) (by omega) (by omega) hl;have e1:IntKind.u64.wrap n=n:=by simp[IntKind.wrap,IntKind.bits,IntKind.signed];omega
 clear h;go_enter Tryz.func68,Tryz.ntmps68;go_wp2_with fail;refine HP.o.mono ?_;rintro e w1 ⟨rfl,v1,hm⟩;go_wp2_with fail
 go_end0
 exact⟨rfl,v1,hm⟩
theorem kI(h:bN B w x v bs)(n:Int)(hn0:0≤n)(hn:n≤1000000000)(hl:bs.length≤100000000):Calls Tryz.prog 66 #[ptr x,.int .i64 n] w (oJ B w x v (bs++bA n 1)):=by
 have HP:acd (Calls Tryz.prog 140 #[ptr x,.int .u64 n,.int .i64 1] w (oJ B w x v (bs++bA n 1))):=CQ h n 1 (by omega) (by omega) (by omega) hl;have e1:IntKind.u64.wrap n=n:=by simp[IntKind.wrap,IntKind.bits,IntKind.signed];omega
 clear h;go_enter Tryz.func66,Tryz.ntmps66;go_wp2_with fail;refine HP.o.mono ?_;rintro e w1 ⟨rfl,v1,hm⟩;go_wp2_with fail
 go_end0
 exact⟨rfl,v1,hm⟩
theorem iy(h:bN B w x v bs)(n:Int)(hn:0≤n)(hn':n≤18446744073709551615)(hl:bs.length≤100000000):Calls Tryz.prog 69 #[ptr x,.int .u64 n] w (oJ B w x v (bs++bA n 8)):=by
 have HP:acd (Calls Tryz.prog 140 #[ptr x,.int .u64 n,.int .i64 8] w (oJ B w x v (bs++bA n 8))):=CQ h n 8 hn hn' (by omega) hl;clear h;go_enter Tryz.func69,Tryz.ntmps69;go_wp2_with fail;refine HP.o.mono ?_;rintro e w1 ⟨rfl,v1,hm⟩;go_wp2_with fail
 go_end0
 exact⟨rfl,v1,hm⟩
def uo(f:Bool):List UInt8:=bA (if f then 1 else 0) 1
theorem U6(h:bN B w x v bs)(f:Bool)(hl:bs.length≤100000000):Calls Tryz.prog 226 #[ptr x,.bool f] w (oJ B w x v (bs++uo f)):=by
 have HP1:=ab9 (kI h 1 (by omega) (by omega) hl);have HP0:=ab9 (kI h 0 (by omega) (by omega) hl);clear h;cases f
 ·have HQ:acd (Calls Tryz.prog 66 #[ptr x,.int .i64 0] w (oJ B w x v (bs++uo false))):=HP0.o;go_enter Tryz.func226,Tryz.ntmps226;go_wp2_with fail;refine HQ.o.mono ?_;rintro e w1 ⟨rfl,v1,hm⟩;go_wp2_with fail
  go_end0
  exact⟨rfl,v1,hm⟩
 ·have HQ:acd (Calls Tryz.prog 66 #[ptr x,.int .i64 1] w (oJ B w x v (bs++uo true))):=HP1.o;go_enter Tryz.func226,Tryz.ntmps226;go_wp2_with fail;refine HQ.o.mono ?_;rintro e w1 ⟨rfl,v1,hm⟩;go_wp2_with fail
  (try simp only[Exit.inBlock,Exit.then])
  refine aap (results_none rfl _ _ _) rfl ?_;exact⟨rfl,v1,hm⟩
theorem Nk{u1:World}(h:bN B w x v bs)(hg:w.grownBy u1 v.ownBlock):u1.cell? ⟨x,0,none⟩=some v∧u1.frozen? ⟨x,0,none⟩=false:=by
 have Y5:=(hg.block x h.lt (fun e=>h.apart e.symm)).trans h.head;exact⟨by simp[World.cell?,Y5],by simp[World.frozen?,Y5]⟩
theorem gF{S:Nat→Prop}(h:bN B w x v bs)(a:Option Addr)(m c:Nat)(l:List UInt8)(hr:ah S w a m (l.map bv))(hl:bs.length≤100000000)(hm:m≤100000000):Calls Tryz.prog 94 #[ptr x,.slice a m c] w (oJ B w x v (bs++l)):=by
 obtain⟨i8,hi⟩:∃i,Tryz.prog.info? 5=some i∧i.zero=some (.int .u8 0)∧i.size=1∧i.bytes=1:=aay (by kernel_rfl);have HI:=ab9 hi;have HW:=ab9 h;have HR:=ab9 hr;have c0:=h.cell;have f0:=h.frozen;have hBw:B≤w.heap.size:=Nat.le_of_lt (Nat.lt_of_le_of_lt h.low h.lt);have hlm:l.length=m:=by simpa using hr.length
 have HLM:=ab9 hlm;clear h hi hr hlm;obtain⟨N,hN⟩:∃N,N=bs.length:=⟨_,rfl⟩;have HOW:acd (w.ownsRow B 5 1 v N (bs.map bv)):=by rw[hN];exact HW.o.own
 have qJ:=ab9 hN;rw[←hN]at hl;clear hN;have hxw:=HW.o.lt;go_enter Tryz.func94,Tryz.ntmps94;go_wp2_with (at_builtin;refine bV rfl _ _ 32 rfl B 5 i8 _ 1 Tryz.underlying32 HI.o.1 HI.o.2.1 HI.o.2.2.1 HI.o.2.2.2 rfl v N (bs.map bv) rfl HOW.o a m c (l.map bv) rfl HR.o (iU l) (by unfold maxLen;omega) (by omega) hBw ?_;intro A1 c1 u1 hown1 hg1 _ hat1;have Y5:=Nk HW.o hg1;have hcx:=Y5.1;have hfx:=Y5.2;clear Y5)
 go_end0
 refine⟨rfl,_,Qn (wa:=w) HW.o acf ?_ hg1 hat1⟩;have h9:(bs++l).length=N+m:=by rw[List.length_append,←qJ.o,HLM.o]
 rw[h9,aaz];exact hown1
theorem qM{S:Nat→Prop}(h:bN B w x v bs)(a:Option Addr)(m c:Nat)(l:List UInt8)(hr:ah S w a m (l.map bv))(hS:∀b,S b→b≠x∧v.ownBlock≠some b)(hc:m≤c)(hl:bs.length≤90000000)(hm:m≤65535):Calls Tryz.prog 67 #[ptr x,.slice a m c] w (oJ B w x v (bs++(bA m 2++l))):=by
 have HS:=ab9 (dV h (m:Int) (by omega) (by omega) (by omega));have HW:=ab9 h;have HRR:=ab9 hr;have HSS:=ab9 hS;have e1:min (m:Int) 65535=(m:Int):=by omega
 have h0:(0:Int)≤(m:Int):=by omega
 have h1:(m:Int)≤(c:Int):=by omega
 clear h hr hS;go_enter Tryz.func67,Tryz.ntmps67;go_wp2_with fail;refine HS.o.mono ?_;rintro e w1 ⟨rfl,v1,hm1⟩;have HM:=ab9 hm1;have hr1:ah S w1 a m (l.map bv):=HRR.o.kept hm1.2.1.size fun b hb hbw=>hm1.2.1.block b hbw fun hf=>by
  rcases hf with h4|h4
  ·exact(HSS.o b hb).1 h4
  ·exact(HSS.o b hb).2 h4
 have HRW:=ab9 (gF hm1.1 a m c l hr1 (by rw[List.length_append];have:(bA (m:Int) 2).length=2:=rfl;omega) (by omega));clear hm1 hr1;go_wp2_with fail;refine HRW.o.mono ?_;rintro e w2 ⟨rfl,v2,hm2⟩;go_wp2_with fail
 go_end0
 refine⟨rfl,v2,?_⟩;have:=HM.o.trans hm2;rw[List.append_assoc]at this;exact this
theorem fK(h:bN B w x v bs)(hl:bs.length≤100000000):Calls Tryz.prog 70 #[ptr x] w (fJ w bs):=by
 obtain⟨a,c,rfl,hc⟩:=bG h.own;obtain⟨_,hr⟩:=ah.mU h.own;have HC:=ab9 (pW a bs.length c bs w (by omega) hr);have c0:=h.cell;clear h hr;go_enter Tryz.func70,Tryz.ntmps70;go_wp2_with fail;refine HC.o.mono ?_;rintro e w1 ⟨a1,n1,c1,rfl,hn1,hr1,hb1⟩;go_wp2_with fail;go_ret;exact⟨a1,n1,c1,rfl,hn1,hr1,hb1⟩
theorem U7(h:bN B w x v bs)(hl:bs.length≤100000000)(h0:0<bs.length):Calls Tryz.prog 70 #[ptr x] w (DZ w bs):=by
 obtain⟨a,c,rfl,hc⟩:=bG h.own;obtain⟨_,hr⟩:=ah.mU h.own;have HC:=ab9 (KH a bs.length c bs w h0 (by omega) hr);have c0:=h.cell;clear h hr;go_enter Tryz.func70,Tryz.ntmps70;go_wp2_with fail;refine HC.o.mono ?_;rintro e w1 ⟨a1,c1,rfl,hr1,hb1⟩;go_wp2_with fail;go_ret;exact⟨a1,c1,rfl,hr1,hb1⟩
end
def b_(w:World)(x:Nat)(bs:List UInt8)(wr:World):Prop:=∃v,bN w.heap.size wr x v bs∧Below w.heap.size w wr
theorem b_.more{w:World}{x:Nat}{bs bs':List UInt8}{wr w':World}{v:Value}{e:Ending}(h:bN w.heap.size wr x v bs)(hb:Below w.heap.size w wr)(ht:oJ w.heap.size wr x v bs' e w'):e= .returned (.tuple #[])∧b_ w x bs' w':=by
 obtain⟨rfl,v',hm⟩:=ht;exact⟨rfl,v',hm.1,hb.trans (hm.low h)⟩
theorem ay(n:Int):∀s,(bA n s).length=s
 |0=>rfl
 |s+1=>by unfold bA;rw[List.length_cons,ay n s]
structure RecM where
 kind:Int
 seq:Int
 body:List UInt8
def zi(x:RecM)(a:Option Addr)(c:Nat):Array Value:= #[.int .i64 x.kind,.int .u64 x.seq,.slice a x.body.length c]
structure zl(x:RecM):Prop where
 kind:x.kind=1∨x.kind=2∧x.body=[]
 seq:0≤x.seq∧x.seq≤1099511627776
 body:x.body.length≤900
def Qr(x:RecM):List UInt8:=bA x.kind 1++bA x.seq 8++(bA x.body.length 2++x.body)
def vZ(x:RecM):List UInt8:=Qr x++bA (mM (Qr x)) 4
theorem IW(x:RecM):(Qr x).length=11+x.body.length:=by unfold Qr;simp only[List.length_append,ay];omega
theorem sP(x:RecM):(vZ x).length=15+x.body.length:=by unfold vZ;rw[List.length_append,IW,ay];omega
theorem nS(x:RecM)(h:zl x)(a:Option Addr)(c:Nat)(w:World):Calls Tryz.prog 71 #[.agg (zi x a c)] w fun e w'=>e= .returned (.bool true)∧Below w.heap.size w w':=by
 obtain⟨kd,sq,bd⟩:=x;obtain⟨h1,h2,h3⟩:=h;dsimp only at h1 h2 h3;obtain⟨L,hL⟩:∃L,L=bd.length:=⟨_,rfl⟩;unfold zi;dsimp only;rw[←hL]at h3⊢;have d1:decide (1099511627776<sq)=false:=aaf (by omega);have d2:decide ((900:Int)<(L:Int))=false:=aaf (by omega);have d2':decide (900<L)=false:=aaf (by omega);rcases h1 with rfl|⟨rfl,rfl⟩
 ·clear hL h2 h3;go_enter Tryz.func71,Tryz.ntmps71;go_wp2_with fail;go_ret;exact⟨rfl,wall w _⟩
 ·obtain rfl:L=0:=by rw[hL];rfl
  clear hL h2 h3;go_enter Tryz.func71,Tryz.ntmps71;go_wp2_with fail;go_ret;exact⟨rfl,wall w _⟩
theorem Nl(x:RecM)(h:zl x)(a:Option Addr)(c:Nat)(w:World):Calls Tryz.prog 141 #[.agg (zi x a c)] w fun e w'=>e= .returned (.int .i64 ((vZ x).length:Int))∧Below w.heap.size w w':=by
 have HR:=ab9 (fun w'=>nS x h a c w');rw[sP];have hb:=h.body;clear h;unfold zi at HR⊢;obtain⟨L,hL⟩:∃L,L=x.body.length:=⟨_,rfl⟩;rw[←hL]at HR hb⊢;clear hL;have e1:IntKind.i64.wrap (11+(L:Int))=11+(L:Int):=aah _ (by omega);have e2:IntKind.i64.wrap (11+(L:Int)+4)=11+(L:Int)+4:=aah _ (by omega);go_enter Tryz.func141,Tryz.ntmps141;go_wp2_with fail;refine(HR.o _).mono ?_;rintro e w1 ⟨rfl,hb1⟩;have q2:w1.cell? ⟨w.heap.size,2,none⟩=some (.slice a L c):=by
  rw[hb1.cell (p:=⟨w.heap.size,2,none⟩) (by simp)];simp only[World.cell?,(MapKept.heap_alloc w _).1];rfl
 have HB1:=ab9 ((wall w (.cells #[.int .i64 x.kind,.int .u64 x.seq,.slice a L c] 69)).trans (hb1.mono (by simp)));clear hb1;go_wp2_with fail;go_ret;exact⟨gW (by omega),HB1.o⟩
theorem Nn{c:Int}(h0:0≤c):(#[.int .u8 (c/16777216%256),.int .u8 (c/65536%256),.int .u8 (c/256%256),.int .u8 (c%256)]:Array Value)=((bA c 4).map bv).toArray:=by
 have h:∀y:Int,0≤y→Value.int .u8 (y%256)=bv (UInt8.ofNat (y.toNat%256)):=fun y hy=>by
  unfold bv;congr 1;rw[UInt8.toNat_ofNat'];omega
 have e:bA c 4=[UInt8.ofNat ((c/16777216).toNat%256),UInt8.ofNat ((c/65536).toNat%256),UInt8.ofNat ((c/256).toNat%256),UInt8.ofNat ((c/1).toNat%256)]:=rfl;rw[e,h _ (Int.ediv_nonneg h0 (by decide)),h _ (Int.ediv_nonneg h0 (by decide)),h _ (Int.ediv_nonneg h0 (by decide)),h _ h0,Int.ediv_one];rfl
theorem KI{c:Int}(h0:0≤c)(w:World):fJ w (bA c 4) (.returned (.slice (some ⟨w.heap.size,0,none⟩) 4 4)) (w.alloc (.cells #[.int .u8 (c/16777216%256),.int .u8 (c/65536%256),.int .u8 (c/256%256),.int .u8 (c%256)] 5)):=by
 rw[Nn h0];refine⟨_,4,4,rfl,Nat.le_refl _,?_,wall w _⟩;have h:=kQ (w:=w) ((bA c 4).map bv) 5 (by rw[List.length_map,ay];decide);rw[List.length_map,ay]at h;exact h.mono fun b hb=>by rw[hb];exact⟨Nat.le_refl _,by simp⟩
theorem KJ(c:Int)(h0:0≤c)(w:World):Calls Tryz.prog 144 #[.int .u32 c] w (fJ w (bA c 4)):=by
 go_enter Tryz.func144,Tryz.ntmps144;go_wp2_with fail;go_ret;exact KI h0 w
theorem GX{S:Nat→Prop}(a:Option Addr)(n cp:Nat)(bs:List UInt8)(w:World)(hr:ah S w a n (bs.map bv))(hn:n≤1000000000):Calls Tryz.prog 239 #[.slice a n cp] w (fJ w (bA (mM bs) 4)):=by
 have HC:=ab9 (vV a n cp bs w hr hn);obtain⟨c,hc⟩:∃c,c=mM bs:=⟨_,rfl⟩;have hc0:=(mR bs).1;rw[←hc]at HC hc0⊢;clear hr hc;go_enter Tryz.func239,Tryz.ntmps239;go_wp2_with fail;refine HC.o.mono ?_;rintro e _ ⟨rfl,rfl⟩;go_wp2_with fail;go_ret;exact KI hc0 w
theorem fB{S:Nat→Prop}{w:World}{a:Option Addr}{n:Nat}{vs:List Value}(h:ah S w a n vs):ah (fun b=>b<w.heap.size) w a n vs:=
 ⟨h.length,h.small,fun h0=>let⟨b,off,e,_,hb,hc⟩:=h.at_ h0;⟨b,off,e,hb,hb,hc⟩⟩
def Cx(w:World)(bs:List UInt8)(e:Ending)(w':World):Prop:=
 ∃a n c,e= .returned (.tuple #[.slice a n c,.int .i64 0])∧n≤c∧ah (fun x=>w.heap.size≤x∧x<w'.heap.size) w' a n (bs.map bv)∧Below w.heap.size w w'
theorem RJ{S:Nat→Prop}(x:RecM)(h:zl x)(a:Option Addr)(c:Nat)(w:World)(hr:ah S w a x.body.length (x.body.map bv))(hc:x.body.length≤c):Calls Tryz.prog 199 #[.agg (zi x a c)] w (Cx w (vZ x)):=by
 have HR:=ab9 (fun w'=>nS x h a c w');have hk:0≤x.kind∧x.kind≤2:=by rcases h.kind with h|h<;>omega
 have hq:=h.seq;have hb:=h.body;have gN:=ab9 (fB hr);have HXH:acd (Qr x=[]++bA x.kind 1++bA x.seq 8++(bA (x.body.length:Int) 2++x.body)):=by show Qr x=_;unfold Qr;simp
 have HXB:acd (vZ x=Qr x++bA (mM (Qr x)) 4):=by show vZ x=_;rfl
 have Za:=IW x;unfold zi at HR⊢;obtain⟨w1,hw1⟩:∃w1,w1=w.alloc (.cells #[.int .i64 x.kind,.int .u64 x.seq,.slice a x.body.length c] 69):=⟨_,rfl⟩;have HB1:acd (Below w.heap.size w w1):=by rw[hw1];exact wall w _
 have hx1:w1.heap[w.heap.size]? =some (.cells #[.int .i64 x.kind,.int .u64 x.seq,.slice a x.body.length c] 69 (0,0)):=by rw[hw1];exact(MapKept.heap_alloc w _).1
 have hz1:w.heap.size<w1.heap.size:=(uh.1 hx1).1;have HH:acd (∀u,Below w1.heap.size w1 u→u.cell? ⟨w.heap.size,0,none⟩=some (.int .i64 x.kind)∧u.cell? ⟨w.heap.size,1,none⟩=some (.int .u64 x.seq)∧u.cell? ⟨w.heap.size,2,none⟩=some (.slice a x.body.length c)):=fun u hb=>by
  have h1:=(hb.block w.heap.size hz1).trans hx1;refine⟨?_,?_,?_⟩<;>simp[World.cell?,h1]
 have HW1:=ab9 hw1;clear h hr hw1 hx1;go_enter Tryz.func199,Tryz.ntmps199;go_wp2_with fail;rw[←HW1.o];refine(HR.o _).mono ?_;rintro e w2 ⟨rfl,hb2⟩;have HB2:=ab9 hb2;obtain⟨c0,c1,c2⟩:=HH.o w2 hb2;clear hb2;go_wp2_with fail;refine(dB _).mono ?_;rintro e w3 ⟨rfl,hW3,hb3⟩;have HW3:=ab9 hW3;have HB3:=ab9 hb3;obtain⟨d0,d1,d2⟩:=HH.o w3 (HB2.o.trans (hb3.mono HB2.o.size));clear hW3 hb3 c0 c1 c2;go_wp2_with fail;refine(kI HW3.o x.kind hk.1 (by omega) (by simp)).mono ?_;intro e w4 ht;obtain⟨rfl,x4,Np,hb4⟩:=b_.more HW3.o HB3.o ht;have zm:=ab9 Np;have dh:=ab9 hb4;obtain⟨e0,e1,e2⟩:=HH.o w4 (HB2.o.trans (hb4.mono HB2.o.size));clear ht Np hb4 d0 d1 d2 HW3;go_wp2_with fail;refine(iy zm.o x.seq hq.1 (by omega) (by simp[ay])).mono ?_;intro e w5 ht;obtain⟨rfl,x5,D5,hb5⟩:=b_.more zm.o dh.o ht;have qB:=ab9 D5;have dX:=ab9 hb5;have Zb:=HB2.o.trans (hb5.mono HB2.o.size);obtain⟨f0,f1,f2⟩:=HH.o w5 Zb;have CV:=gN.o.below (HB1.o.trans (Zb.mono HB1.o.size)) ace;have hs1:=HB1.o.size;have hs2:=HB2.o.size;clear ht D5 hb5 e0 e1 e2 zm;go_wp2_with fail;refine(qM qB.o a x.body.length c x.body CV (fun b (hb:b<w.heap.size)=>⟨by omega,fun h9=>by have:=bC qB.o.own b h9;omega⟩) hc (by simp[ay]) (by omega)).mono ?_;intro e w6 ht;obtain⟨rfl,x6,CW,hb6⟩:=b_.more qB.o dX.o ht;rw[←HXH.o]at CW;have qN:=ab9 CW;have oK:=ab9 hb6;clear ht CW hb6 f0 f1 f2 CV qB;go_wp2_with fail;refine(fK qN.o (by omega)).mono ?_;rintro e w7 ⟨a7,n7,c7,rfl,Gc,qC,iR⟩;have hn7:n7≤1000:=by have:=qC.length;rw[List.length_map]at this;omega
 have sQ:=ab9 (qN.o.below iR);have jw:=ab9 (oK.o.trans (iR.mono oK.o.size));have FJ:=ab9 (GX a7 n7 c7 (Qr x) w7 qC (by omega));clear qC iR qN;go_wp2_with fail;refine FJ.o.mono ?_;rintro e w8 ⟨a8,n8,c8,rfl,hc8,ru,gJ⟩;have vY:n8≤4:=by have:=ru.length;rw[List.length_map,ay]at this;omega
 have Nq:=ab9 ru;have Cy:=ab9 (sQ.o.below gJ);have nG:=ab9 (jw.o.trans (gJ.mono jw.o.size));clear ru gJ sQ FJ;go_wp2_with fail;refine(gF Cy.o a8 n8 c8 (bA (mM (Qr x)) 4) Nq.o (by omega) (by omega)).mono ?_;intro e w9 ht;obtain⟨rfl,x9,hW9,iT⟩:=b_.more Cy.o nG.o ht;rw[←HXB.o]at hW9;have KL:=ab9 hW9;have sU:=ab9 iT;have hbl:=sP x;clear ht hW9 iT Cy;go_wp2_with fail;refine(fK KL.o (by omega)).mono ?_;rintro e wA ⟨aA,nA,cA,rfl,hcA,hrA,MO⟩;have YB:=ab9 hrA;have CX:=ab9 MO;clear hrA MO;go_wp2_with fail
 go_ret2
 have Gd:=sU.o.size;have h19:=HB2.o.trans (sU.o.mono HB2.o.size);refine⟨aA,nA,cA,rfl,hcA,YB.o.mono fun b hb=>⟨by omega,hb.2⟩,(HB1.o.trans (h19.mono hs1)).trans (CX.o.mono (by omega))⟩
theorem Nr(k:Int)(x:eG)(h1:M9 x)(hk:0≤k)(hk':k≤65535)(w:World):Calls Tryz.prog 225 #[DV k x] w fun e w'=>e= .returned (.bool true)∧Below w.heap.size w w':=by
 obtain⟨l0,l1⟩:=h1.links;obtain⟨t0,t1⟩:=h1.aT;have hb:=h1.size;obtain⟨n,hn⟩:∃n,n=x.b.length:=⟨_,rfl⟩;rw[←hn]at hb;have d1:decide (k<0)=false:=by simpa using hk
 have d2:decide (65535<k)=false:=by simpa using hk'
 have d3:decide (x.links<0)=false:=by simpa using l0
 have d4:decide (65535<x.links)=false:=by simp;omega
 have d5:decide ((n:Int)≤4096)=true:=by simp;omega
 have d6:decide (x.aT≤1099511627776)=true:=by simpa using t1
 have d7:decide ((0:Int)≤(n:Int))=true:=by simp
 unfold DV;rw[←hn];by_cases hk2:x.kind=2
 ·obtain⟨_,hcl,hbn,htl⟩:=h1.dir hk2;have hn0:n=0:=by rw[hn,hbn];rfl
  subst hn0;rw[hk2,hcl,htl];clear hn h1 hk2 hcl hbn htl d6;go_enter abb,aa8;go_wp2
  all_goals (first|(go_ret;exact⟨rfl,wall w _⟩)|((try simp only[Exit.inBlock,Exit.then]);refine aap (by rfl) rfl ?_;exact⟨rfl,wall w _⟩))
 ·have hk1:=h1.kind.resolve_right hk2;rw[hk1];clear hn h1 hk2 hk1;go_enter abb,aa8;go_wp2
  all_goals (first|(go_ret;exact⟨rfl,wall w _⟩)|((try simp only[Exit.inBlock,Exit.then]);refine aap (by rfl) rfl ?_;exact⟨rfl,wall w _⟩))
def uI(k:Int)(x:eG):List UInt8:=bA k 2++bA x.kind 1++bA x.links 2++bA x.b.length 2++bA x.aT 8++uo x.closed
theorem mD(k:Int)(x:eG):(uI k x).length=16:=by
 unfold uI uo;simp only[List.length_append,ay]
theorem Ns(k:Int)(x:eG)(h1:M9 x)(hk:0≤k)(hk':k≤65535)(w:World):Calls Tryz.prog 179 #[DV k x] w fun e w'=>∃a n c,e= .returned (.tuple #[.slice a n c,.int .i64 0])∧n≤c∧ah (fun b=>w.heap.size≤b∧b<w'.heap.size) w' a n ((uI k x).map bv)∧Below w.heap.size w w':=by
 have HR:=ab9 (fun w'=>Nr k x h1 hk hk' w');obtain⟨l0,l1⟩:=h1.links;obtain⟨t0,t1⟩:=h1.aT;have hb:=h1.size;have hkd:0≤x.kind∧x.kind≤2:=by rcases h1.kind with h|h<;>omega
 obtain⟨kd0,kd1⟩:=hkd;unfold uI;obtain⟨n,hn⟩:∃n:Nat,n=x.b.length:=⟨_,rfl⟩;rw[←hn]at hb;unfold DV at HR⊢;rw[←hn]at HR⊢;clear h1 hn;go_enter Tryz.func179,Tryz.ntmps179;go_wp2_with fail;refine(HR.o _).mono ?_;rintro e w1 ⟨rfl,hb1⟩;have hsa:(w.alloc (.cells #[.int .i64 k,.int .i64 x.kind,.int .i64 x.links,.int .i64 n,.int .u64 x.aT,.bool x.closed] 35)).heap.size=w.heap.size+1:=by simp
 have hs1:=hb1.size;have HQ:acd (∀w',Below w1.heap.size w1 w'→∀j,w'.cell? ⟨w.heap.size,j,none⟩=(#[.int .i64 k,.int .i64 x.kind,.int .i64 x.links,.int .i64 n,.int .u64 x.aT,.bool x.closed]:Array Value)[j]?):=fun w' hb j=>by
  rw[hb.cell (p:=⟨w.heap.size,j,none⟩) (by simp only;omega),hb1.cell (p:=⟨w.heap.size,j,none⟩) (by simp)];exact bY (MapKept.heap_alloc w _).1 j
 have HB1:=ab9 ((wall w (.cells #[.int .i64 k,.int .i64 x.kind,.int .i64 x.links,.int .i64 n,.int .u64 x.aT,.bool x.closed] 35)).trans (hb1.mono (by omega)));clear hb1 HR;go_wp2_with fail;refine(dB w1).mono ?_;rintro e w2 ⟨rfl,hW2,hb2⟩;have HW2:=ab9 hW2;have HB2:=ab9 hb2;clear hW2 hb2;have q0:w2.cell? ⟨w.heap.size,0,none⟩=some (.int .i64 k):=HQ.o _ HB2.o 0;have U8:=ab9 (dV HW2.o k (by omega) (by omega) (by simp only[List.length_append,List.length_nil,ay];omega));go_wp2_with fail;refine U8.o.mono ?_;rintro e w3 ⟨rfl,v3,MP⟩;have HW3:=ab9 MP.1;have HB3:=ab9 (HB2.o.trans (MP.low HW2.o));clear q0 MP U8 HW2 HB2;have q1:w3.cell? ⟨w.heap.size,1,none⟩=some (.int .i64 x.kind):=HQ.o _ HB3.o 1;have nH:=ab9 (kI HW3.o x.kind (by omega) (by omega) (by simp only[List.length_append,List.length_nil,ay];omega));go_wp2_with fail;refine nH.o.mono ?_;rintro e w4 ⟨rfl,v4,GY⟩;have zm:=ab9 GY.1;have dh:=ab9 (HB3.o.trans (GY.low HW3.o));clear q1 GY nH HW3 HB3;have q2:w4.cell? ⟨w.heap.size,2,none⟩=some (.int .i64 x.links):=HQ.o _ dh.o 2;have HS2:=ab9 (dV zm.o x.links (by omega) (by omega) (by simp only[List.length_append,List.length_nil,ay];omega));go_wp2_with fail;refine HS2.o.mono ?_;rintro e w5 ⟨rfl,v5,Nt⟩;have qB:=ab9 Nt.1;have dX:=ab9 (dh.o.trans (Nt.low zm.o));clear q2 Nt HS2 zm dh;have q3:w5.cell? ⟨w.heap.size,3,none⟩=some (.int .i64 n):=HQ.o _ dX.o 3;have xV:=ab9 (dV qB.o (n:Int) (by omega) (by omega) (by simp only[List.length_append,List.length_nil,ay];omega));go_wp2_with fail;refine xV.o.mono ?_;rintro e w6 ⟨rfl,v6,Gf⟩;have qN:=ab9 Gf.1;have oK:=ab9 (dX.o.trans (Gf.low qB.o));clear q3 Gf xV qB dX;have q4:w6.cell? ⟨w.heap.size,4,none⟩=some (.int .u64 x.aT):=HQ.o _ oK.o 4;have pV:=ab9 (iy qN.o x.aT (by omega) (by omega) (by simp only[List.length_append,List.length_nil,ay];omega));go_wp2_with fail;refine pV.o.mono ?_;rintro e w7 ⟨rfl,v7,U9⟩;have sQ:=ab9 U9.1;have jw:=ab9 (oK.o.trans (U9.low qN.o));clear q4 U9 pV qN oK;have q5:w7.cell? ⟨w.heap.size,5,none⟩=some (.bool x.closed):=HQ.o _ jw.o 5;have jV:=ab9 (U6 sQ.o x.closed (by simp only[List.length_append,List.length_nil,ay];omega));go_wp2_with fail;refine jV.o.mono ?_;rintro e w8 ⟨rfl,v8,Qs⟩;have Cy:=ab9 Qs.1;have nG:=ab9 (jw.o.trans (Qs.low sQ.o));clear q5 Qs jV sQ jw;have HD:=ab9 (fK Cy.o (by simp only[List.length_append,List.length_nil,ay,uo];omega));go_wp2_with fail;refine HD.o.mono ?_;rintro e w9 ⟨a9,n9,c9,rfl,xw,jK,iT⟩;have Gg:=ab9 jK;have sU:=ab9 (nG.o.trans (iT.mono nG.o.size));have Aj:=nG.o.size;have hc9':=xw;clear jK iT HD;go_wp2_with fail
 go_ret2
 refine⟨a9,n9,c9,rfl,hc9',?_,HB1.o.trans (sU.o.mono HB1.o.size)⟩;have h9:=Gg.o.mono (S':=fun b=>w.heap.size≤b∧b<w9.heap.size) fun b hb=>⟨by have:=HB1.o.size;omega,hb.2⟩;simpa using h9
section
variable{g:Nat→Own}{D:Nat→Prop}{p mb:Nat}{ib nb:Int→Nat}{T:aI}
theorem Nu{S S':Nat→Prop}(a:Option Addr)(l c:Nat)(x:List UInt8)(a':Option Addr)(l' c':Nat)(y:List UInt8)(w:World)(hx:ah S w a l (x.map bv))(hy:ah S' w a' l' (y.map bv))(ht:l+l'≤1000000000):
  Calls Tryz.prog 101 #[.slice (some ⟨w.heap.size,0,none⟩) 2 2] (w.alloc (.cells #[.slice a l c,.slice a' l' c'] 32)) fun e w'=>∃a2 c2,e= .returned (.slice a2 (l+l') c2)∧oI (l+l') c2∧ah (fun b=>w.heap.size≤b∧b<w'.heap.size) w' a2 (l+l') ((x++y).map bv)∧Below w.heap.size w w':=by
 have e1:x.length=l:=by have:=hx.length;simpa using this
 have e2:y.length=l':=by have:=hy.length;simpa using this
 have e3:([x,y]:List (List UInt8)).flatten=x++y:=by simp
 have e4:(x++y).length=l+l':=by rw[List.length_append,e1,e2]
 refine(DY (S:=fun b=>S b∨S' b) w.heap.size 2 [x,y] _ rfl (by omega) (by simp) (by rw[e3,e4];exact ht) (fun k hk=> ?_)).mono ?_
 ·rcases (show k=0∨k=1 by omega)with rfl|rfl
  ·exact⟨a,l,c,x,zh.1,(hx.below (wall w _) ace).mono fun _=> .inl,rfl⟩
  ·exact⟨a',l',c',y,zh.2,(hy.below (wall w _) ace).mono fun _=> .inr,rfl⟩
 ·rintro e w' ⟨a2,c2,rfl,hc2,hr,hb⟩;rw[e3,e4]at hr hc2;rw[e3,e4];exact⟨a2,c2,rfl,hc2,hr.mono fun b hb=>⟨by simp at hb;omega,hb.2⟩,(wall w _).trans (hb.mono (by simp))⟩
theorem Nv{w w1:World}{id:Int}{x:eG}{bs:List UInt8}{a2:Option Addr}{l c2:Nat}{v3 v:Value}(h:aM g D w p mb ib nb T)(hb:Below w.heap.size w w1)(hx:aj id T=some x)(hl:bs.length=l)(hcap:oI (x.b.length+l) c2)
  (hr:ah (fun b=>w.heap.size≤b∧b<w1.heap.size) w1 a2 (x.b.length+l) ((x.b++bs).map bv))(h3:v3= .int .i64 ((x.b.length+l:Nat):Int)):
  Turn g D w p mb (cu id (fun x=>{x with b:=x.b++bs}) T) v (.returned v) ((w1.setCell ⟨ib id,6,none⟩ (.slice a2 (x.b.length+l) c2)).setCell ⟨ib id,3,none⟩ v3):=by
 subst h3;have hA1:=h.below hb ace;have ti:=h.pR id x hx;have hs:=hb.size;have hK:=Keeps.set2 w1 (ib id) 6 3 (.slice a2 (x.b.length+l) c2) (.int .i64 ((x.b.length+l:Nat):Int));obtain⟨ax,cx,_,_,_,hc⟩:=(hA1.item id x hx).row;have hlen:(x.b++bs).length=x.b.length+l:=by rw[List.length_append,hl]
 refine⟨rfl,g,fun b=>D b∨(w.heap.size≤b∧b<w1.heap.size),ib,nb,?_,fun b h=> .inl h,fun b hb=>hb.imp (fun h=>h) fun h=>h.1,?_⟩
 ·refine hA1.cu hx rfl (fun _ h=> .inl h) (fun b hb=> ?_) (by rw[size_set,size_set];exact Nat.le_refl _) (fun b hbw h1 _=>hK.block b hbw (fun e=>h1 (by rw[e];exact ti))) ?_
  ·rw[size_set,size_set];rcases hb with hb|hb
   ·exact⟨hA1.data b hb,hA1.oN b hb⟩
   ·refine⟨?_,hb.2⟩;cases hg:g b with
    |none=>rfl
    |_=>have:=h.low b (by rw[hg];simp);omega
  ·refine⟨⟨a2,c2,?_,by rw[hlen];exact hcap,?_⟩,fun hk=> ?_⟩
   ·rw[aK (aK hc)];simp only[iq,hlen];rfl
   ·rw[hlen];refine hr.move hK.size fun b hb hbw=>⟨.inr hb,hK.block b hbw ?_⟩;have:=h.low (ib id) (by rw[ti];simp);omega
   ·have tn:=h.mX id x hx hk;have e:dJ {x with b:=x.b++bs}=dJ x:=rfl;rw[e];exact((hA1.item id x hx).names hk).kept (hK.block _ (hA1.low _ (by rw[tn];simp)) (fun e=>by rw[e,ti]at tn;cases tn))
 ·have hgi:g (ib id)≠ .none:=by rw[ti];simp
  exact⟨hK.os.trans hb.os,hK.tape.trans hb.tape,hK.output.trans hb.output,Nat.le_trans hs hK.size,fun b hbw hbg=>(hK.block b (by omega) (fun e=>hbg (by rw[e];exact hgi))).trans (hb.block b hbw)⟩
theorem RL{S:Nat→Prop}(id:Int)(a:Option Addr)(l c:Nat)(bs:List UInt8)(w:World)(h:aM g D w p mb ib nb T)(hok:∀x,aj id T=some x→x.b.length≤4096)(hid:(Lit.int .i64 id).wf=true)(hr:ah S w a l (bs.map bv))(hl:l≤1000000000):
  Calls Tryz.prog 124 #[ptr p,.int .i64 id,.slice a l c] w (Turn g D w p mb (dG T id bs).2 (.int .i64 (dG T id bs).1)):=by
 have HH:=ab9 h;have hbl:bs.length=l:=by have:=hr.length;simpa using this
 by_cases hf:jr T id=0
 ·obtain⟨x,hx,hk⟩:=xX hf;have HF:=ab9 (CU id hx hk w h hid);obtain⟨c0,c1,c2,c3,c4,c5,c7,hiw⟩:=(h.item id x hx).cell;have hxb:=hok x hx;have hE:qI T id bs=if x.closed then 27 else if 4096<x.b.length+l then 15 else 0:=by unfold qI;rw[hx,hbl];simp only[if_neg hk]
  have HE:=ab9 hE;cases hcl:x.closed with
  |true=>
   have HM:acd (dG T id bs=(27,T)):=by
    unfold dG;rw[HE.o,hcl];simp only[if_pos];exact rfl
   rw[hcl]at c5;clear hE hcl hx hk hf h c7 hok hr hbl;go_enter Tryz.func124,Tryz.ntmps124;go_wp2_with fail;refine HF.o.mono ?_;rintro e w1 ⟨rfl,rfl⟩;go_wp2_with fail;go_ret;rw[HM.o];exact Turn.same HH.o acf rfl
  |false=>
   rw[hcl]at c5;by_cases hbig:4096<x.b.length+l
   ·have HM:acd (dG T id bs=(15,T)):=by
     unfold dG;rw[HE.o,hcl];simp only[aa3,if_false,if_pos hbig];exact rfl
    have hd:decide ((4096:Int)-(x.b.length:Int)<(l:Int))=true:=by simp;omega
    clear hE hcl hx hk hf h c7 hok hr hbl;go_enter Tryz.func124,Tryz.ntmps124;go_wp2_with fail;refine HF.o.mono ?_;rintro e w1 ⟨rfl,rfl⟩;go_wp2_with fail;go_ret;rw[HM.o];exact Turn.same HH.o acf rfl
   ·have HM:acd (dG T id bs=(0,cu id (fun x=>{x with b:=x.b++bs}) T)):=by
     unfold dG;rw[HE.o,hcl];simp only[aa3,if_false,if_neg hbig];exact rfl
    have hd:decide ((4096:Int)-(x.b.length:Int)<(l:Int))=false:=by simp;omega
    obtain⟨ax,cx,c6,hcap,hrx,hcells⟩:=(h.item id x hx).row;have HC:=ab9 (Nu ax x.b.length cx x.b a l c bs w hrx hr (by omega));have HX:=ab9 hx;have HCE:=ab9 hcells;have xC:=ab9 hbl;clear hE hcl hx hk hf h c7 hok hr hbl hrx hcells hcap;go_enter Tryz.func124,Tryz.ntmps124;go_wp2_with fail;refine HF.o.mono ?_;rintro e w1 ⟨rfl,rfl⟩;go_wp2_with fail;refine HC.o.mono ?_;rintro e w1 ⟨a2,c2',rfl,hcap2,hr2,hb2⟩;have hA1:=HH.o.below hb2 ace;have hi1:=hA1.item id x HX.o;have hfz6:=hi1.frozen 6;have hfz3:=hi1.frozen 3;have hiw1:=hi1.cell.2.2.2.2.2.2.2;obtain⟨_,_,d6,_,_,_⟩:=hi1.row;obtain⟨_,_,_,d3,_,_,_,_⟩:=hi1.cell;have HA1:=ab9 hA1;have HR2:=ab9 hr2;have HB2:=ab9 hb2;have KM:=ab9 hcap2;clear hA1 hr2 hb2 hcap2 hi1;go_wp2_with fail;go_ret;rw[HM.o];exact Nv HH.o HB2.o HX.o xC.o KM.o HR2.o (by simp)
 ·have hne:(jr T id==0)=false:=by simpa using hf
  have HF:=ab9 (DU id _ rfl hf w h hid);have HM:acd (dG T id bs=(jr T id,T)):=by
   unfold dG;rw[KG hf,if_neg hf];exact rfl
  obtain⟨k,hk⟩:∃k,k=jr T id:=⟨_,rfl⟩;rw[←hk]at HF hne HM;clear hf h hk hok hr hbl;go_enter Tryz.func124,Tryz.ntmps124;go_wp2_with fail;refine HF.o.mono ?_;rintro e w1 ⟨rfl,rfl⟩;go_wp2_with fail;go_ret;rw[HM.o];exact Turn.same HH.o acf rfl
end
end Go.Proofs.YtmflaonodghbcaaGreatDoor
