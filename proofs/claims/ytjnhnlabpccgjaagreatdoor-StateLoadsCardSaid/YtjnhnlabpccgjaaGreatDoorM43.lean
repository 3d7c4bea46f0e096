/- package -/
import Derived.Test.YtjnhnlabpccgjaaGreatDoorM41
import Derived.Test.YtjnhnlabpccgjaaGreatDoorM11
import Derived.WalkLawsBesides
import Derived.Test.YtjnhnlabpccgjaaGreatDoorM42
import Derived.Test.YtjnhnlabpccgjaaGreatDoorM20
set_option maxRecDepth 100000
set_option maxHeartbeats 64000000
set_option linter.all false
namespace Go.Proofs.YtjnhnlabpccgjaaGreatDoor
open Go.ChangeShapes Go.WideShapes Go.ChangeAt Go.RowKit
structure bO(D:Nat→Prop)(w:World)(x:Nat)(s:Rd):Prop where
 head:∃a c,w.heap[x]? =some (.cells #[.slice a s.1.length c,.int .i64 s.2] 173 (0,0))∧ny s.1.length c∧ah D w a s.1.length (s.1.map bv)
 apart:¬D x
 small:s.1.length≤100000000
 why:0≤s.2∧s.2≤100
 low:∀b,D b→b<w.heap.size
def Pm(D:Nat→Prop)(w:World)(x:Nat)(bs:List UInt8)(s':Rd)(e:Ending)(w':World):Prop:=
 ∃a c,e= .returned (.slice a bs.length c)∧ny bs.length c∧ah (fun b=>w.heap.size≤b∧b<w'.heap.size) w' a bs.length (bs.map bv)∧bO D w' x s'∧Keeps (fun b=>b=x) w w'
def BG(D:Nat→Prop)(w:World)(x:Nat)(v:Value)(s':Rd)(e:Ending)(w':World):Prop:=
 e= .returned v∧bO D w' x s'∧Keeps (fun b=>b=x) w w'
section
variable{D:Nat→Prop}{x:Nat}{w w1 w2:World}{s s1 s2:Rd}
theorem bO.lt(h:bO D w x s):x<w.heap.size:=by
 obtain⟨a,c,h1,_⟩:=h.head;exact(iL.1 h1).1
theorem bO.kept(h:bO D w x s)(hs:w.heap.size≤w1.heap.size)(hx:w1.heap[x]? =w.heap[x]?)(hD:∀b,D b→b<w.heap.size→w1.heap[b]? =w.heap[b]?):bO D w1 x s:=by
 obtain⟨⟨a,c,h1,h2,h3⟩,h4,h5,h6,h7⟩:=h;exact⟨⟨a,c,hx.trans h1,h2,h3.kept hs hD⟩,h4,h5,h6,fun b hb=>Nat.lt_of_lt_of_le (h7 b hb) hs⟩
theorem bO.below{B:Nat}(h:bO D w x s)(hb:Below B w w1)(hB:w.heap.size≤B):bO D w1 x s:=
 h.kept hb.size (hb.block x (by have:=h.lt;omega)) fun b _ hb'=>hb.block b (by omega)
end
theorem Y2{w:World}{base:Nat}{e:TypeId}{a:Option Addr}{m c n:Nat}{xs:List Value}(h:w.ownsRow base e 1 (.slice a m c) n xs):ny n c:=by
 obtain⟨h0,h⟩:=h;rcases h with⟨h1,rfl⟩|⟨g,cap,cur,h1,_,_,h3,h4,_⟩
 ·simp only[aak]at h1;obtain⟨_,_,rfl⟩:=h1;exact⟨Nat.zero_le _,Nat.zero_le _⟩
 ·simp only[aak]at h1;obtain⟨_,_,rfl⟩:=h1;exact⟨h3,h4⟩
def Pn(w:World)(bs:List UInt8)(e:Ending)(w':World):Prop:=
 ∃a c,e= .returned (.slice a bs.length c)∧ny bs.length c∧ah (fun x=>w.heap.size≤x∧x<w'.heap.size) w' a bs.length (bs.map bv)∧Below w.heap.size w w'
theorem EA{S:Nat→Prop}(a:Option Addr)(n cap:Nat)(bs:List UInt8)(w:World)(hm:n≤1000000000)(hr:ah S w a n (bs.map bv)):
  Calls Tryz.prog 126 #[.slice a n cap] w (Pn w bs):=by
 obtain⟨i0,hi,hz0,hz1,hz2⟩:=aam Tryz.IY;have hll:bs.length=n:=by have:=hr.length;simpa using this
 have heq:=fun w=>Lib.run_eql_slice_nil (P:=Tryz.prog) w 28 5 a n cap 0 0 Tryz.underlying28;have HR:=acr hr;have HL:=acr hll;clear hr hll;cases a with
 |none=>
  have h0:n=0:=by
   rcases abv n with h0|h0
   ·exact h0
   ·obtain⟨_,_,e,_⟩:=HR.o.at_ h0;cases e
  subst h0;have hb0:bs=[]:=aad HL.o;subst hb0;go_enter Tryz.func126,Tryz.ntmps126;go_wp2;go_ret;exact⟨none,0,rfl,⟨Nat.le_refl _,Nat.zero_le _⟩,ah.nil _ _ _,Below.refl _ _⟩
 |some ad=>
  have hsz:(w.alloc (.cells #[] 5)).heap.size=w.heap.size+1:=by simp
  have HS:=acr (HR.o.below (wall w (.cells #[] 5)) acu);go_enter Tryz.func126,Tryz.ntmps126;go_wp2_with ((at_builtin;refine aQ (by rfl) _ _ 28 (by rfl) w.heap.size 5 i0 (.int .u8 0) 1 Tryz.underlying28 hi hz0 hz1 hz2 rfl _ 0 [] (by rfl) ⟨rfl,.inr ⟨w.heap.size,0,#[],rfl,Nat.le_refl _,(MapKept.heap_alloc w _).1,Nat.le_refl _,Nat.zero_le _,rfl,rfl⟩⟩ (some ad) n cap (bs.map bv) (by rfl) HS.o (dV bs) (by unfold maxLen;omega) (by omega) (by simp) ?_;intro A' c' w2 hown2 hgrow2 _ _));go_ret;have hB2:Below w.heap.size w w2:=(wall w _).grown hgrow2 (by simp) (fun k hk=>by cases hk;exact Nat.le_refl _);have hcap:=Y2 hown2;have hro:=(ah.mR hown2).2;rw[List.nil_append]at hro;simp only[Nat.zero_add]at hro hcap;have hl:=HL.o;subst hl;exact⟨_,c',by simp only[Nat.zero_add];rfl,hcap,hro,hB2⟩
section
variable{D:Nat→Prop}{x:Nat}{w:World}{s:Rd}
theorem rQ{S:Nat→Prop}(a:Option Addr)(n c:Nat)(bs:List UInt8)(w:World)(hm:n≤100000000)(hr:ah S w a n (bs.map bv)):
  Calls Tryz.prog 54 #[.slice a n c] w fun e w'=>∃x,e= .returned (ptr x)∧w.heap.size≤x∧bO (fun b=>w.heap.size≤b∧b<x) w' x (bs,0)∧Below w.heap.size w w':=by
 have hl:bs.length=n:=by simpa using hr.length
 have HC:=acr (EA a n c bs w (by omega) hr);have hl2:bs.length≤100000000:=by omega
 clear hr hl;go_enter Tryz.func54,Tryz.ntmps54;go_wp2_with fail;refine HC.o.mono ?_;rintro e w1 ⟨a1,c1,rfl,hc1,hr1,hb1⟩;have HR1:=acr hr1;have HB1:=acr hb1;have Po:=acr hc1;clear hr1 hb1 hc1 HC;go_wp2_with fail;go_ret;refine⟨_,rfl,HB1.o.size,⟨⟨a1,c1,(MapKept.heap_alloc w1 _).1,Po.o,?_⟩,fun h=>by omega,hl2,by simp,fun b hb=>by rw[Pe];omega⟩,HB1.o.trans ((wall w1 _).mono HB1.o.size)⟩;exact HR1.o.move (wall w1 _).size fun b hb hbw=>⟨hb,(wall w1 _).block b hbw⟩
theorem row0{D:Nat→Prop}{w w':World}{x:Nat}{s':Rd}(h:bO D w' x s')(hk:Keeps (fun b=>b=x) w w'):Pm D w x [] s' (.returned (.slice none 0 0)) w':=
 ⟨none,0,rfl,⟨Nat.le_refl _,Nat.zero_le _⟩,ah.nil _ _ _,h,hk⟩
theorem ND(h:bO D w x s)(n:Int)(hn0:0≤n)(hn1:n≤9223372036854775807):Calls Tryz.prog 58 #[ptr x,.int .i64 n] w (Pm D w x (gH s n).1 (gH s n).2):=by
 obtain⟨l,y⟩:=s;obtain⟨a,c,h1,h2,h3⟩:=h.head;have c0:w.cell? ⟨x,0,none⟩=some (.slice a l.length c):=by simp[World.cell?,h1]
 have c1:w.cell? ⟨x,1,none⟩=some (.int .i64 y):=by simp[World.cell?,h1]
 have f0:w.frozen? ⟨x,0,none⟩=false:=by simp[World.frozen?,h1]
 have f1:w.frozen? ⟨x,1,none⟩=false:=by simp[World.frozen?,h1]
 have hxw:=h.lt;have hyy:=h.why;have hls:l.length≤100000000:=h.small;dsimp only at hyy;by_cases hy:y=0
 ·subst hy;by_cases hlt:(l.length:Int)<n
  ·have e1:gH (l,0) n=([],(l,10)):=by unfold gH;rw[if_neg (by simp),if_pos hlt]
   rw[e1];have HE:acs (bO D (w.setCell ⟨x,1,none⟩ (.int .i64 10)) x (l,10)):=by
    refine⟨⟨a,c,?_,h2,?_⟩,h.apart,h.small,by simp,fun b hb=>by rw[size_set];exact h.low b hb⟩
    ·rw[aO h1];rfl
    ·exact h3.kept (by rw[size_set];exact Nat.le_refl _) fun b hb _=>bA w _ _ _ (fun(e:b=x)=>h.apart (e▸hb))
   clear h h1 h2 h3 e1 hyy;go_enter Tryz.func58,Tryz.ntmps58;go_wp2
   all_goals (first|(go_ret;exact row0 HE.o (Keeps.gI w ⟨x,1,none⟩ _))|((try simp only[Exit.inBlock,Exit.then]);refine aaB (by rfl) rfl ?_;exact row0 HE.o (Keeps.gI w ⟨x,1,none⟩ _)))
  ·have hge:¬((l.length:Int)<n):=hlt;have hgb:decide ((l.length:Int)<n)=false:=by simpa using hlt
   by_cases h0:n<1
   ·have e1:gH (l,0) n=([],(l,0)):=by unfold gH;rw[if_neg (by simp),if_neg hlt,if_pos h0]
    rw[e1];have HE:=acr h;clear h h1 h2 h3 e1 hyy hlt;go_enter Tryz.func58,Tryz.ntmps58;go_wp2
    all_goals (first|(go_ret;exact row0 HE.o (Keeps.refl _ _))|((try simp only[Exit.inBlock,Exit.then]);refine aaB (by rfl) rfl ?_;exact row0 HE.o (Keeps.refl _ _)))
   ·obtain⟨k,rfl⟩:∃k:Nat,n=(k:Int):=⟨n.toNat,by omega⟩;have e1:gH (l,0) (k:Int)=(l.take k,(l.drop k,0)):=by unfold gH;rw[if_neg (by simp),if_neg hlt,if_neg h0];rfl
    rw[e1];have hk1:1≤k:=by omega
    have hkl:k≤l.length:=by omega
    obtain⟨L,hL⟩:∃L,L=l.length:=⟨_,rfl⟩;rw[←hL]at c0 h1 h2 h3 hlt hge hgb hkl hls;obtain⟨b,off,rfl,vk,hbw,-⟩:=h3.at_ (by omega);have hLc:=h2.1;have hcm:=h2.2;unfold maxLen at hcm;have hbx:b≠x:=fun e=>h.apart (e▸vk);have htk:ah D w (some ⟨b,off,none⟩) k ((l.take k).map bv):=by
     have:=h3.take k;rw[aa3]
     rwa [abu hkl]at this
    have ZW:=acr (EA (some ⟨b,off,none⟩) k c (l.take k) w (by omega) htk);have Fb:acs ((l.take k).length=k):=by show _=_;rw[List.length_take];omega
    have vC:acs ((l.drop k).length=L-k):=by show _=_;rw[List.length_drop,hL]
    have qQ:∀(w1:World) (A:Option Addr) (C:Nat),Pn w (l.take k) (.returned (.slice A k C)) w1→∀(R:Option Addr) (rc:Nat),ny (L-k) rc→(0<L-k→R=some ⟨b,off+k,none⟩)→
      Pm D w x (l.take k) (l.drop k,0) (.returned (.slice A k C)) (w1.setCell ⟨x,0,none⟩ (.slice R (L-k) rc)):=by
     intro w1 A C hret R rc hrc hR;obtain⟨a1,cc,he,hc1,hr1,hb1⟩:=hret;rw[Fb.o]at he hc1 hr1;cases he;have hx1:=(hb1.block x hxw).trans h1;refine⟨A,C,by rw[Fb.o],by rw[Fb.o];exact hc1,?_,⟨⟨R,rc,?_,?_,?_⟩,h.apart,?_,by simp,fun z hz=>by rw[size_set];exact Nat.lt_of_lt_of_le (h.low z hz) hb1.size⟩,?_⟩
     ·rw[Fb.o];refine hr1.move (by rw[size_set];exact Nat.le_refl _) fun z hz hzw=>⟨⟨hz.1,by rw[size_set];exact hz.2⟩,bA w1 _ _ _ (fun e=> ?_)⟩;have e':z=x:=e;omega
     ·rw[aO hx1];simp only[vC.o];rfl
     ·rw[vC.o];exact hrc
     ·simp only[vC.o];have hdr:ah D w1 (some ⟨b,off+k,none⟩) (L-k) ((l.drop k).map bv):=by
       have:=(h3.drop k).below hb1 acu
       rwa [←abW]at this
      have hdr2:ah D w1 R (L-k) ((l.drop k).map bv):=by
       by_cases hz:0<L-k
       ·rw[hR hz];exact hdr
       ·exact ah.zero R _ _ (by omega) (by rw[aad (l:=l.drop k) (by rw[vC.o];omega)];rfl)
      exact hdr2.kept (by rw[size_set];exact Nat.le_refl _) fun z hz _=>bA w1 _ _ _ (fun(e:z=x)=>h.apart (e▸hz))
     ·show(l.drop k).length≤_;rw[vC.o];omega
     ·exact((Keeps.below hb1).mono (fp':=fun z=>z=x) fun z hz hz'=>by omega).trans (Keeps.gI w1 ⟨x,0,none⟩ _) fun z _ hz=>hz
    have HENDH:=acr qQ;clear qQ h h1 h2 h3 e1 hyy hlt htk hL h0;have b1:(1:Int)≤(k:Int):=by omega
    have b0:(0:Int)≤(k:Int):=by omega
    have b2:(k:Int)≤(c:Int):=by omega
    have b3:(k:Int)≤(L:Int):=by omega
    have d1:decide ((k:Int)<1)=false:=by simp;omega
    by_cases hcap:c=k
    ·obtain rfl:k=c:=hcap.symm;go_enter Tryz.func58,Tryz.ntmps58;go_wp2_with fail;refine ZW.o.mono ?_;rintro e w1 hret;obtain⟨A,C,rfl⟩:∃A C,e= .returned (.slice A k C):=by
      obtain⟨A,C,he,-⟩:=hret;exact⟨A,C,by rw[he,Fb.o]⟩
     have HRET:=acr hret;have hb1:Below w.heap.size w w1:=by
      obtain⟨_,_,_,_,_,hb⟩:=hret;exact hb
     have q0:w1.cell? ⟨x,0,none⟩=some (.slice (some ⟨b,off,none⟩) L k):=(hb1.cell (p:=⟨x,0,none⟩) hxw).trans c0;have g0:w1.frozen? ⟨x,0,none⟩=false:=(hb1.frozen (p:=⟨x,0,none⟩) hxw).trans f0;clear hret hb1 ZW;go_wp2_with fail;go_ret;have hfin:=HENDH.o w1 A C HRET.o (some ⟨b,off,none⟩) 0 ⟨by omega,Nat.zero_le _⟩ (fun hz=>by omega);rw[show L-k=0 by omega]at hfin;exact hfin
    ·go_enter Tryz.func58,Tryz.ntmps58;go_wp2_with fail;refine ZW.o.mono ?_;rintro e w1 hret;obtain⟨A,C,rfl⟩:∃A C,e= .returned (.slice A k C):=by
      obtain⟨A,C,he,-⟩:=hret;exact⟨A,C,by rw[he,Fb.o]⟩
     have HRET:=acr hret;have hb1:Below w.heap.size w w1:=by
      obtain⟨_,_,_,_,_,hb⟩:=hret;exact hb
     have q0:w1.cell? ⟨x,0,none⟩=some (.slice (some ⟨b,off,none⟩) L c):=(hb1.cell (p:=⟨x,0,none⟩) hxw).trans c0;have g0:w1.frozen? ⟨x,0,none⟩=false:=(hb1.frozen (p:=⟨x,0,none⟩) hxw).trans f0;clear hret hb1 ZW;go_wp2_with fail;go_ret;exact HENDH.o w1 A C HRET.o _ _ ⟨by omega,by unfold maxLen;omega⟩ (fun hz=>by first|rfl|omega)
 ·have e1:gH (l,y) n=([],(l,y)):=GH (s:=(l,y)) hy n;rw[e1];have d1:(y==0)=false:=by simpa using hy
  have d2:(y !=0)=true:=by simpa using hy
  have HE:=acr h;clear h h1 h2 h3 e1 hy;go_enter Tryz.func58,Tryz.ntmps58;go_wp2
  all_goals (first|(go_ret;exact row0 HE.o (Keeps.refl _ _))|((try simp only[Exit.inBlock,Exit.then]);refine aaB (by rfl) rfl ?_;exact row0 HE.o (Keeps.refl _ _)))
theorem u64_or(n c:Int)(h0:0≤n)(h1:n<72057594037927936)(c0:0≤c)(c1:c<256):bits .or .u64 (n*256) c=n*256+c:=by
 obtain⟨a,rfl⟩:=Int.eq_ofNat_of_zero_le h0;obtain⟨b,rfl⟩:=Int.eq_ofNat_of_zero_le c0;have h:=bits_or_u64_nat (a*256) b (by omega) (by omega);rw[show((a:Int)*256)=((a*256:Nat):Int)by omega,h,nat_join8 _ _ (by omega) (by omega)];omega
theorem Pp(s:Rd)(k:Nat):(gH s k).1.length≤k:=by
 unfold gH;split
 ·simp
 ·split
  ·simp
  ·split
   ·simp
   ·simp only[List.length_take];omega
theorem NG{l:List UInt8}(h:l.length≤8)(j:Nat)(hj:j<l.length):0≤uj (l.take j)∧uj (l.take j)<72057594037927936:=by
 obtain⟨h1,h2⟩:=um j (l.take j) (by rw[List.length_take];omega);refine⟨h1,Int.lt_of_lt_of_le h2 ?_⟩;have h3:j≤7:=by omega
 have:j=0∨j=1∨j=2∨j=3∨j=4∨j=5∨j=6∨j=7:=by omega
 rcases this with h|h|h|h|h|h|h|h<;>subst h<;>decide
theorem NH(h:bO D w x s)(k:Nat)(hk:k≤8):Calls Tryz.prog 127 #[ptr x,.int .i64 k] w (BG D w x (.int .u64 (bq s k).1) (bq s k).2):=by
 have HR:=acr (ND h (k:Int) (by omega) (by omega));have hlen:=Pp s k;unfold bq;obtain⟨bs,hbs⟩:∃bs,bs=(gH s k).1:=⟨_,rfl⟩;obtain⟨s',hs'⟩:∃s',s'=(gH s k).2:=⟨_,rfl⟩;rw[←hbs,←hs']at HR;rw[←hbs]at hlen;rw[←hbs,←hs'];have Km:bs.length≤8:=by omega
 clear h hbs hs' hlen;go_enter Tryz.func127,Tryz.ntmps127;go_wp2_with fail;refine HR.o.mono ?_;rintro e w1 ⟨a,c,rfl,hc1,hr1,nu,hK1⟩;have HRW:=acr hr1;have qQ:acs (bO D w1 x s'∧Keeps (fun b=>b=x) w w1):=⟨nu,hK1⟩;obtain⟨L,hL⟩:∃L,L=bs.length:=⟨_,rfl⟩;have Ho:=acr hL;rw[←hL]at Km HRW;rw[←hL];clear hc1 hr1 nu hK1 HR hL;go_wp2_with fail
 go_loop [5,12] (fun n i=>∃j:Nat,j≤L∧i= .int .i64 j∧n= .int .u64 (uj (bs.take j))) (fun _ i=>L-(intOf i).toNat)
 case atStart=>exact⟨0,Nat.zero_le _,rfl,rfl⟩
 case round=>
  obtain⟨j,hj,rfl,rfl⟩:=hrel;by_cases hlt:j<L
  ·obtain⟨b,off,rfl,_,hbw,hcc⟩:=HRW.o.at_ (by omega);have hll:=Ho.o;obtain⟨v0,v1⟩:=NG (l:=bs) (by omega) j (by omega);have hget:bs[j]? =some (bs[j]'(by omega)):=List.getElem?_eq_getElem (by omega);have htk:bs.take (j+1)=bs.take j++[bs[j]'(by omega)]:=aae (by omega);obtain⟨cb,hcb⟩:∃cb,cb=bs[j]'(by omega):=⟨_,rfl⟩;rw[←hcb]at hget htk;have q:=hcc j hlt;rw[List.getElem?_map,hget]at q;have q1:w1.cell? ⟨b,off+j,none⟩=some (.int .u8 (cb.toNat:Int)):=q;have HV:acs (uj (bs.take (j+1))=uj (bs.take j)*256+(cb.toNat:Int)):=by
    show _=_;rw[htk,zI]
   have hc2:(cb.toNat:Int)<256:=by have:=cb.toNat_lt;omega
   obtain⟨v,hv⟩:∃v,v=uj (bs.take j):=⟨_,rfl⟩;rw[←hv]at v0 v1 HV⊢;have HO:acs (bits .or .u64 (v*256) (cb.toNat:Int)=v*256+(cb.toNat:Int)):=u64_or v _ v0 v1 (by omega) hc2;clear hll hget htk hcb q hcc hv;go_wp2
   go_round
   case rel=>exact⟨j+1,by omega,by go_num,by rw[HV.o,←HO.o]⟩
   case measure=>simp[intOf];omega
  ·obtain rfl:j=L:=by omega
   have hall:bs.take j=bs:=by rw[List.take_of_length_le (by have:=Ho.o;omega)]
   rw[hall];clear hall;go_wp2;go_ret;exact⟨rfl,qQ.o⟩
theorem qK(h:bO D w x s):Calls Tryz.prog 128 #[ptr x] w (BG D w x (.int .i64 (bq s 2).1) (bq s 2).2):=by
 have HG:acs (Calls Tryz.prog 127 #[ptr x,.int .i64 2] w (BG D w x (.int .u64 (bq s 2).1) (bq s 2).2)):=NH h 2 (by omega);obtain⟨n0,n1⟩:=eD s 2;have e1:IntKind.i64.wrap (bq s 2).1=(bq s 2).1:=aag _ (by have:(256:Int)^2=65536:=rfl;omega);generalize (bq s 2).1=v at*;generalize (bq s 2).2=s' at*;clear h n1;go_enter Tryz.func128,Tryz.ntmps128;go_wp2_with fail;refine HG.o.mono ?_;rintro e w1 ⟨rfl,nu⟩;have HR1:=acr nu;clear nu;go_wp2_with fail;go_ret;exact⟨rfl,HR1.o⟩
theorem IB(h:bO D w x s):Calls Tryz.prog 134 #[ptr x] w (BG D w x (.int .i64 (bq s 1).1) (bq s 1).2):=by
 have HG:acs (Calls Tryz.prog 127 #[ptr x,.int .i64 1] w (BG D w x (.int .u64 (bq s 1).1) (bq s 1).2)):=NH h 1 (by omega);obtain⟨n0,n1⟩:=eD s 1;have e1:IntKind.i64.wrap (bq s 1).1=(bq s 1).1:=aag _ (by have:(256:Int)^1=256:=rfl;omega);generalize (bq s 1).1=v at*;generalize (bq s 1).2=s' at*;clear h n1;go_enter Tryz.func134,Tryz.ntmps134;go_wp2_with fail;refine HG.o.mono ?_;rintro e w1 ⟨rfl,nu⟩;have HR1:=acr nu;clear nu;go_wp2_with fail;go_ret;exact⟨rfl,HR1.o⟩
theorem Pq(h:bO D w x s):Calls Tryz.prog 55 #[ptr x] w (BG D w x (.int .u64 (bq s 8).1) (bq s 8).2):=by
 have HG:acs (Calls Tryz.prog 127 #[ptr x,.int .i64 8] w (BG D w x (.int .u64 (bq s 8).1) (bq s 8).2)):=NH h 8 (by omega);generalize (bq s 8).1=v at*;generalize (bq s 8).2=s' at*;clear h;go_enter Tryz.func55,Tryz.ntmps55;go_wp2_with fail;refine HG.o.mono ?_;rintro e w1 ⟨rfl,nu⟩;have HR1:=acr nu;clear nu;go_wp2_with fail;go_ret;exact⟨rfl,HR1.o⟩
theorem zL(h:bO D w x s):Calls Tryz.prog 133 #[ptr x] w (Pm D w x (aL s).1 (aL s).2):=by
 have HS:=acr (qK h);obtain⟨n0,n1⟩:=eD s 2;have n2:(bq s 2).1≤9223372036854775807:=by have:(256:Int)^2=65536:=rfl;omega
 unfold aL;generalize (bq s 2).1=v at*;generalize (bq s 2).2=s1 at*;clear h n1;go_enter Tryz.func133,Tryz.ntmps133;go_wp2_with fail;refine HS.o.mono ?_;rintro e w1 ⟨rfl,nu,hK1⟩;have HR:=acr (ND nu v n0 n2);have HK:=acr hK1;clear nu hK1;go_wp2_with fail;refine HR.o.mono ?_;rintro e w2 ⟨a,c,rfl,hc2,hr2,hR2,hK2⟩;have HR2:acs (ny (gH s1 v).1.length c∧ah (fun b=>w1.heap.size≤b∧b<w2.heap.size) w2 a (gH s1 v).1.length ((gH s1 v).1.map bv)∧bO D w2 x (gH s1 v).2∧Keeps (fun b=>b=x) w1 w2):=⟨hc2,hr2,hR2,hK2⟩;clear hc2 hr2 hR2 hK2;go_wp2_with fail;go_ret;obtain⟨g1,g2,g3,g4⟩:=HR2.o;exact⟨a,c,rfl,g1,g2.mono fun b hb=>⟨aax HK.o.size hb.1,hb.2⟩,g3,HK.o.trans g4 fun b _ hb=>hb⟩
theorem Pt(h:bO D w x s):Calls Tryz.prog 57 #[ptr x] w fun e w'=>e= .returned (.int .i64 (fq s:Int))∧w=w':=by
 obtain⟨l,y⟩:=s;obtain⟨a,c,h1,h2,h3⟩:=h.head;have c0:w.cell? ⟨x,0,none⟩=some (.slice a l.length c):=by simp[World.cell?,h1]
 have c1:w.cell? ⟨x,1,none⟩=some (.int .i64 y):=by simp[World.cell?,h1]
 by_cases hy:y=0
 ·subst hy;have e1:fq (l,0)=l.length:=by unfold fq;rw[if_neg (by simp)]
  rw[e1];clear h h1 h2 h3 e1;go_enter Tryz.func57,Tryz.ntmps57;go_wp2;go_ret;exact⟨rfl,rfl⟩
 ·have e1:fq (l,y)=0:=by unfold fq;rw[if_pos hy]
  rw[e1];have d1:(y !=0)=true:=by simpa using hy
  clear h h1 h2 h3 e1 hy;go_enter Tryz.func57,Tryz.ntmps57;go_wp2;go_ret;exact⟨rfl,rfl⟩
theorem IC(h:bO D w x s):Calls Tryz.prog 130 #[ptr x] w fun e w'=>e= .returned (.int .i64 (pG s))∧w=w':=by
 obtain⟨l,y⟩:=s;obtain⟨a,c,h1,h2,h3⟩:=h.head;have c0:w.cell? ⟨x,0,none⟩=some (.slice a l.length c):=by simp[World.cell?,h1]
 have c1:w.cell? ⟨x,1,none⟩=some (.int .i64 y):=by simp[World.cell?,h1]
 by_cases hy:y=0
 ·subst hy;by_cases hl:0<l.length
  ·have e1:pG (l,0)=11:=by unfold pG;rw[if_pos ⟨rfl,hl⟩]
   rw[e1];have d1:decide ((0:Int)<(l.length:Int))=true:=by simp;omega
   clear h h1 h2 h3 e1;go_enter Tryz.func130,Tryz.ntmps130;go_wp2;go_ret;exact⟨rfl,rfl⟩
  ·obtain rfl:l=[]:=aad (by omega);have e1:pG ([],0)=0:=rfl;rw[e1];clear h h1 h2 h3 e1;go_enter Tryz.func130,Tryz.ntmps130;go_wp2;go_ret;exact⟨rfl,rfl⟩
 ·have e1:pG (l,y)=y:=by unfold pG;rw[if_neg (fun hh=>hy hh.1)]
  rw[e1];have d1:(y==0)=false:=by simpa using hy
  clear h h1 h2 h3 e1 hy;go_enter Tryz.func130,Tryz.ntmps130;go_wp2;go_ret;exact⟨rfl,rfl⟩
theorem Y3(h:bO D w x s):Calls Tryz.prog 207 #[ptr x] w (BG D w x (.bool (uK s).1) (uK s).2):=by
 have HB:=acr (IB h);obtain⟨n0,n1⟩:=eD s 1;unfold uK;generalize (bq s 1).1=v at*;generalize (bq s 1).2=s1 at*;clear h n1;by_cases h1:1<v
 ·rw[if_pos h1];have e1:decide (v=1)=false:=by simp;omega
  have e2:(v==1)=false:=by simp;omega
  rw[e1];clear e1;go_enter Tryz.func207,Tryz.ntmps207;go_wp2_with fail;refine HB.o.mono ?_;rintro e w1 ⟨rfl,nu,hK1⟩;obtain⟨l,y⟩:=s1;obtain⟨a,c,q1,q2,q3⟩:=nu.head;have f1:w1.frozen? ⟨x,1,none⟩=false:=by simp[World.frozen?,q1]
  have c1:w1.cell? ⟨x,1,none⟩=some (.int .i64 y):=by simp[World.cell?,q1]
  have HE:acs (bO D (w1.setCell ⟨x,1,none⟩ (.int .i64 12)) x (l,12)):=by
   refine⟨⟨a,c,?_,q2,?_⟩,nu.apart,nu.small,by simp,fun b hb=>by rw[size_set];exact nu.low b hb⟩
   ·rw[aO q1];rfl
   ·exact q3.kept (by rw[size_set];exact Nat.le_refl _) fun b hb _=>bA w1 _ _ _ (fun(e:b=x)=>nu.apart (e▸hb))
  have HK:=acr hK1;clear nu hK1 q1 q2 q3 HB;go_wp2_with fail;go_ret;exact⟨rfl,HE.o,HK.o.trans (Keeps.gI w1 ⟨x,1,none⟩ _) fun b _ hb=>hb⟩
 ·rw[if_neg h1];have e0:decide (v=1)=(v==1):=by by_cases hv:v=1<;>simp[hv]
  rw[e0];clear e0;go_enter Tryz.func207,Tryz.ntmps207;go_wp2_with fail;refine HB.o.mono ?_;rintro e w1 ⟨rfl,nu,hK1⟩;have HE:acs (bO D w1 x s1∧Keeps (fun b=>b=x) w w1):=⟨nu,hK1⟩;clear nu hK1 HB;go_wp2_with fail;go_ret;exact⟨rfl,HE.o⟩
end
def ndC(n:Pb):Array Value:= #[.int .i64 n.id,.int .i64 n.kind,.int .i64 n.links,.int .i64 n.size,.int .u64 n.aF,.bool n.closed]
theorem NI(n:Pb)(h:R8 n)(w:World):Calls Tryz.prog 167 #[.agg (ndC n)] w fun e w'=>e= .returned (.bool (decide (kg n)))∧Below w.heap.size w w':=by
 obtain⟨id,kind,links,size,aF,closed⟩:=n;obtain⟨⟨i0,i1⟩,⟨k0,k1⟩,⟨l0,l1⟩,⟨s0,s1⟩,⟨t0,t1⟩⟩:=h;dsimp only at i0 i1 k0 k1 l0 l1 s0 s1 t0 t1;have d1:decide (id<0)=false:=by simpa using i0
 have d2:decide (65535<id)=false:=by simpa using i1
 have d3:decide (links<0)=false:=by simpa using l0
 have d4:decide (65535<links)=false:=by simpa using l1
 have d7:decide ((0:Int)≤size)=true:=by simpa using s0
 have n1:¬id<0:=by omega
 have n2:¬65535<id:=by omega
 have n3:¬links<0:=by omega
 have n4:¬65535<links:=by omega
 unfold ndC;dsimp only;by_cases h1:kind=1
 ·subst h1;by_cases q1:size≤4096
  ·have c1:decide (size≤4096)=true:=decide_eq_true q1;by_cases q2:aF≤1099511627776
   ·have c2:decide (aF≤1099511627776)=true:=decide_eq_true q2;rw[decide_eq_true (show kg ⟨id,1,links,size,aF,closed⟩from .inl ⟨rfl,q1,q2⟩)];go_enter abA,abp;go_wp2
    all_goals (first|(go_ret;exact⟨rfl,wall w _⟩)|((try simp only[Exit.inBlock,Exit.then]);refine aaB (by rfl) rfl ?_;exact⟨rfl,wall w _⟩))
   ·have c2:decide (aF≤1099511627776)=false:=aay q2;rw[aay (show ¬kg ⟨id,1,links,size,aF,closed⟩from fun h=>by
     rcases h with h|h
     ·exact q2 h.2.2
     ·exact absurd (show(1:Int)=2 from h.1) (by decide))]
    go_enter abA,abp;go_wp2
    all_goals (first|(go_ret;exact⟨rfl,wall w _⟩)|((try simp only[Exit.inBlock,Exit.then]);refine aaB (by rfl) rfl ?_;exact⟨rfl,wall w _⟩))
  ·have c1:decide (size≤4096)=false:=aay q1;rw[aay (show ¬kg ⟨id,1,links,size,aF,closed⟩from fun h=>by
    rcases h with h|h
    ·exact q1 h.2.1
    ·exact absurd (show(1:Int)=2 from h.1) (by decide))]
   go_enter abA,abp;go_wp2
   all_goals (first|(go_ret;exact⟨rfl,wall w _⟩)|((try simp only[Exit.inBlock,Exit.then]);refine aaB (by rfl) rfl ?_;exact⟨rfl,wall w _⟩))
 ·have g1:(kind==1)=false:=by simpa using h1
  by_cases h2:kind=2
  ·subst h2;by_cases q1:size=0
   ·subst q1;by_cases q2:aF=0
    ·subst q2;cases closed
     ·rw[aay (show ¬kg ⟨id,2,links,0,0,false⟩from fun h=>by
       rcases h with h|h
       ·exact absurd (show(2:Int)=1 from h.1) (by decide)
       ·exact absurd (show false=true from h.2.2.2) (by decide))]
      go_enter abA,abp;go_wp2
      all_goals (first|(go_ret;exact⟨rfl,wall w _⟩)|((try simp only[Exit.inBlock,Exit.then]);refine aaB (by rfl) rfl ?_;exact⟨rfl,wall w _⟩))
     ·rw[decide_eq_true (show kg ⟨id,2,links,0,0,true⟩from .inr ⟨rfl,rfl,rfl,rfl⟩)];go_enter abA,abp;go_wp2
      all_goals (first|(go_ret;exact⟨rfl,wall w _⟩)|((try simp only[Exit.inBlock,Exit.then]);refine aaB (by rfl) rfl ?_;exact⟨rfl,wall w _⟩))
    ·have g2:(aF==0)=false:=by simpa using q2
     rw[aay (show ¬kg ⟨id,2,links,0,aF,closed⟩from fun h=>by
      rcases h with h|h
      ·exact absurd (show(2:Int)=1 from h.1) (by decide)
      ·exact q2 h.2.2.1)]
     go_enter abA,abp;go_wp2
     all_goals (first|(go_ret;exact⟨rfl,wall w _⟩)|((try simp only[Exit.inBlock,Exit.then]);refine aaB (by rfl) rfl ?_;exact⟨rfl,wall w _⟩))
   ·have g2:(size==0)=false:=by simpa using q1
    rw[aay (show ¬kg ⟨id,2,links,size,aF,closed⟩from fun h=>by
     rcases h with h|h
     ·exact absurd (show(2:Int)=1 from h.1) (by decide)
     ·exact q1 h.2.1)]
    go_enter abA,abp;go_wp2
    all_goals (first|(go_ret;exact⟨rfl,wall w _⟩)|((try simp only[Exit.inBlock,Exit.then]);refine aaB (by rfl) rfl ?_;exact⟨rfl,wall w _⟩))
  ·have g2:(kind==2)=false:=by simpa using h2
   rw[aay (show ¬kg ⟨id,kind,links,size,aF,closed⟩from fun h=>by
    rcases h with h|h
    ·exact h1 h.1
    ·exact h2 h.1)]
   go_enter abA,abp;go_wp2
   all_goals (first|(go_ret;exact⟨rfl,wall w _⟩)|((try simp only[Exit.inBlock,Exit.then]);refine aaB (by rfl) rfl ?_;exact⟨rfl,wall w _⟩))
theorem vX{w w':World}{x B:Nat}(hK:Keeps (fun b=>b=x) w w')(hx:B≤x)(hB:B≤w.heap.size):Below B w w':=hK.gP hB fun b hb e=>by
 have e':b=x:=e;omega
theorem NJ{S:Nat→Prop}(a:Option Addr)(n c:Nat)(bs:List UInt8)(w:World)(hm:n≤100000000)(hr:ah S w a n (bs.map bv)):
  Calls Tryz.prog 179 #[.slice a n c] w fun e w'=>e= .returned (.tuple #[.agg (ndC (dx bs).1),.int .i64 (dx bs).2])∧Below w.heap.size w w':=by
 obtain⟨w1,hw1⟩:∃w1,w1=w.alloc (.cells kF 39):=⟨_,rfl⟩;have hb1:Below w.heap.size w w1:=by rw[hw1];exact wall w _
 have hre:w1.heap[w.heap.size]? =some (.cells kF 39 (0,0)):=by rw[hw1];exact(MapKept.heap_alloc w _).1
 have hs1:w1.heap.size=w.heap.size+1:=by rw[hw1];simp
 have HN:=acr (rQ a n c bs w1 hm (hr.below hb1 acu));have HW1:=acr hw1;have HB1:=acr hb1;have uG:=acr hre;have Pv:acs (kU bs=kU bs):=acr rfl;have jO:=acr (uo bs);clear hr hb1 hre hw1 hs1
 conv at Pv=>arg 1;rhs;unfold kU;dsimp only
 unfold kU at jO;dsimp only at jO;go_enter Tryz.func179,Tryz.ntmps179;go_wp2_with fail;rw[show w.alloc (.cells #[.int .i64 0,.int .i64 0,.int .i64 0,.int .i64 0,.int .u64 0,.bool false] 39)=w1 from HW1.o.symm];refine HN.o.mono ?_;rintro e w2 ⟨x,rfl,hx,hR2,hb2⟩;have HX:=acr hx;have HR2:=acr hR2;have HB2:=acr hb2;clear hx hR2 hb2 HN;obtain⟨D,hD⟩:∃D:Nat→Prop,D=fun b=>w1.heap.size≤b∧b<x:=⟨_,rfl⟩;rw[←hD]at HR2;clear hD;have Gh:=acr (qK HR2.o);obtain⟨v0,hv0⟩:∃v,v=(bq (bs,0) 2).1:=⟨_,rfl⟩;obtain⟨s0,hs0⟩:∃s,s=(bq (bs,0) 2).2:=⟨_,rfl⟩;rw[←hv0,←hs0]at Gh;rw[←hv0,←hs0]at Pv;rw[←hv0]at jO
 (try rw[←hs0]at jO)
 clear hv0 hs0;go_wp2_with fail;refine Gh.o.mono ?_;rintro e w3 ⟨rfl,hR,hK⟩;have HR3:=acr hR;have HB3:=acr (HB2.o.trans (vX hK HX.o HB2.o.size));clear hR hK Gh;have Po:=acr (IB HR3.o);obtain⟨v1,hv1⟩:∃v,v=(bq s0 1).1:=⟨_,rfl⟩;obtain⟨s1,hs1⟩:∃s,s=(bq s0 1).2:=⟨_,rfl⟩;rw[←hv1,←hs1]at Po;rw[←hv1,←hs1]at Pv;rw[←hv1]at jO
 (try rw[←hs1]at jO)
 clear hv1 hs1;go_wp2_with fail;refine Po.o.mono ?_;rintro e w4 ⟨rfl,hR,hK⟩;have HR4:=acr hR;have eT:=acr (HB3.o.trans (vX hK HX.o HB3.o.size));clear hR hK Po;have xL:=acr (qK HR4.o);obtain⟨v2,hv2⟩:∃v,v=(bq s1 2).1:=⟨_,rfl⟩;obtain⟨s2,hs2⟩:∃s,s=(bq s1 2).2:=⟨_,rfl⟩;rw[←hv2,←hs2]at xL;rw[←hv2,←hs2]at Pv;rw[←hv2]at jO
 (try rw[←hs2]at jO)
 clear hv2 hs2;go_wp2_with fail;refine xL.o.mono ?_;rintro e w5 ⟨rfl,hR,hK⟩;have oM:=acr hR;have iB:=acr (eT.o.trans (vX hK HX.o eT.o.size));clear hR hK xL;have SS:=acr (qK oM.o);obtain⟨v3,hv3⟩:∃v,v=(bq s2 2).1:=⟨_,rfl⟩;obtain⟨s3,hs3⟩:∃s,s=(bq s2 2).2:=⟨_,rfl⟩;rw[←hv3,←hs3]at SS;rw[←hv3,←hs3]at Pv;rw[←hv3]at jO
 (try rw[←hs3]at jO)
 clear hv3 hs3;go_wp2_with fail;refine SS.o.mono ?_;rintro e w6 ⟨rfl,hR,hK⟩;have HR6:=acr hR;have sV:=acr (iB.o.trans (vX hK HX.o iB.o.size));clear hR hK SS;have Y4:=acr (Pq HR6.o);obtain⟨v4,hv4⟩:∃v,v=(bq s3 8).1:=⟨_,rfl⟩;obtain⟨s4,hs4⟩:∃s,s=(bq s3 8).2:=⟨_,rfl⟩;rw[←hv4,←hs4]at Y4;rw[←hv4,←hs4]at Pv;rw[←hv4]at jO
 (try rw[←hs4]at jO)
 clear hv4 hs4;go_wp2_with fail;refine Y4.o.mono ?_;rintro e w7 ⟨rfl,hR,hK⟩;have ER:=acr hR;have Cn:=acr (sV.o.trans (vX hK HX.o sV.o.size));clear hR hK Y4;have YG:=acr (Y3 ER.o);obtain⟨v5,hv5⟩:∃v,v=(uK s4).1:=⟨_,rfl⟩;obtain⟨s5,hs5⟩:∃s,s=(uK s4).2:=⟨_,rfl⟩;rw[←hv5,←hs5]at YG;rw[←hv5,←hs5]at Pv;rw[←hv5]at jO
 (try rw[←hs5]at jO)
 clear hv5 hs5;go_wp2_with fail;refine YG.o.mono ?_;rintro e w8 ⟨rfl,hR,hK⟩;have D9:=acr hR;have uR:=acr (Cn.o.trans (vX hK HX.o Cn.o.size));clear hR hK YG;obtain⟨N,hN⟩:∃N:Pb,N=⟨v0,v1,v2,v3,v4,v5⟩:=⟨_,rfl⟩;rw[←hN]at Pv jO;have pq:=acr hN;clear hN;have hsz:=uR.o.size;obtain⟨w9,hw9⟩:∃w9,w9=w8.alloc (.cells (ndC N) 39):=⟨_,rfl⟩;have eH:Below w8.heap.size w8 w9:=by rw[hw9];exact wall w8 _
 have hnd:w9.heap[w8.heap.size]? =some (.cells (ndC N) 39 (0,0)):=by rw[hw9];exact(MapKept.heap_alloc w8 _).1
 have HW9:acs (w9=w8.alloc (.cells #[.int .i64 v0,.int .i64 v1,.int .i64 v2,.int .i64 v3,.int .u64 v4,.bool v5] 39)):=by rw[hw9,pq.o];exact acr rfl
 have Dk:=acr (uR.o.trans (eH.mono uR.o.size));have Y5:=acr ((Dk.o.block _ (iL.1 uG.o).1).trans uG.o);have HE:=acr (IC (D9.o.below eH acu));have wu:=acr hnd;obtain⟨z,hz⟩:∃z,z=pG s5:=⟨_,rfl⟩;rw[←hz]at HE;have HZ:=acr hz;clear hw9 eH hnd hz;have qn:∀j,w9.cell? ⟨w8.heap.size,j,none⟩=(ndC N)[j]? :=fun j=>dD wu.o j;have q0:w9.cell? ⟨w8.heap.size,0,none⟩=some (.int .i64 v0):=by rw[qn,pq.o];rfl
 have q1:w9.cell? ⟨w8.heap.size,1,none⟩=some (.int .i64 v1):=by rw[qn,pq.o];rfl
 have q2:w9.cell? ⟨w8.heap.size,2,none⟩=some (.int .i64 v2):=by rw[qn,pq.o];rfl
 have q3:w9.cell? ⟨w8.heap.size,3,none⟩=some (.int .i64 v3):=by rw[qn,pq.o];rfl
 have q4:w9.cell? ⟨w8.heap.size,4,none⟩=some (.int .u64 v4):=by rw[qn,pq.o];rfl
 have q5:w9.cell? ⟨w8.heap.size,5,none⟩=some (.bool v5):=by rw[qn,pq.o];rfl
 clear qn;have Im:acs (∀w',Calls Tryz.prog 167 #[.agg #[.int .i64 v0,.int .i64 v1,.int .i64 v2,.int .i64 v3,.int .u64 v4,.bool v5]] w' fun e w''=>e= .returned (.bool (decide (kg N)))∧Below w'.heap.size w' w''):=fun w'=>by
  have:=NI N jO.o w';rw[pq.o]at this;rw[pq.o];exact this
 have mQ:=(iL.1 wu.o).1;have Z7:=(iL.1 Y5.o).1;go_wp2_with fail;rw[←HW9.o];by_cases hz:z=0
 ·subst hz;by_cases hr:kg N
  ·have HD:acs (dx bs=(N,0)):=by
    show _=_;unfold dx;rw[Pv.o,if_pos ⟨HZ.o.symm,hr⟩]
   rw[decide_eq_true hr]at Im;clear hr Pv;refine HE.o.mono ?_;rintro e _ ⟨rfl,rfl⟩;go_wp2_with fail;refine(Im.o _).mono ?_;rintro e Oq ⟨rfl,vV⟩;have Wm:=acr ((vV.block _ Z7).trans Y5.o);have Mf:=acr (HB1.o.trans ((Dk.o.trans (vV.mono Dk.o.size)).mono HB1.o.size));have r0:Oq.cell? ⟨w8.heap.size,0,none⟩=some (.int .i64 v0):=(vV.cell (p:=⟨w8.heap.size,0,none⟩) mQ).trans q0;have r1:Oq.cell? ⟨w8.heap.size,1,none⟩=some (.int .i64 v1):=(vV.cell (p:=⟨w8.heap.size,1,none⟩) mQ).trans q1;have r2:Oq.cell? ⟨w8.heap.size,2,none⟩=some (.int .i64 v2):=(vV.cell (p:=⟨w8.heap.size,2,none⟩) mQ).trans q2;have r3:Oq.cell? ⟨w8.heap.size,3,none⟩=some (.int .i64 v3):=(vV.cell (p:=⟨w8.heap.size,3,none⟩) mQ).trans q3;have r4:Oq.cell? ⟨w8.heap.size,4,none⟩=some (.int .u64 v4):=(vV.cell (p:=⟨w8.heap.size,4,none⟩) mQ).trans q4;have r5:Oq.cell? ⟨w8.heap.size,5,none⟩=some (.bool v5):=(vV.cell (p:=⟨w8.heap.size,5,none⟩) mQ).trans q5;clear vV Im HE q0 q1 q2 q3 q4 q5;go_wp2_with (refine aJ (by rfl) 39 _ _ (by rfl) w.heap.size #[.int .i64 v0,.int .i64 v1,.int .i64 v2,.int .i64 v3,.int .u64 v4,.bool v5] (by rfl) (by rfl) _ Wm.o qp rfl (by simp[Value.oneCell']) ?_;intro w11 sK;have zD:=acr sK;clear sK);refine r_ rfl rfl rfl rfl zD.o.1 rfl ?_;rw[HD.o,pq.o];exact⟨rfl,zD.o.below Mf.o acu⟩
  ·have HD:acs (dx bs=(V7,12)):=by
    show _=_;unfold dx;rw[Pv.o,if_neg fun h=>hr h.2]
   rw[aay hr]at Im;clear hr Pv;refine HE.o.mono ?_;rintro e _ ⟨rfl,rfl⟩;go_wp2_with fail;refine(Im.o _).mono ?_;rintro e Oq ⟨rfl,vV⟩;have Wm:=acr ((vV.block _ Z7).trans Y5.o);have Mf:=acr (HB1.o.trans ((Dk.o.trans (vV.mono Dk.o.size)).mono HB1.o.size));clear vV Im HE q0 q1 q2 q3 q4 q5;go_wp2_with (refine aJ (by rfl) 39 _ _ (by rfl) w.heap.size kF (by rfl) (by rfl) _ Wm.o qp rfl (by simp[kF,Value.oneCell']) ?_;intro w11 sK;have zD:=acr sK;clear sK)
   (try simp only[Exit.inBlock,Exit.then])
   refine r_ rfl rfl rfl rfl zD.o.1 rfl ?_;rw[HD.o];exact⟨rfl,zD.o.below Mf.o acu⟩
 ·have hz2:(z !=0)=true:=by simpa using hz
  have HD:acs (dx bs=(V7,12)):=by
   show _=_;unfold dx;rw[Pv.o,if_neg fun h=>hz (HZ.o.trans h.1)]
  have Mf:=acr (HB1.o.trans (Dk.o.mono HB1.o.size));clear hz Pv Im q0 q1 q2 q3 q4 q5;refine HE.o.mono ?_;rintro e _ ⟨rfl,rfl⟩;go_wp2_with (refine aJ (by rfl) 39 _ _ (by rfl) w.heap.size kF (by rfl) (by rfl) _ Y5.o qp rfl (by simp[kF,Value.oneCell']) ?_;intro w11 sK;have zD:=acr sK;clear sK)
  (try simp only[Exit.inBlock,Exit.then])
  refine r_ rfl rfl rfl rfl zD.o.1 rfl ?_;rw[HD.o];exact⟨rfl,zD.o.below Mf.o acu⟩
theorem aP.add2{g:Nat→Own}{D D2:Nat→Prop}{w w':World}{p mb:Nat}{ib nb:Int→Nat}{T:aA}(h:aP g D w p mb ib nb T){k:Int}{x:bJ}{i n:Nat}(hi0:g i= .none∧¬D i)(hn0:x.kind=2→g n= .none∧¬D n)(hin:x.kind=2→i≠n)(hiw:i<w'.heap.size)(hnw:x.kind=2→n<w'.heap.size)(hx0:aj k T=none)
  (hm:MapAt bK w' mb (b_ iA k (ptr i) (T.map fun q=>(q.1,ptr (ib q.1)))))(hsz:w.heap.size≤w'.heap.size)(hb:∀b,b<w.heap.size→g b≠ .none∨D b→b≠mb→w'.heap[b]? =w.heap[b]?)(hi:jD D2 w' k i n x)(hD2:∀b,D2 b→g b= .none∧b<w'.heap.size∧b≠i∧(x.kind=2→b≠n)):
  aP (fun b=>if b=i then .item k else if b=n∧x.kind=2 then .names k else g b) (fun b=>D b∨D2 b) w' p mb (fun j=>if j=k then i else ib j) (fun j=>if j=k then n else nb j) (b_ iA k x T):=by
 have hgg:∀b,g b≠ .none→(if b=i then Own.item k else if b=n∧x.kind=2 then .names k else g b)=g b:=fun b hb=>by
  rw[if_neg (fun e:b=i=>hb (by rw[e];exact hi0.1)),if_neg (fun h2:b=n∧x.kind=2=>hb (by rw[h2.1];exact(hn0 h2.2).1))]
 have hp:g p≠ .none:=by rw[h.qO];simp
 have hmm:g mb≠ .none:=by rw[h.jQ];simp
 have hbg:∀b,g b≠ .none→b≠mb→w'.heap[b]? =w.heap[b]? :=fun b hg hne=>hb b (h.low b hg) (.inl hg) hne;refine⟨(hbg p hp (fun e=>by have:=h.qO;rw[e,h.jQ]at this;cases this)).trans h.head,?_,?_,(hgg p hp).trans h.qO,(hgg mb hmm).trans h.jQ,?_,?_,?_,?_,fun b hb=> ?_⟩
 ·have e1:(b_ iA k x T).map (fun q=>(q.1,ptr ((fun j=>if j=k then i else ib j) q.1)))=b_ iA k (ptr i) (T.map fun q=>(q.1,ptr (ib q.1))):=by
   rw[wh iA (fun j _=>ptr ((fun j=>if j=k then i else ib j) j))];simp only[if_pos];congr 1;apply aaz;intro q hq;have:q.1≠k:=iP.1 hx0 q hq;rw[if_neg this]
  rw[e1];exact hm
 ·intro j y hy;rw[eO]at hy;by_cases hj:j=k
  ·subst hj;rw[if_pos rfl]at hy;cases hy;simp only[if_pos];exact hi.move acu rfl (fun _=>rfl) (fun b hb _=>⟨.inr hb,rfl⟩)
  ·rw[if_neg hj]at hy;simp only[if_neg hj];have t1:=h.qg j y hy;refine(h.item j y hy).move hsz (hbg _ (by rw[t1];simp) (fun e=>by rw[e,h.jQ]at t1;cases t1)) (fun hk=>hbg _ (by rw[h.nG j y hy hk];simp) (fun e=>by have t2:=h.nG j y hy hk;rw[e,h.jQ]at t2;cases t2)) ?_;intro b vk hbw;exact⟨.inl vk,hb b hbw (.inr vk) (fun e=>by have:=h.data b vk;rw[e,h.jQ]at this;cases this)⟩
 ·intro j y hy;rw[eO]at hy;by_cases hj:j=k
  ·subst hj;simp
  ·rw[if_neg hj]at hy;have t1:=h.qg j y hy;simp only[if_neg hj];rw[hgg _ (by rw[t1];simp)];exact t1
 ·intro j y hy hk;rw[eO]at hy;by_cases hj:j=k
  ·subst hj;rw[if_pos rfl]at hy;cases hy;simp only[if_pos];rw[if_neg (aaT (hin hk)),if_pos ⟨trivial,hk⟩]
  ·rw[if_neg hj]at hy;have t1:=h.nG j y hy hk;simp only[if_neg hj];rw[hgg _ (by rw[t1];simp)];exact t1
 ·intro b vk;rcases vk with vk|vk
  ·rw[if_neg (fun e:b=i=>hi0.2 (by rw[←e];exact vk)),if_neg (fun h2:b=n∧x.kind=2=>(hn0 h2.2).2 (by rw[←h2.1];exact vk))];exact h.data b vk
  ·obtain⟨d1,d2,d3,d4⟩:=hD2 b vk;rw[if_neg d3,if_neg (fun h2=>d4 h2.2 h2.1)];exact d1
 ·intro b hbn;by_cases h1:b=i
  ·omega
  ·by_cases h2:b=n∧x.kind=2
   ·have:=hnw h2.2;omega
   ·simp only[if_neg h1,if_neg h2]at hbn;exact Nat.lt_of_lt_of_le (h.low b hbn) hsz
 ·rcases hb with vk|vk
  ·exact Nat.lt_of_lt_of_le (h.o_ b vk) hsz
  ·exact(hD2 b vk).2.1
theorem GK{κ α:Type}(lt:κ→κ→Bool)(x:κ×α):∀{l:List (κ×α)},(∀q∈l,lt x.1 q.1=false)→jg lt x l=l++[x]
 |[],_=>rfl
 |y::r,h=>by
  unfold jg;rw[if_neg (by rw[h y (by simp)];decide),GK lt x fun q hq=>h q (by simp[hq])];rfl
theorem GL{κ α:Type}[DecidableEq κ](lt:κ→κ→Bool){k:κ}(v:α){l:List (κ×α)}(h:∀q∈l,q.1≠k∧lt k q.1=false):b_ lt k v l=l++[(k,v)]:=by
 unfold b_;rw[kL (iP.2 fun q hq=>(h q hq).1)];exact GK lt (k,v) fun q hq=>(h q hq).2
def uw(w:World)(p:Nat)(T:aA)(w':World):Prop:=
 ∃g D mb ib nb,aP g D w' p mb ib nb T∧(∀b,g b≠ .none→w.heap.size≤b)∧(∀b,D b→w.heap.size≤b)∧Below w.heap.size w w'
end Go.Proofs.YtjnhnlabpccgjaaGreatDoor
