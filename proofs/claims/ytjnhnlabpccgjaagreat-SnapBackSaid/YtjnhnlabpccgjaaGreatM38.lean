/- package codec: the reader. node.Right of what was read; node.Decode. A node that is loaded is laid into a tree. -/
import Derived.Test.YtjnhnlabpccgjaaGreatM36
import Derived.Test.YtjnhnlabpccgjaaGreatM11
import Derived.WalkLawsBesides
import Derived.Test.YtjnhnlabpccgjaaGreatM31
import Derived.Test.YtjnhnlabpccgjaaGreatM37
namespace Go.Proofs.YtjnhnlabpccgjaaGreat
open Go.ChangeShapes Go.WideShapes Go.ChangeAt Go.RowKit
set_option linter.unusedVariables false
set_option linter.unusedSimpArgs false
structure bA (D:Nat→Prop) (w:World) (x:Nat) (s:Rd):Prop where
 head:∃a c,w.heap[x]? =some (.cells #[.slice a s.1.length c, .int .i64 s.2] 157 (0,0))∧kV s.1.length c∧ah D w a s.1.length (s.1.map bv)
 apart:¬D x
 small:s.1.length≤100000000
 why:0≤s.2∧s.2≤100
 low:∀b,D b→b<w.heap.size
def JO (D:Nat→Prop) (w:World) (x:Nat) (bs:List UInt8) (s':Rd) (e:Ending) (w':World):Prop:=
 ∃a c,e= .returned (.slice a bs.length c)∧kV bs.length c∧ah (fun b=>w.heap.size≤b∧b<w'.heap.size) w' a bs.length (bs.map bv)∧bA D w' x s'∧Keeps (fun b=>b=x) w w'
def xA (D:Nat→Prop) (w:World) (x:Nat) (v:Value) (s':Rd) (e:Ending) (w':World):Prop:=
 e= .returned v∧bA D w' x s'∧Keeps (fun b=>b=x) w w'
section
variable {D:Nat→Prop} {x:Nat} {w w1 w2:World} {s s1 s2:Rd}
theorem bA.lt (h:bA D w x s):x<w.heap.size:=by
 obtain⟨a,c,h1,_⟩:=h.head
 exact(Array.getElem?_eq_some_iff.1 h1).1
theorem bA.kept (h:bA D w x s) (hs:w.heap.size≤w1.heap.size) (hx:w1.heap[x]? =w.heap[x]?) (hD:∀b,D b→b<w.heap.size→w1.heap[b]? =w.heap[b]?):bA D w1 x s:=by
 obtain⟨⟨a,c,h1,h2,h3⟩,h4,h5,h6,h7⟩:=h
 exact⟨⟨a,c,hx.trans h1,h2,h3.kept hs hD⟩,h4,h5,h6,fun b hb=>Nat.lt_of_lt_of_le (h7 b hb) hs⟩
theorem bA.below {B:Nat} (h:bA D w x s) (hb:Below B w w1) (hB:w.heap.size≤B):bA D w1 x s:=
 h.kept hb.size (hb.block x (by have:=h.lt;omega)) fun b _ hb'=>hb.block b (by omega)
end
theorem Tc {w:World} {base:Nat} {e:TypeId} {a:Option Addr} {m c n:Nat} {xs:List Value} (h:w.ownsRow base e 1 (.slice a m c) n xs):kV n c:=by
 obtain⟨h0,h⟩:=h
 rcases h with⟨h1,rfl⟩|⟨g,cap,cur,h1,_,_,h3,h4,_⟩
 ·simp only[Value.slice.injEq]at h1
  obtain⟨_,_,rfl⟩:=h1
  exact⟨Nat.zero_le _,Nat.zero_le _⟩
 ·simp only[Value.slice.injEq]at h1
  obtain⟨_,_,rfl⟩:=h1
  exact⟨h3,h4⟩
def JQ (w:World) (bs:List UInt8) (e:Ending) (w':World):Prop:=
 ∃a c,e= .returned (.slice a bs.length c)∧kV bs.length c∧ah (fun x=>w.heap.size≤x∧x<w'.heap.size) w' a bs.length (bs.map bv)∧Below w.heap.size w w'
set_option maxHeartbeats 1000000 in
theorem Au {S:Nat→Prop} (a:Option Addr) (n cap:Nat) (bs:List UInt8) (w:World) (hm:n≤1000000000) (hr:ah S w a n (bs.map bv)):
  Calls Tryz.prog 96 #[.slice a n cap] w (JQ w bs):=by
 obtain⟨i0,hi,hz0,hz1,hz2⟩:=info_parts Tryz.Br
 have hll:bs.length=n:=by have:=hr.length;simpa using this
 have heq:=fun w=>Lib.run_eql_slice_nil (P:=Tryz.prog) w 23 5 a n cap 0 0 Tryz.underlying23
 have HR:=Lib.hid hr
 have HL:=Lib.hid hll
 clear hr hll
 cases a with
 |none=>
  have h0:n=0:=by
   rcases Nat.eq_zero_or_pos n with h0|h0
   ·exact h0
   ·obtain⟨_,_,e,_⟩:=HR.out.at_ h0
    cases e
  subst h0
  have hb0:bs=[]:=List.eq_nil_of_length_eq_zero HL.out
  subst hb0
  go_enter Tryz.func96,Tryz.ntmps96
  go_wp2
  go_ret
  exact⟨none,0,rfl,⟨Nat.le_refl _,Nat.zero_le _⟩,ah.nil _ _ _,Below.refl _ _⟩
 |some ad=>
  have hsz:(w.alloc (.cells #[] 5)).heap.size=w.heap.size+1:=by simp
  have HS:=Lib.hid (HR.out.below (wall w (.cells #[] 5)) (Nat.le_refl _))
  go_enter Tryz.func96,Tryz.ntmps96
  go_wp2_with ((at_builtin;refine aO (by rfl) _ _ 23 (by rfl) w.heap.size 5 i0 (.int .u8 0) 1 Tryz.underlying23 hi hz0 hz1 hz2 rfl _ 0 [] (by rfl) ⟨rfl, .inr ⟨w.heap.size,0,#[],rfl,Nat.le_refl _,(MapKept.heap_alloc w _).1,Nat.le_refl _,Nat.zero_le _,rfl,rfl⟩⟩ (some ad) n cap (bs.map bv) (by rfl) HS.out (dH bs) (by unfold maxLen;omega) (by omega) (by simp) ?_;intro A' c' w2 hown2 hgrow2 _ _))
  go_ret
  have hB2:Below w.heap.size w w2:=(wall w _).grown hgrow2 (by simp) (fun k hk=>by cases hk;exact Nat.le_refl _)
  have hcap:=Tc hown2
  have hro:=(ah.lg hown2).2
  rw[List.nil_append]at hro
  simp only[Nat.zero_add]at hro hcap
  have hl:=HL.out
  subst hl
  exact⟨_,c',by simp only[Nat.zero_add];rfl,hcap,hro,hB2⟩
section
variable {D:Nat→Prop} {x:Nat} {w:World} {s:Rd}
theorem oI {S:Nat→Prop} (a:Option Addr) (n c:Nat) (bs:List UInt8) (w:World) (hm:n≤100000000) (hr:ah S w a n (bs.map bv)):
  Calls Tryz.prog 45 #[.slice a n c] w fun e w'=>∃x,e= .returned (ptr x)∧w.heap.size≤x∧bA (fun b=>w.heap.size≤b∧b<x) w' x (bs,0)∧Below w.heap.size w w':=by
 have hl:bs.length=n:=by simpa using hr.length
 have HC:=Lib.hid (Au a n c bs w (by omega) hr)
 have hl2:bs.length≤100000000:=by omega
 clear hr hl
 go_enter Tryz.func45,Tryz.ntmps45
 go_wp2_with fail
 (with_reducible refine HC.out.mono ?_)
 rintro e w1 ⟨a1,c1,rfl,hc1,hr1,hb1⟩
 have HR1:=Lib.hid hr1
 have HB1:=Lib.hid hb1
 have Jr:=Lib.hid hc1
 clear hr1 hb1 hc1 HC
 go_wp2_with fail
 go_ret
 refine⟨_,rfl,HB1.out.size,⟨⟨a1,c1,(MapKept.heap_alloc w1 _).1,Jr.out,?_⟩,fun h=>by omega,hl2,by simp,fun b hb=>by rw[World.size_alloc];omega⟩,HB1.out.trans ((wall w1 _).mono HB1.out.size)⟩
 exact HR1.out.move (wall w1 _).size fun b hb hbw=>⟨hb,(wall w1 _).block b hbw⟩
theorem row0 {D:Nat→Prop} {w w':World} {x:Nat} {s':Rd} (h:bA D w' x s') (hk:Keeps (fun b=>b=x) w w'):JO D w x [] s' (.returned (.slice none 0 0)) w':=
 ⟨none,0,rfl,⟨Nat.le_refl _,Nat.zero_le _⟩,ah.nil _ _ _,h,hk⟩
set_option maxHeartbeats 4000000 in
theorem IB (h:bA D w x s) (n:Int) (hn0:0≤n) (hn1:n≤9223372036854775807):Calls Tryz.prog 98 #[ptr x, .int .i64 n] w (JO D w x (iy s n).1 (iy s n).2):=by
 obtain⟨l,y⟩:=s
 obtain⟨a,c,h1,h2,h3⟩:=h.head
 have c0:w.cell? ⟨x,0,none⟩=some (.slice a l.length c):=by simp[World.cell?,h1]
 have c1:w.cell? ⟨x,1,none⟩=some (.int .i64 y):=by simp[World.cell?,h1]
 have f0:w.frozen? ⟨x,0,none⟩=false:=by simp[World.frozen?,h1]
 have f1:w.frozen? ⟨x,1,none⟩=false:=by simp[World.frozen?,h1]
 have hxw:=h.lt
 have hyy:=h.why
 have hls:l.length≤100000000:=h.small
 dsimp only at hyy
 by_cases hy:y=0
 ·subst hy
  by_cases hlt:(l.length:Int)<n
  ·have e1:iy (l,0) n=([],(l,10)):=by unfold iy;rw[if_neg (by simp),if_pos hlt]
   rw[e1]
   have HE:Hid (bA D (w.setCell ⟨x,1,none⟩ (.int .i64 10)) x (l,10)):=by
    refine⟨⟨a,c,?_,h2,?_⟩,h.apart,h.small,by simp,fun b hb=>by rw[size_set];exact h.low b hb⟩
    ·rw[aG h1];rfl
    ·exact h3.kept (by rw[size_set];exact Nat.le_refl _) fun b hb _=>aK w _ _ _ (fun(e:b=x)=>h.apart (e▸hb))
   clear h h1 h2 h3 e1 hyy
   go_enter Tryz.func98,Tryz.ntmps98
   go_wp2
   all_goals (first|(go_ret;exact row0 HE.out (Keeps.fq w ⟨x,1,none⟩ _))|((try simp only[Exit.inBlock,Exit.then]);refine bodyPost_ret (by rfl) rfl ?_;exact row0 HE.out (Keeps.fq w ⟨x,1,none⟩ _)))
  ·have hge:¬((l.length:Int)<n):=hlt
   have hgb:decide ((l.length:Int)<n)=false:=by simpa using hlt
   by_cases h0:n<1
   ·have e1:iy (l,0) n=([],(l,0)):=by unfold iy;rw[if_neg (by simp),if_neg hlt,if_pos h0]
    rw[e1]
    have HE:=Lib.hid h
    clear h h1 h2 h3 e1 hyy hlt
    go_enter Tryz.func98,Tryz.ntmps98
    go_wp2
    all_goals (first|(go_ret;exact row0 HE.out (Keeps.refl _ _))|((try simp only[Exit.inBlock,Exit.then]);refine bodyPost_ret (by rfl) rfl ?_;exact row0 HE.out (Keeps.refl _ _)))
   ·obtain⟨k,rfl⟩:∃k:Nat,n=(k:Int):=⟨n.toNat,by omega⟩
    have e1:iy (l,0) (k:Int)=(l.take k,(l.drop k,0)):=by unfold iy;rw[if_neg (by simp),if_neg hlt,if_neg h0];rfl
    rw[e1]
    have hk1:1≤k:=by omega
    have hkl:k≤l.length:=by omega
    obtain⟨L,hL⟩:∃L,L=l.length:=⟨_,rfl⟩
    rw[←hL]at c0 h1 h2 h3 hlt hge hgb hkl hls
    obtain⟨b,off,rfl,qW,hbw,-⟩:=h3.at_ (by omega)
    have hLc:=h2.1
    have hcm:=h2.2
    unfold maxLen at hcm
    have hbx:b≠x:=fun e=>h.apart (e▸qW)
    have htk:ah D w (some ⟨b,off,none⟩) k ((l.take k).map bv):=by
     have:=h3.take k
     rw[List.map_take]
     rwa [Nat.min_eq_right hkl]at this
    have QF:=Lib.hid (Au (some ⟨b,off,none⟩) k c (l.take k) w (by omega) htk)
    have Bb:Hid ((l.take k).length=k):=by show _=_;rw[List.length_take];omega
    have Jg:Hid ((l.drop k).length=L-k):=by show _=_;rw[List.length_drop,hL]
    have xQ:∀(w1:World) (A:Option Addr) (C:Nat),JQ w (l.take k) (.returned (.slice A k C)) w1→∀(R:Option Addr) (rc:Nat),kV (L-k) rc→(0<L-k→R=some ⟨b,off+k,none⟩)→
      JO D w x (l.take k) (l.drop k,0) (.returned (.slice A k C)) (w1.setCell ⟨x,0,none⟩ (.slice R (L-k) rc)):=by
     intro w1 A C hret R rc hrc hR
     obtain⟨a1,cc,he,hc1,hr1,hb1⟩:=hret
     rw[Bb.out]at he hc1 hr1
     cases he
     have hx1:=(hb1.block x hxw).trans h1
     refine⟨A,C,by rw[Bb.out],by rw[Bb.out];exact hc1,?_,⟨⟨R,rc,?_,?_,?_⟩,h.apart,?_,by simp,fun z hz=>by rw[size_set];exact Nat.lt_of_lt_of_le (h.low z hz) hb1.size⟩,?_⟩
     ·rw[Bb.out]
      refine hr1.move (by rw[size_set];exact Nat.le_refl _) fun z hz hzw=>⟨⟨hz.1,by rw[size_set];exact hz.2⟩,aK w1 _ _ _ (fun e=> ?_)⟩
      have e':z=x:=e
      omega
     ·rw[aG hx1]
      simp only[Jg.out]
      rfl
     ·rw[Jg.out];exact hrc
     ·simp only[Jg.out]
      have hdr:ah D w1 (some ⟨b,off+k,none⟩) (L-k) ((l.drop k).map bv):=by
       have:=(h3.drop k).below hb1 (Nat.le_refl _)
       rwa [←List.map_drop]at this
      have hdr2:ah D w1 R (L-k) ((l.drop k).map bv):=by
       by_cases hz:0<L-k
       ·rw[hR hz];exact hdr
       ·exact ah.zero R _ _ (by omega) (by rw[List.eq_nil_of_length_eq_zero (l:=l.drop k) (by rw[Jg.out];omega)];rfl)
      exact hdr2.kept (by rw[size_set];exact Nat.le_refl _) fun z hz _=>aK w1 _ _ _ (fun(e:z=x)=>h.apart (e▸hz))
     ·show(l.drop k).length≤_
      rw[Jg.out];omega
     ·exact((Keeps.below hb1).mono (fp':=fun z=>z=x) fun z hz hz'=>by omega).trans (Keeps.fq w1 ⟨x,0,none⟩ _) fun z _ hz=>hz
    have UF:=Lib.hid xQ
    clear xQ h h1 h2 h3 e1 hyy hlt htk hL h0
    have b1:(1:Int)≤(k:Int):=by omega
    have b0:(0:Int)≤(k:Int):=by omega
    have b2:(k:Int)≤(c:Int):=by omega
    have b3:(k:Int)≤(L:Int):=by omega
    have d1:decide ((k:Int)<1)=false:=by simp;omega
    by_cases hcap:c=k
    ·obtain rfl:k=c:=hcap.symm
     go_enter Tryz.func98,Tryz.ntmps98
     go_wp2_with fail
     (with_reducible refine QF.out.mono ?_)
     rintro e w1 hret
     obtain⟨A,C,rfl⟩:∃A C,e= .returned (.slice A k C):=by
      obtain⟨A,C,he,-⟩:=hret
      exact⟨A,C,by rw[he,Bb.out]⟩
     have WY:=Lib.hid hret
     have hb1:Below w.heap.size w w1:=by
      obtain⟨_,_,_,_,_,hb⟩:=hret
      exact hb
     have q0:w1.cell? ⟨x,0,none⟩=some (.slice (some ⟨b,off,none⟩) L k):=(hb1.cell (p:=⟨x,0,none⟩) hxw).trans c0
     have g0:w1.frozen? ⟨x,0,none⟩=false:=(hb1.frozen (p:=⟨x,0,none⟩) hxw).trans f0
     clear hret hb1 QF
     go_wp2_with fail
     go_ret
     have hfin:=UF.out w1 A C WY.out (some ⟨b,off,none⟩) 0 ⟨by omega,Nat.zero_le _⟩ (fun hz=>by omega)
     rw[show L-k=0 by omega]at hfin
     exact hfin
    ·go_enter Tryz.func98,Tryz.ntmps98
     go_wp2_with fail
     (with_reducible refine QF.out.mono ?_)
     rintro e w1 hret
     obtain⟨A,C,rfl⟩:∃A C,e= .returned (.slice A k C):=by
      obtain⟨A,C,he,-⟩:=hret
      exact⟨A,C,by rw[he,Bb.out]⟩
     have WY:=Lib.hid hret
     have hb1:Below w.heap.size w w1:=by
      obtain⟨_,_,_,_,_,hb⟩:=hret
      exact hb
     have q0:w1.cell? ⟨x,0,none⟩=some (.slice (some ⟨b,off,none⟩) L c):=(hb1.cell (p:=⟨x,0,none⟩) hxw).trans c0
     have g0:w1.frozen? ⟨x,0,none⟩=false:=(hb1.frozen (p:=⟨x,0,none⟩) hxw).trans f0
     clear hret hb1 QF
     go_wp2_with fail
     go_ret
     exact UF.out w1 A C WY.out _ _ ⟨by omega,by unfold maxLen;omega⟩ (fun hz=>by first|rfl|omega)
 ·have e1:iy (l,y) n=([],(l,y)):=Cn (s:=(l,y)) hy n
  rw[e1]
  have d1:(y==0)=false:=by simpa using hy
  have d2:(y !=0)=true:=by simpa using hy
  have HE:=Lib.hid h
  clear h h1 h2 h3 e1 hy
  go_enter Tryz.func98,Tryz.ntmps98
  go_wp2
  all_goals (first|(go_ret;exact row0 HE.out (Keeps.refl _ _))|((try simp only[Exit.inBlock,Exit.then]);refine bodyPost_ret (by rfl) rfl ?_;exact row0 HE.out (Keeps.refl _ _)))
theorem u64_or (n c:Int) (h0:0≤n) (h1:n<72057594037927936) (c0:0≤c) (c1:c<256):bits .or .u64 (n*256) c=n*256+c:=by
 obtain⟨a,rfl⟩:=Int.eq_ofNat_of_zero_le h0
 obtain⟨b,rfl⟩:=Int.eq_ofNat_of_zero_le c0
 have h:=bits_or_u64_nat (a*256) b (by omega) (by omega)
 rw[show((a:Int)*256)=((a*256:Nat):Int)by omega,h,nat_join8 _ _ (by omega) (by omega)]
 omega
theorem JR (s:Rd) (k:Nat):(iy s k).1.length≤k:=by
 unfold iy
 split
 ·simp
 ·split
  ·simp
  ·split
   ·simp
   ·simp only[List.length_take];omega
theorem IC {l:List UInt8} (h:l.length≤8) (j:Nat) (hj:j<l.length):0≤qm (l.take j)∧qm (l.take j)<72057594037927936:=by
 obtain⟨h1,h2⟩:=qo j (l.take j) (by rw[List.length_take];omega)
 refine⟨h1,Int.lt_of_lt_of_le h2 ?_⟩
 have h3:j≤7:=by omega
 have:j=0∨j=1∨j=2∨j=3∨j=4∨j=5∨j=6∨j=7:=by omega
 rcases this with h|h|h|h|h|h|h|h<;>subst h<;>decide
set_option maxHeartbeats 2000000 in
theorem IE (h:bA D w x s) (k:Nat) (hk:k≤8):Calls Tryz.prog 97 #[ptr x, .int .i64 k] w (xA D w x (.int .u64 (aT s k).1) (aT s k).2):=by
 have HR:=Lib.hid (IB h (k:Int) (by omega) (by omega))
 have hlen:=JR s k
 unfold aT
 obtain⟨bs,hbs⟩:∃bs,bs=(iy s k).1:=⟨_,rfl⟩
 obtain⟨s',hs'⟩:∃s',s'=(iy s k).2:=⟨_,rfl⟩
 rw[←hbs,←hs']at HR
 rw[←hbs]at hlen
 rw[←hbs,←hs']
 have KM:bs.length≤8:=by omega
 clear h hbs hs' hlen
 go_enter Tryz.func97,Tryz.ntmps97
 go_wp2_with fail
 (with_reducible refine HR.out.mono ?_)
 rintro e w1 ⟨a,c,rfl,hc1,hr1,mo,hK1⟩
 have HRW:=Lib.hid hr1
 have xQ:Hid (bA D w1 x s'∧Keeps (fun b=>b=x) w w1):=⟨mo,hK1⟩
 obtain⟨L,hL⟩:∃L,L=bs.length:=⟨_,rfl⟩
 have za:=Lib.hid hL
 rw[←hL]at KM HRW
 rw[←hL]
 clear hc1 hr1 mo hK1 HR hL
 go_wp2_with fail
 go_loop [5,12] (fun n i=>∃j:Nat,j≤L∧i= .int .i64 j∧n= .int .u64 (qm (bs.take j))) (fun _ i=>L-(intOf i).toNat)
 case atStart=>exact⟨0,Nat.zero_le _,rfl,rfl⟩
 case round=>
  obtain⟨j,hj,rfl,rfl⟩:=hrel
  by_cases hlt:j<L
  ·obtain⟨b,off,rfl,_,hbw,hcc⟩:=HRW.out.at_ (by omega)
   have hll:=za.out
   obtain⟨v0,v1⟩:=IC (l:=bs) (by omega) j (by omega)
   have hget:bs[j]? =some (bs[j]'(by omega)):=List.getElem?_eq_getElem (by omega)
   have htk:bs.take (j+1)=bs.take j++[bs[j]'(by omega)]:=List.take_succ_eq_append_getElem (by omega)
   obtain⟨cb,hcb⟩:∃cb,cb=bs[j]'(by omega):=⟨_,rfl⟩
   rw[←hcb]at hget htk
   have q:=hcc j hlt
   rw[List.getElem?_map,hget]at q
   have q1:w1.cell? ⟨b,off+j,none⟩=some (.int .u8 (cb.toNat:Int)):=q
   have HV:Hid (qm (bs.take (j+1))=qm (bs.take j)*256+(cb.toNat:Int)):=by
    show _=_
    rw[htk,uV]
   have hc2:(cb.toNat:Int)<256:=by have:=cb.toNat_lt;omega
   obtain⟨v,hv⟩:∃v,v=qm (bs.take j):=⟨_,rfl⟩
   rw[←hv]at v0 v1 HV⊢
   have HO:Hid (bits .or .u64 (v*256) (cb.toNat:Int)=v*256+(cb.toNat:Int)):=u64_or v _ v0 v1 (by omega) hc2
   clear hll hget htk hcb q hcc hv
   go_wp2
   go_round
   case rel=>exact⟨j+1,by omega,by go_num,by rw[HV.out,←HO.out]⟩
   case measure=>simp[intOf];omega
  ·obtain rfl:j=L:=by omega
   have hall:bs.take j=bs:=by rw[List.take_of_length_le (by have:=za.out;omega)]
   rw[hall]
   clear hall
   go_wp2
   go_ret
   exact⟨rfl,xQ.out⟩
theorem nQ (h:bA D w x s):Calls Tryz.prog 55 #[ptr x] w (xA D w x (.int .i64 (aT s 2).1) (aT s 2).2):=by
 have HG:Hid (Calls Tryz.prog 97 #[ptr x, .int .i64 2] w (xA D w x (.int .u64 (aT s 2).1) (aT s 2).2)):=IE h 2 (by omega)
 obtain⟨n0,n1⟩:=dS s 2
 have e1:IntKind.i64.wrap (aT s 2).1=(aT s 2).1:=IntWalk.i64_in _ (by have:(256:Int)^2=65536:=rfl;omega)
 generalize (aT s 2).1=v at*
 generalize (aT s 2).2=s' at*
 clear h n1
 go_enter Tryz.func55,Tryz.ntmps55
 go_wp2_with fail
 (with_reducible refine HG.out.mono ?_)
 rintro e w1 ⟨rfl,mo⟩
 have HR1:=Lib.hid mo
 clear mo
 go_wp2_with fail
 go_ret
 exact⟨rfl,HR1.out⟩
theorem DI (h:bA D w x s):Calls Tryz.prog 48 #[ptr x] w (xA D w x (.int .i64 (aT s 1).1) (aT s 1).2):=by
 have HG:Hid (Calls Tryz.prog 97 #[ptr x, .int .i64 1] w (xA D w x (.int .u64 (aT s 1).1) (aT s 1).2)):=IE h 1 (by omega)
 obtain⟨n0,n1⟩:=dS s 1
 have e1:IntKind.i64.wrap (aT s 1).1=(aT s 1).1:=IntWalk.i64_in _ (by have:(256:Int)^1=256:=rfl;omega)
 generalize (aT s 1).1=v at*
 generalize (aT s 1).2=s' at*
 clear h n1
 go_enter Tryz.func48,Tryz.ntmps48
 go_wp2_with fail
 (with_reducible refine HG.out.mono ?_)
 rintro e w1 ⟨rfl,mo⟩
 have HR1:=Lib.hid mo
 clear mo
 go_wp2_with fail
 go_ret
 exact⟨rfl,HR1.out⟩
theorem JU (h:bA D w x s):Calls Tryz.prog 46 #[ptr x] w (xA D w x (.int .u64 (aT s 8).1) (aT s 8).2):=by
 have HG:Hid (Calls Tryz.prog 97 #[ptr x, .int .i64 8] w (xA D w x (.int .u64 (aT s 8).1) (aT s 8).2)):=IE h 8 (by omega)
 generalize (aT s 8).1=v at*
 generalize (aT s 8).2=s' at*
 clear h
 go_enter Tryz.func46,Tryz.ntmps46
 go_wp2_with fail
 (with_reducible refine HG.out.mono ?_)
 rintro e w1 ⟨rfl,mo⟩
 have HR1:=Lib.hid mo
 clear mo
 go_wp2_with fail
 go_ret
 exact⟨rfl,HR1.out⟩
theorem uZ (h:bA D w x s):Calls Tryz.prog 47 #[ptr x] w (JO D w x (aF s).1 (aF s).2):=by
 have HS:=Lib.hid (nQ h)
 obtain⟨n0,n1⟩:=dS s 2
 have n2:(aT s 2).1≤9223372036854775807:=by have:(256:Int)^2=65536:=rfl;omega
 unfold aF
 generalize (aT s 2).1=v at*
 generalize (aT s 2).2=s1 at*
 clear h n1
 go_enter Tryz.func47,Tryz.ntmps47
 go_wp2_with fail
 (with_reducible refine HS.out.mono ?_)
 rintro e w1 ⟨rfl,mo,hK1⟩
 have HR:=Lib.hid (IB mo v n0 n2)
 have HK:=Lib.hid hK1
 clear mo hK1
 go_wp2_with fail
 (with_reducible refine HR.out.mono ?_)
 rintro e w2 ⟨a,c,rfl,hc2,hr2,hR2,hK2⟩
 have HR2:Hid (kV (iy s1 v).1.length c∧ah (fun b=>w1.heap.size≤b∧b<w2.heap.size) w2 a (iy s1 v).1.length ((iy s1 v).1.map bv)∧bA D w2 x (iy s1 v).2∧Keeps (fun b=>b=x) w1 w2):=⟨hc2,hr2,hR2,hK2⟩
 clear hc2 hr2 hR2 hK2
 go_wp2_with fail
 go_ret
 obtain⟨g1,g2,g3,g4⟩:=HR2.out
 exact⟨a,c,rfl,g1,g2.mono fun b hb=>⟨Nat.le_trans HK.out.size hb.1,hb.2⟩,g3,HK.out.trans g4 fun b _ hb=>hb⟩
theorem JV (h:bA D w x s):Calls Tryz.prog 99 #[ptr x] w fun e w'=>e= .returned (.int .i64 (iA s:Int))∧w=w':=by
 obtain⟨l,y⟩:=s
 obtain⟨a,c,h1,h2,h3⟩:=h.head
 have c0:w.cell? ⟨x,0,none⟩=some (.slice a l.length c):=by simp[World.cell?,h1]
 have c1:w.cell? ⟨x,1,none⟩=some (.int .i64 y):=by simp[World.cell?,h1]
 by_cases hy:y=0
 ·subst hy
  have e1:iA (l,0)=l.length:=by unfold iA;rw[if_neg (by simp)]
  rw[e1]
  clear h h1 h2 h3 e1
  go_enter Tryz.func99,Tryz.ntmps99
  go_wp2
  go_ret
  exact⟨rfl,rfl⟩
 ·have e1:iA (l,y)=0:=by unfold iA;rw[if_pos hy]
  rw[e1]
  have d1:(y !=0)=true:=by simpa using hy
  clear h h1 h2 h3 e1 hy
  go_enter Tryz.func99,Tryz.ntmps99
  go_wp2
  go_ret
  exact⟨rfl,rfl⟩
theorem DJ (h:bA D w x s):Calls Tryz.prog 50 #[ptr x] w fun e w'=>e= .returned (.int .i64 (mO s))∧w=w':=by
 obtain⟨l,y⟩:=s
 obtain⟨a,c,h1,h2,h3⟩:=h.head
 have c0:w.cell? ⟨x,0,none⟩=some (.slice a l.length c):=by simp[World.cell?,h1]
 have c1:w.cell? ⟨x,1,none⟩=some (.int .i64 y):=by simp[World.cell?,h1]
 by_cases hy:y=0
 ·subst hy
  by_cases hl:0<l.length
  ·have e1:mO (l,0)=11:=by unfold mO;rw[if_pos ⟨rfl,hl⟩]
   rw[e1]
   have d1:decide ((0:Int)<(l.length:Int))=true:=by simp;omega
   clear h h1 h2 h3 e1
   go_enter Tryz.func50,Tryz.ntmps50
   go_wp2
   go_ret
   exact⟨rfl,rfl⟩
  ·obtain rfl:l=[]:=List.eq_nil_of_length_eq_zero (by omega)
   have e1:mO ([],0)=0:=rfl
   rw[e1]
   clear h h1 h2 h3 e1
   go_enter Tryz.func50,Tryz.ntmps50
   go_wp2
   go_ret
   exact⟨rfl,rfl⟩
 ·have e1:mO (l,y)=y:=by unfold mO;rw[if_neg (fun hh=>hy hh.1)]
  rw[e1]
  have d1:(y==0)=false:=by simpa using hy
  clear h h1 h2 h3 e1 hy
  go_enter Tryz.func50,Tryz.ntmps50
  go_wp2
  go_ret
  exact⟨rfl,rfl⟩
theorem Td (h:bA D w x s):Calls Tryz.prog 156 #[ptr x] w (xA D w x (.bool (qH s).1) (qH s).2):=by
 have HB:=Lib.hid (DI h)
 obtain⟨n0,n1⟩:=dS s 1
 unfold qH
 generalize (aT s 1).1=v at*
 generalize (aT s 1).2=s1 at*
 clear h n1
 by_cases h1:1<v
 ·rw[if_pos h1]
  have e1:decide (v=1)=false:=by simp;omega
  have e2:(v==1)=false:=by simp;omega
  rw[e1]
  clear e1
  go_enter Tryz.func156,Tryz.ntmps156
  go_wp2_with fail
  (with_reducible refine HB.out.mono ?_)
  rintro e w1 ⟨rfl,mo,hK1⟩
  obtain⟨l,y⟩:=s1
  obtain⟨a,c,q1,q2,q3⟩:=mo.head
  have f1:w1.frozen? ⟨x,1,none⟩=false:=by simp[World.frozen?,q1]
  have c1:w1.cell? ⟨x,1,none⟩=some (.int .i64 y):=by simp[World.cell?,q1]
  have HE:Hid (bA D (w1.setCell ⟨x,1,none⟩ (.int .i64 12)) x (l,12)):=by
   refine⟨⟨a,c,?_,q2,?_⟩,mo.apart,mo.small,by simp,fun b hb=>by rw[size_set];exact mo.low b hb⟩
   ·rw[aG q1];rfl
   ·exact q3.kept (by rw[size_set];exact Nat.le_refl _) fun b hb _=>aK w1 _ _ _ (fun(e:b=x)=>mo.apart (e▸hb))
  have HK:=Lib.hid hK1
  clear mo hK1 q1 q2 q3 HB
  go_wp2_with fail
  go_ret
  exact⟨rfl,HE.out,HK.out.trans (Keeps.fq w1 ⟨x,1,none⟩ _) fun b _ hb=>hb⟩
 ·rw[if_neg h1]
  have e0:decide (v=1)=(v==1):=by by_cases hv:v=1<;>simp[hv]
  rw[e0]
  clear e0
  go_enter Tryz.func156,Tryz.ntmps156
  go_wp2_with fail
  (with_reducible refine HB.out.mono ?_)
  rintro e w1 ⟨rfl,mo,hK1⟩
  have HE:Hid (bA D w1 x s1∧Keeps (fun b=>b=x) w w1):=⟨mo,hK1⟩
  clear mo hK1 HB
  go_wp2_with fail
  go_ret
  exact⟨rfl,HE.out⟩
end
def WZ (n:JI):Array Value:= #[.int .i64 n.id, .int .i64 n.kind, .int .i64 n.links, .int .i64 n.size, .int .u64 n.aP, .bool n.closed]
set_option maxHeartbeats 4000000 in
theorem IG (n:JI) (h:Mc n) (w:World):Calls Tryz.prog 124 #[.agg (WZ n)] w fun e w'=>e= .returned (.bool (decide (iU n)))∧Below w.heap.size w w':=by
 obtain⟨id,kind,links,size,aP,closed⟩:=n
 obtain⟨⟨i0,i1⟩,⟨k0,k1⟩,⟨l0,l1⟩,⟨s0,s1⟩,⟨t0,t1⟩⟩:=h
 dsimp only at i0 i1 k0 k1 l0 l1 s0 s1 t0 t1
 have d1:decide (id<0)=false:=by simpa using i0
 have d2:decide (65535<id)=false:=by simpa using i1
 have d3:decide (links<0)=false:=by simpa using l0
 have d4:decide (65535<links)=false:=by simpa using l1
 have d7:decide ((0:Int)≤size)=true:=by simpa using s0
 have n1:¬id<0:=by omega
 have n2:¬65535<id:=by omega
 have n3:¬links<0:=by omega
 have n4:¬65535<links:=by omega
 unfold WZ
 dsimp only
 by_cases h1:kind=1
 ·subst h1
  by_cases q1:size≤4096
  ·have c1:decide (size≤4096)=true:=decide_eq_true q1
   by_cases q2:aP≤1099511627776
   ·have c2:decide (aP≤1099511627776)=true:=decide_eq_true q2
    rw[decide_eq_true (show iU ⟨id,1,links,size,aP,closed⟩from .inl ⟨rfl,q1,q2⟩)]
    go_enter Tryz.func124,Tryz.ntmps124
    go_wp2
    all_goals (first|(go_ret;exact⟨rfl,wall w _⟩)|((try simp only[Exit.inBlock,Exit.then]);refine bodyPost_ret (by rfl) rfl ?_;exact⟨rfl,wall w _⟩))
   ·have c2:decide (aP≤1099511627776)=false:=decide_eq_false q2
    rw[decide_eq_false (show ¬iU ⟨id,1,links,size,aP,closed⟩from fun h=>by
     rcases h with h|h
     ·exact q2 h.2.2
     ·exact absurd (show(1:Int)=2 from h.1) (by decide))]
    go_enter Tryz.func124,Tryz.ntmps124
    go_wp2
    all_goals (first|(go_ret;exact⟨rfl,wall w _⟩)|((try simp only[Exit.inBlock,Exit.then]);refine bodyPost_ret (by rfl) rfl ?_;exact⟨rfl,wall w _⟩))
  ·have c1:decide (size≤4096)=false:=decide_eq_false q1
   rw[decide_eq_false (show ¬iU ⟨id,1,links,size,aP,closed⟩from fun h=>by
    rcases h with h|h
    ·exact q1 h.2.1
    ·exact absurd (show(1:Int)=2 from h.1) (by decide))]
   go_enter Tryz.func124,Tryz.ntmps124
   go_wp2
   all_goals (first|(go_ret;exact⟨rfl,wall w _⟩)|((try simp only[Exit.inBlock,Exit.then]);refine bodyPost_ret (by rfl) rfl ?_;exact⟨rfl,wall w _⟩))
 ·have g1:(kind==1)=false:=by simpa using h1
  by_cases h2:kind=2
  ·subst h2
   by_cases q1:size=0
   ·subst q1
    by_cases q2:aP=0
    ·subst q2
     cases closed
     ·rw[decide_eq_false (show ¬iU ⟨id,2,links,0,0,false⟩from fun h=>by
       rcases h with h|h
       ·exact absurd (show(2:Int)=1 from h.1) (by decide)
       ·exact absurd (show false=true from h.2.2.2) (by decide))]
      go_enter Tryz.func124,Tryz.ntmps124
      go_wp2
      all_goals (first|(go_ret;exact⟨rfl,wall w _⟩)|((try simp only[Exit.inBlock,Exit.then]);refine bodyPost_ret (by rfl) rfl ?_;exact⟨rfl,wall w _⟩))
     ·rw[decide_eq_true (show iU ⟨id,2,links,0,0,true⟩from .inr ⟨rfl,rfl,rfl,rfl⟩)]
      go_enter Tryz.func124,Tryz.ntmps124
      go_wp2
      all_goals (first|(go_ret;exact⟨rfl,wall w _⟩)|((try simp only[Exit.inBlock,Exit.then]);refine bodyPost_ret (by rfl) rfl ?_;exact⟨rfl,wall w _⟩))
    ·have g2:(aP==0)=false:=by simpa using q2
     rw[decide_eq_false (show ¬iU ⟨id,2,links,0,aP,closed⟩from fun h=>by
      rcases h with h|h
      ·exact absurd (show(2:Int)=1 from h.1) (by decide)
      ·exact q2 h.2.2.1)]
     go_enter Tryz.func124,Tryz.ntmps124
     go_wp2
     all_goals (first|(go_ret;exact⟨rfl,wall w _⟩)|((try simp only[Exit.inBlock,Exit.then]);refine bodyPost_ret (by rfl) rfl ?_;exact⟨rfl,wall w _⟩))
   ·have g2:(size==0)=false:=by simpa using q1
    rw[decide_eq_false (show ¬iU ⟨id,2,links,size,aP,closed⟩from fun h=>by
     rcases h with h|h
     ·exact absurd (show(2:Int)=1 from h.1) (by decide)
     ·exact q1 h.2.1)]
    go_enter Tryz.func124,Tryz.ntmps124
    go_wp2
    all_goals (first|(go_ret;exact⟨rfl,wall w _⟩)|((try simp only[Exit.inBlock,Exit.then]);refine bodyPost_ret (by rfl) rfl ?_;exact⟨rfl,wall w _⟩))
  ·have g2:(kind==2)=false:=by simpa using h2
   rw[decide_eq_false (show ¬iU ⟨id,kind,links,size,aP,closed⟩from fun h=>by
    rcases h with h|h
    ·exact h1 h.1
    ·exact h2 h.1)]
   go_enter Tryz.func124,Tryz.ntmps124
   go_wp2
   all_goals (first|(go_ret;exact⟨rfl,wall w _⟩)|((try simp only[Exit.inBlock,Exit.then]);refine bodyPost_ret (by rfl) rfl ?_;exact⟨rfl,wall w _⟩))
theorem rQ {w w':World} {x B:Nat} (hK:Keeps (fun b=>b=x) w w') (hx:B≤x) (hB:B≤w.heap.size):Below B w w':=hK.fD hB fun b hb e=>by
 have e':b=x:=e
 omega
set_option maxRecDepth 100000 in
set_option maxHeartbeats 8000000 in
theorem II {S:Nat→Prop} (a:Option Addr) (n c:Nat) (bs:List UInt8) (w:World) (hm:n≤100000000) (hr:ah S w a n (bs.map bv)):
  Calls Tryz.prog 119 #[.slice a n c] w fun e w'=>e= .returned (.tuple #[.agg (WZ (bP bs).1), .int .i64 (bP bs).2])∧Below w.heap.size w w':=by
 obtain⟨w1,hw1⟩:∃w1,w1=w.alloc (.cells Cg 101):=⟨_,rfl⟩
 have hb1:Below w.heap.size w w1:=by rw[hw1];exact wall w _
 have hre:w1.heap[w.heap.size]? =some (.cells Cg 101 (0,0)):=by rw[hw1];exact(MapKept.heap_alloc w _).1
 have hs1:w1.heap.size=w.heap.size+1:=by rw[hw1];simp
 have HN:=Lib.hid (oI a n c bs w1 hm (hr.below hb1 (Nat.le_refl _)))
 have HW1:=Lib.hid hw1
 have HB1:=Lib.hid hb1
 have BR:=Lib.hid hre
 have JW:Hid (jB bs=jB bs):=Lib.hid rfl
 have Gc:=Lib.hid (qp bs)
 clear hr hb1 hre hw1 hs1
 conv at JW=>arg 1;rhs;unfold jB;dsimp only
 unfold jB at Gc
 dsimp only at Gc
 go_enter Tryz.func119,Tryz.ntmps119
 go_wp2_with fail
 rw[show w.alloc (.cells #[.int .i64 0, .int .i64 0, .int .i64 0, .int .i64 0, .int .u64 0, .bool false] 101)=w1 from HW1.out.symm]
 (with_reducible refine HN.out.mono ?_)
 rintro e w2 ⟨x,rfl,hx,hR2,hb2⟩
 have HX:=Lib.hid hx
 have HR2:=Lib.hid hR2
 have HB2:=Lib.hid hb2
 clear hx hR2 hb2 HN
 obtain⟨D,hD⟩:∃D:Nat→Prop,D=fun b=>w1.heap.size≤b∧b<x:=⟨_,rfl⟩
 rw[←hD]at HR2
 clear hD
 have w_:=Lib.hid (nQ HR2.out)
 obtain⟨v0,hv0⟩:∃v,v=(aT (bs,0) 2).1:=⟨_,rfl⟩
 obtain⟨s0,hs0⟩:∃s,s=(aT (bs,0) 2).2:=⟨_,rfl⟩
 rw[←hv0,←hs0]at w_
 rw[←hv0,←hs0]at JW
 rw[←hv0]at Gc
 (try rw[←hs0]at Gc)
 clear hv0 hs0
 go_wp2_with fail
 (with_reducible refine w_.out.mono ?_)
 rintro e w3 ⟨rfl,hR,hK⟩
 have HR3:=Lib.hid hR
 have HB3:=Lib.hid (HB2.out.trans (rQ hK HX.out HB2.out.size))
 clear hR hK w_
 have Jr:=Lib.hid (DI HR3.out)
 obtain⟨v1,hv1⟩:∃v,v=(aT s0 1).1:=⟨_,rfl⟩
 obtain⟨s1,hs1⟩:∃s,s=(aT s0 1).2:=⟨_,rfl⟩
 rw[←hv1,←hs1]at Jr
 rw[←hv1,←hs1]at JW
 rw[←hv1]at Gc
 (try rw[←hs1]at Gc)
 clear hv1 hs1
 go_wp2_with fail
 (with_reducible refine Jr.out.mono ?_)
 rintro e w4 ⟨rfl,hR,hK⟩
 have HR4:=Lib.hid hR
 have kG:=Lib.hid (HB3.out.trans (rQ hK HX.out HB3.out.size))
 clear hR hK Jr
 have DY:=Lib.hid (nQ HR4.out)
 obtain⟨v2,hv2⟩:∃v,v=(aT s1 2).1:=⟨_,rfl⟩
 obtain⟨s2,hs2⟩:∃s,s=(aT s1 2).2:=⟨_,rfl⟩
 rw[←hv2,←hs2]at DY
 rw[←hv2,←hs2]at JW
 rw[←hv2]at Gc
 (try rw[←hs2]at Gc)
 clear hv2 hs2
 go_wp2_with fail
 (with_reducible refine DY.out.mono ?_)
 rintro e w5 ⟨rfl,hR,hK⟩
 have EK:=Lib.hid hR
 have rW:=Lib.hid (kG.out.trans (rQ hK HX.out kG.out.size))
 clear hR hK DY
 have MQ:=Lib.hid (nQ EK.out)
 obtain⟨v3,hv3⟩:∃v,v=(aT s2 2).1:=⟨_,rfl⟩
 obtain⟨s3,hs3⟩:∃s,s=(aT s2 2).2:=⟨_,rfl⟩
 rw[←hv3,←hs3]at MQ
 rw[←hv3,←hs3]at JW
 rw[←hv3]at Gc
 (try rw[←hs3]at Gc)
 clear hv3 hs3
 go_wp2_with fail
 (with_reducible refine MQ.out.mono ?_)
 rintro e w6 ⟨rfl,hR,hK⟩
 have WO:=Lib.hid hR
 have DR:=Lib.hid (rW.out.trans (rQ hK HX.out rW.out.size))
 clear hR hK MQ
 have JX:=Lib.hid (JU WO.out)
 obtain⟨v4,hv4⟩:∃v,v=(aT s3 8).1:=⟨_,rfl⟩
 obtain⟨s4,hs4⟩:∃s,s=(aT s3 8).2:=⟨_,rfl⟩
 rw[←hv4,←hs4]at JX
 rw[←hv4,←hs4]at JW
 rw[←hv4]at Gc
 (try rw[←hs4]at Gc)
 clear hv4 hs4
 go_wp2_with fail
 (with_reducible refine JX.out.mono ?_)
 rintro e w7 ⟨rfl,hR,hK⟩
 have SL:=Lib.hid hR
 have wS:=Lib.hid (DR.out.trans (rQ hK HX.out DR.out.size))
 clear hR hK JX
 have XQ:=Lib.hid (Td SL.out)
 obtain⟨v5,hv5⟩:∃v,v=(qH s4).1:=⟨_,rfl⟩
 obtain⟨s5,hs5⟩:∃s,s=(qH s4).2:=⟨_,rfl⟩
 rw[←hv5,←hs5]at XQ
 rw[←hv5,←hs5]at JW
 rw[←hv5]at Gc
 (try rw[←hs5]at Gc)
 clear hv5 hs5
 go_wp2_with fail
 (with_reducible refine XQ.out.mono ?_)
 rintro e w8 ⟨rfl,hR,hK⟩
 have XK:=Lib.hid hR
 have vK:=Lib.hid (wS.out.trans (rQ hK HX.out wS.out.size))
 clear hR hK XQ
 obtain⟨N,hN⟩:∃N:JI,N=⟨v0,v1,v2,v3,v4,v5⟩:=⟨_,rfl⟩
 rw[←hN]at JW Gc
 have pJ:=Lib.hid hN
 clear hN
 have hsz:=vK.out.size
 obtain⟨w9,QO⟩:∃w9,w9=w8.alloc (.cells (WZ N) 101):=⟨_,rfl⟩
 have yg:Below w8.heap.size w8 w9:=by rw[QO];exact wall w8 _
 have hnd:w9.heap[w8.heap.size]? =some (.cells (WZ N) 101 (0,0)):=by rw[QO];exact(MapKept.heap_alloc w8 _).1
 have HW9:Hid (w9=w8.alloc (.cells #[.int .i64 v0, .int .i64 v1, .int .i64 v2, .int .i64 v3, .int .u64 v4, .bool v5] 101)):=by rw[QO,pJ.out];exact Lib.hid rfl
 have AB:=Lib.hid (vK.out.trans (yg.mono vK.out.size))
 have Te:=Lib.hid ((AB.out.block _ (Array.getElem?_eq_some_iff.1 BR.out).1).trans BR.out)
 have HE:=Lib.hid (DJ (XK.out.below yg (Nat.le_refl _)))
 have Nl:=Lib.hid hnd
 obtain⟨z,hz⟩:∃z,z=mO s5:=⟨_,rfl⟩
 rw[←hz]at HE
 have HZ:=Lib.hid hz
 clear QO yg hnd hz
 have qn:∀j,w9.cell? ⟨w8.heap.size,j,none⟩=(WZ N)[j]? :=fun j=>bU Nl.out j
 have q0:w9.cell? ⟨w8.heap.size,0,none⟩=some (.int .i64 v0):=by rw[qn,pJ.out];rfl
 have q1:w9.cell? ⟨w8.heap.size,1,none⟩=some (.int .i64 v1):=by rw[qn,pJ.out];rfl
 have q2:w9.cell? ⟨w8.heap.size,2,none⟩=some (.int .i64 v2):=by rw[qn,pJ.out];rfl
 have q3:w9.cell? ⟨w8.heap.size,3,none⟩=some (.int .i64 v3):=by rw[qn,pJ.out];rfl
 have q4:w9.cell? ⟨w8.heap.size,4,none⟩=some (.int .u64 v4):=by rw[qn,pJ.out];rfl
 have q5:w9.cell? ⟨w8.heap.size,5,none⟩=some (.bool v5):=by rw[qn,pJ.out];rfl
 clear qn
 have Tf:Hid (∀w',Calls Tryz.prog 124 #[.agg #[.int .i64 v0, .int .i64 v1, .int .i64 v2, .int .i64 v3, .int .u64 v4, .bool v5]] w' fun e w''=>e= .returned (.bool (decide (iU N)))∧Below w'.heap.size w' w''):=fun w'=>by
  have:=IG N Gc.out w'
  rw[pJ.out]at this
  rw[pJ.out]
  exact this
 have pO:=(Array.getElem?_eq_some_iff.1 Nl.out).1
 have Oh:=(Array.getElem?_eq_some_iff.1 Te.out).1
 go_wp2_with fail
 rw[←HW9.out]
 by_cases hz:z=0
 ·subst hz
  by_cases hr:iU N
  ·have HD:Hid (bP bs=(N,0)):=by
    show _=_
    unfold bP
    rw[JW.out,if_pos ⟨HZ.out.symm,hr⟩]
   rw[decide_eq_true hr]at Tf
   clear hr JW
   (with_reducible refine HE.out.mono ?_)
   rintro e _ ⟨rfl,rfl⟩
   go_wp2_with fail
   (with_reducible refine(Tf.out _).mono ?_)
   rintro e Ru ⟨rfl,wN⟩
   have Ql:=Lib.hid ((wN.block _ Oh).trans Te.out)
   have GY:=Lib.hid (HB1.out.trans ((AB.out.trans (wN.mono AB.out.size)).mono HB1.out.size))
   have r0:Ru.cell? ⟨w8.heap.size,0,none⟩=some (.int .i64 v0):=(wN.cell (p:=⟨w8.heap.size,0,none⟩) pO).trans q0
   have r1:Ru.cell? ⟨w8.heap.size,1,none⟩=some (.int .i64 v1):=(wN.cell (p:=⟨w8.heap.size,1,none⟩) pO).trans q1
   have r2:Ru.cell? ⟨w8.heap.size,2,none⟩=some (.int .i64 v2):=(wN.cell (p:=⟨w8.heap.size,2,none⟩) pO).trans q2
   have r3:Ru.cell? ⟨w8.heap.size,3,none⟩=some (.int .i64 v3):=(wN.cell (p:=⟨w8.heap.size,3,none⟩) pO).trans q3
   have r4:Ru.cell? ⟨w8.heap.size,4,none⟩=some (.int .u64 v4):=(wN.cell (p:=⟨w8.heap.size,4,none⟩) pO).trans q4
   have r5:Ru.cell? ⟨w8.heap.size,5,none⟩=some (.bool v5):=(wN.cell (p:=⟨w8.heap.size,5,none⟩) pO).trans q5
   clear wN Tf HE q0 q1 q2 q3 q4 q5
   go_wp2_with (refine jo (by rfl) 101 _ _ (by rfl) w.heap.size #[.int .i64 v0, .int .i64 v1, .int .i64 v2, .int .i64 v3, .int .u64 v4, .bool v5] (by rfl) (by rfl) _ Ql.out uS rfl (by simp[Value.oneCell']) ?_;intro w11 pE;have uT:=Lib.hid pE;clear pE)
   refine z_ rfl rfl rfl rfl uT.out.1 rfl ?_
   rw[HD.out,pJ.out]
   exact⟨rfl,uT.out.below GY.out (Nat.le_refl _)⟩
  ·have HD:Hid (bP bs=(Qd,12)):=by
    show _=_
    unfold bP
    rw[JW.out,if_neg fun h=>hr h.2]
   rw[decide_eq_false hr]at Tf
   clear hr JW
   (with_reducible refine HE.out.mono ?_)
   rintro e _ ⟨rfl,rfl⟩
   go_wp2_with fail
   (with_reducible refine(Tf.out _).mono ?_)
   rintro e Ru ⟨rfl,wN⟩
   have Ql:=Lib.hid ((wN.block _ Oh).trans Te.out)
   have GY:=Lib.hid (HB1.out.trans ((AB.out.trans (wN.mono AB.out.size)).mono HB1.out.size))
   clear wN Tf HE q0 q1 q2 q3 q4 q5
   go_wp2_with (refine jo (by rfl) 101 _ _ (by rfl) w.heap.size Cg (by rfl) (by rfl) _ Ql.out uS rfl (by simp[Cg,Value.oneCell']) ?_;intro w11 pE;have uT:=Lib.hid pE;clear pE)
   (try simp only[Exit.inBlock,Exit.then])
   refine z_ rfl rfl rfl rfl uT.out.1 rfl ?_
   rw[HD.out]
   exact⟨rfl,uT.out.below GY.out (Nat.le_refl _)⟩
 ·have hz2:(z !=0)=true:=by simpa using hz
  have HD:Hid (bP bs=(Qd,12)):=by
   show _=_
   unfold bP
   rw[JW.out,if_neg fun h=>hz (HZ.out.trans h.1)]
  have GY:=Lib.hid (HB1.out.trans (AB.out.mono HB1.out.size))
  clear hz JW Tf q0 q1 q2 q3 q4 q5
  (with_reducible refine HE.out.mono ?_)
  rintro e _ ⟨rfl,rfl⟩
  go_wp2_with (refine jo (by rfl) 101 _ _ (by rfl) w.heap.size Cg (by rfl) (by rfl) _ Te.out uS rfl (by simp[Cg,Value.oneCell']) ?_;intro w11 pE;have uT:=Lib.hid pE;clear pE)
  (try simp only[Exit.inBlock,Exit.then])
  refine z_ rfl rfl rfl rfl uT.out.1 rfl ?_
  rw[HD.out]
  exact⟨rfl,uT.out.below GY.out (Nat.le_refl _)⟩
theorem aH.add2 {g:Nat→Own} {D D2:Nat→Prop} {w w':World} {p mb:Nat} {ib nb:Int→Nat} {T:aA} (h:aH g D w p mb ib nb T) {k:Int} {x:bq} {i n:Nat} (hi0:g i= .none∧¬D i) (hn0:x.kind=2→g n= .none∧¬D n) (hin:x.kind=2→i≠n) (hiw:i<w'.heap.size) (hnw:x.kind=2→n<w'.heap.size) (hx0:aj k T=none)
  (hm:MapAt aW w' mb (bM fQ k (ptr i) (T.map fun q=>(q.1,ptr (ib q.1))))) (hsz:w.heap.size≤w'.heap.size) (hb:∀b,b<w.heap.size→g b≠ .none∨D b→b≠mb→w'.heap[b]? =w.heap[b]?) (hi:iq D2 w' k i n x) (hD2:∀b,D2 b→g b= .none∧b<w'.heap.size∧b≠i∧(x.kind=2→b≠n)):
  aH (fun b=>if b=i then .item k else if b=n∧x.kind=2 then .names k else g b) (fun b=>D b∨D2 b) w' p mb (fun j=>if j=k then i else ib j) (fun j=>if j=k then n else nb j) (bM fQ k x T):=by
 have hgg:∀b,g b≠ .none→(if b=i then Own.item k else if b=n∧x.kind=2 then .names k else g b)=g b:=fun b hb=>by
  rw[if_neg (fun e:b=i=>hb (by rw[e];exact hi0.1)),if_neg (fun h2:b=n∧x.kind=2=>hb (by rw[h2.1];exact(hn0 h2.2).1))]
 have hp:g p≠ .none:=by rw[h.nS];simp
 have hmm:g mb≠ .none:=by rw[h.iH];simp
 have hbg:∀b,g b≠ .none→b≠mb→w'.heap[b]? =w.heap[b]? :=fun b hg hne=>hb b (h.low b hg) (.inl hg) hne
 refine⟨(hbg p hp (fun e=>by have:=h.nS;rw[e,h.iH]at this;cases this)).trans h.head,?_,?_,(hgg p hp).trans h.nS,(hgg mb hmm).trans h.iH,?_,?_,?_,?_,fun b hb=> ?_⟩
 ·have e1:(bM fQ k x T).map (fun q=>(q.1,ptr ((fun j=>if j=k then i else ib j) q.1)))=bM fQ k (ptr i) (T.map fun q=>(q.1,ptr (ib q.1))):=by
   rw[rU fQ (fun j _=>ptr ((fun j=>if j=k then i else ib j) j))]
   simp only[if_pos]
   congr 1
   apply List.map_congr_left
   intro q hq
   have:q.1≠k:=f_.1 hx0 q hq
   rw[if_neg this]
  rw[e1]
  exact hm
 ·intro j y hy
  rw[dL]at hy
  by_cases hj:j=k
  ·subst hj
   rw[if_pos rfl]at hy
   cases hy
   simp only[if_pos]
   exact hi.move (Nat.le_refl _) rfl (fun _=>rfl) (fun b hb _=>⟨.inr hb,rfl⟩)
  ·rw[if_neg hj]at hy
   simp only[if_neg hj]
   have t1:=h.nk j y hy
   refine(h.item j y hy).move hsz (hbg _ (by rw[t1];simp) (fun e=>by rw[e,h.iH]at t1;cases t1)) (fun hk=>hbg _ (by rw[h.kZ j y hy hk];simp) (fun e=>by have t2:=h.kZ j y hy hk;rw[e,h.iH]at t2;cases t2)) ?_
   intro b qW hbw
   exact⟨.inl qW,hb b hbw (.inr qW) (fun e=>by have:=h.data b qW;rw[e,h.iH]at this;cases this)⟩
 ·intro j y hy
  rw[dL]at hy
  by_cases hj:j=k
  ·subst hj;simp
  ·rw[if_neg hj]at hy
   have t1:=h.nk j y hy
   simp only[if_neg hj]
   rw[hgg _ (by rw[t1];simp)]
   exact t1
 ·intro j y hy hk
  rw[dL]at hy
  by_cases hj:j=k
  ·subst hj
   rw[if_pos rfl]at hy
   cases hy
   simp only[if_pos]
   rw[if_neg (Ne.symm (hin hk)),if_pos ⟨trivial,hk⟩]
  ·rw[if_neg hj]at hy
   have t1:=h.kZ j y hy hk
   simp only[if_neg hj]
   rw[hgg _ (by rw[t1];simp)]
   exact t1
 ·intro b qW
  rcases qW with qW|qW
  ·rw[if_neg (fun e:b=i=>hi0.2 (by rw[←e];exact qW)),if_neg (fun h2:b=n∧x.kind=2=>(hn0 h2.2).2 (by rw[←h2.1];exact qW))]
   exact h.data b qW
  ·obtain⟨d1,d2,d3,d4⟩:=hD2 b qW
   rw[if_neg d3,if_neg (fun h2=>d4 h2.2 h2.1)]
   exact d1
 ·intro b hbn
  by_cases h1:b=i
  ·omega
  ·by_cases h2:b=n∧x.kind=2
   ·have:=hnw h2.2;omega
   ·simp only[if_neg h1,if_neg h2]at hbn
    exact Nat.lt_of_lt_of_le (h.low b hbn) hsz
 ·rcases hb with qW|qW
  ·exact Nat.lt_of_lt_of_le (h.mh b qW) hsz
  ·exact(hD2 b qW).2.1
theorem Ct {κ α:Type} (lt:κ→κ→Bool) (x:κ×α):∀{l:List (κ×α)},(∀q∈l,lt x.1 q.1=false)→gL lt x l=l++[x]
 |[],_=>rfl
 |y::r,h=>by
  unfold gL
  rw[if_neg (by rw[h y (by simp)];decide),Ct lt x fun q hq=>h q (by simp[hq])]
  rfl
theorem Cu {κ α:Type} [DecidableEq κ] (lt:κ→κ→Bool) {k:κ} (v:α) {l:List (κ×α)} (h:∀q∈l,q.1≠k∧lt k q.1=false):bM lt k v l=l++[(k,v)]:=by
 unfold bM
 rw[jg (f_.2 fun q hq=>(h q hq).1)]
 exact Ct lt (k,v) fun q hq=>(h q hq).2
def qy (w:World) (p:Nat) (T:aA) (w':World):Prop:=
 ∃g D mb ib nb,aH g D w' p mb ib nb T∧(∀b,g b≠ .none→w.heap.size≤b)∧(∀b,D b→w.heap.size≤b)∧Below w.heap.size w w'
end Go.Proofs.YtjnhnlabpccgjaaGreat
