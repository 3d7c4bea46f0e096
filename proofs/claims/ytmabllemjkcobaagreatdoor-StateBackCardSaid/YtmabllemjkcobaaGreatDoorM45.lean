/- package codec: the reader. node.Right of what was read; node.Decode. -/
import Derived.Test.YtmabllemjkcobaaGreatDoorM43
import Derived.Test.YtmabllemjkcobaaGreatDoorM12
import Derived.WalkLawsBesides
import Derived.Test.YtmabllemjkcobaaGreatDoorM44
import Derived.Test.YtmabllemjkcobaaGreatDoorM28
namespace Go.Proofs.YtmabllemjkcobaaGreatDoor
open Go.ChangeShapes Go.WideShapes Go.ChangeAt Go.RowKit
set_option linter.unusedVariables false
set_option linter.unusedSimpArgs false
structure aZ (D:Nat→Prop) (w:World) (x:Nat) (s:Rd):Prop where
 head:∃a c,w.heap[x]? =some (.cells #[.slice a s.1.length c, .int .i64 s.2] 204 (0,0))∧nK s.1.length c∧aj D w a s.1.length (s.1.map bv)
 apart:¬D x
 small:s.1.length≤100000000
 why:0≤s.2∧s.2≤100
 low:∀b,D b→b<w.heap.size
def Iy (D:Nat→Prop) (w:World) (x:Nat) (bs:List UInt8) (s':Rd) (e:Ending) (w':World):Prop:=
 ∃a c,e= .returned (.slice a bs.length c)∧nK bs.length c∧aj (fun b=>w.heap.size≤b∧b<w'.heap.size) w' a bs.length (bs.map bv)∧aZ D w' x s'∧Keeps (fun b=>b=x) w w'
def wB (D:Nat→Prop) (w:World) (x:Nat) (v:Value) (s':Rd) (e:Ending) (w':World):Prop:=
 e= .returned v∧aZ D w' x s'∧Keeps (fun b=>b=x) w w'
section
variable {D:Nat→Prop} {x:Nat} {w w1 w2:World} {s s1 s2:Rd}
theorem aZ.lt (h:aZ D w x s):x<w.heap.size:=by
 obtain⟨a,c,h1,_⟩:=h.head
 exact(Array.getElem?_eq_some_iff.1 h1).1
theorem aZ.kept (h:aZ D w x s) (hs:w.heap.size≤w1.heap.size) (hx:w1.heap[x]? =w.heap[x]?) (hD:∀b,D b→b<w.heap.size→w1.heap[b]? =w.heap[b]?):aZ D w1 x s:=by
 obtain⟨⟨a,c,h1,h2,h3⟩,h4,h5,h6,h7⟩:=h
 exact⟨⟨a,c,hx.trans h1,h2,h3.kept hs hD⟩,h4,h5,h6,fun b hb=>Nat.lt_of_lt_of_le (h7 b hb) hs⟩
theorem aZ.below {B:Nat} (h:aZ D w x s) (hb:Below B w w1) (hB:w.heap.size≤B):aZ D w1 x s:=
 h.kept hb.size (hb.block x (by have:=h.lt;omega)) fun b _ hb'=>hb.block b (by omega)
end
theorem Ra {w:World} {base:Nat} {e:TypeId} {a:Option Addr} {m c n:Nat} {xs:List Value} (h:w.ownsRow base e 1 (.slice a m c) n xs):nK n c:=by
 obtain⟨h0,h⟩:=h
 rcases h with⟨h1,rfl⟩|⟨g,cap,cur,h1,_,_,h3,h4,_⟩
 ·simp only[Value.slice.injEq]at h1
  obtain⟨_,_,rfl⟩:=h1
  exact⟨Nat.zero_le _,Nat.zero_le _⟩
 ·simp only[Value.slice.injEq]at h1
  obtain⟨_,_,rfl⟩:=h1
  exact⟨h3,h4⟩
def Iz (w:World) (bs:List UInt8) (e:Ending) (w':World):Prop:=
 ∃a c,e= .returned (.slice a bs.length c)∧nK bs.length c∧aj (fun x=>w.heap.size≤x∧x<w'.heap.size) w' a bs.length (bs.map bv)∧Below w.heap.size w w'
set_option maxHeartbeats 1000000 in
theorem yS {S:Nat→Prop} (a:Option Addr) (n cap:Nat) (bs:List UInt8) (w:World) (hm:n≤1000000000) (hr:aj S w a n (bs.map bv)):
  Calls Tryz.prog 125 #[.slice a n cap] w (Iz w bs):=by
 obtain⟨i0,hi,hz0,hz1,hz2⟩:=info_parts Tryz.Cr
 have hll:bs.length=n:=by have:=hr.length;simpa using this
 have heq:=fun w=>Lib.run_eql_slice_nil (P:=Tryz.prog) w 26 5 a n cap 0 0 Tryz.underlying26
 have HR:=Lib.hid hr
 have HL:=Lib.hid hll
 clear hr hll
 cases a with
 |none=>
  have h0:n=0:=by
   rcases Nat.eq_zero_or_pos n with h0|h0
   ·exact h0
   ·obtain⟨_,_,e,_⟩:=HR.out.at_ h0
    cases e
  subst h0
  have hb0:bs=[]:=List.eq_nil_of_length_eq_zero HL.out
  subst hb0
  go_enter Tryz.func125,Tryz.ntmps125
  go_wp2
  go_ret
  exact⟨none,0,rfl,⟨Nat.le_refl _,Nat.zero_le _⟩,aj.nil _ _ _,Below.refl _ _⟩
 |some ad=>
  have hsz:(w.alloc (.cells #[] 5)).heap.size=w.heap.size+1:=by simp
  have HS:=Lib.hid (HR.out.below (wall w (.cells #[] 5)) (Nat.le_refl _))
  go_enter Tryz.func125,Tryz.ntmps125
  go_wp2_with ((at_builtin;refine aW (by rfl) _ _ 26 (by rfl) w.heap.size 5 i0 (.int .u8 0) 1 Tryz.underlying26 hi hz0 hz1 hz2 rfl _ 0 [] (by rfl) ⟨rfl, .inr ⟨w.heap.size,0,#[],rfl,Nat.le_refl _,(MapKept.heap_alloc w _).1,Nat.le_refl _,Nat.zero_le _,rfl,rfl⟩⟩ (some ad) n cap (bs.map bv) (by rfl) HS.out (mG bs) (by unfold maxLen;omega) (by omega) (by simp) ?_;intro A' c' w2 hown2 hgrow2 _ _))
  go_ret
  have hB2:Below w.heap.size w w2:=(wall w _).grown hgrow2 (by simp) (fun k hk=>by cases hk;exact Nat.le_refl _)
  have hcap:=Ra hown2
  have hro:=(aj.qL hown2).2
  rw[List.nil_append]at hro
  simp only[Nat.zero_add]at hro hcap
  have hl:=HL.out
  subst hl
  exact⟨_,c',by simp only[Nat.zero_add];rfl,hcap,hro,hB2⟩
section
variable {D:Nat→Prop} {x:Nat} {w:World} {s:Rd}
theorem oq {S:Nat→Prop} (a:Option Addr) (n c:Nat) (bs:List UInt8) (w:World) (hm:n≤100000000) (hr:aj S w a n (bs.map bv)):
  Calls Tryz.prog 86 #[.slice a n c] w fun e w'=>∃x,e= .returned (ptr x)∧w.heap.size≤x∧aZ (fun b=>w.heap.size≤b∧b<x) w' x (bs,0)∧Below w.heap.size w w':=by
 have hl:bs.length=n:=by simpa using hr.length
 have HC:=Lib.hid (yS a n c bs w (by omega) hr)
 have hl2:bs.length≤100000000:=by omega
 clear hr hl
 go_enter Tryz.func86,Tryz.ntmps86
 go_wp2_with fail
 (with_reducible refine HC.out.mono ?_)
 rintro e w1 ⟨a1,c1,rfl,hc1,hr1,hb1⟩
 have HR1:=Lib.hid hr1
 have HB1:=Lib.hid hb1
 have AA:=Lib.hid hc1
 clear hr1 hb1 hc1 HC
 go_wp2_with fail
 go_ret
 refine⟨_,rfl,HB1.out.size,⟨⟨a1,c1,(MapKept.heap_alloc w1 _).1,AA.out,?_⟩,fun h=>by omega,hl2,by simp,fun b hb=>by rw[World.size_alloc];omega⟩,HB1.out.trans ((wall w1 _).mono HB1.out.size)⟩
 exact HR1.out.move (wall w1 _).size fun b hb hbw=>⟨hb,(wall w1 _).block b hbw⟩
theorem row0 {D:Nat→Prop} {w w':World} {x:Nat} {s':Rd} (h:aZ D w' x s') (hk:Keeps (fun b=>b=x) w w'):Iy D w x [] s' (.returned (.slice none 0 0)) w':=
 ⟨none,0,rfl,⟨Nat.le_refl _,Nat.zero_le _⟩,aj.nil _ _ _,h,hk⟩
set_option maxHeartbeats 4000000 in
theorem Gj (h:aZ D w x s) (n:Int) (hn0:0≤n) (hn1:n≤9223372036854775807):Calls Tryz.prog 90 #[ptr x, .int .i64 n] w (Iy D w x (iV s n).1 (iV s n).2):=by
 obtain⟨l,y⟩:=s
 obtain⟨a,c,h1,h2,h3⟩:=h.head
 have c0:w.cell? ⟨x,0,none⟩=some (.slice a l.length c):=by simp[World.cell?,h1]
 have c1:w.cell? ⟨x,1,none⟩=some (.int .i64 y):=by simp[World.cell?,h1]
 have f0:w.frozen? ⟨x,0,none⟩=false:=by simp[World.frozen?,h1]
 have f1:w.frozen? ⟨x,1,none⟩=false:=by simp[World.frozen?,h1]
 have hxw:=h.lt
 have YR:=h.why
 have hls:l.length≤100000000:=h.small
 dsimp only at YR
 by_cases hy:y=0
 ·subst hy
  by_cases hlt:(l.length:Int)<n
  ·have e1:iV (l,0) n=([],(l,10)):=by unfold iV;rw[if_neg (by simp),if_pos hlt]
   rw[e1]
   have HE:Hid (aZ D (w.setCell ⟨x,1,none⟩ (.int .i64 10)) x (l,10)):=by
    refine⟨⟨a,c,?_,h2,?_⟩,h.apart,h.small,by simp,fun b hb=>by rw[size_set];exact h.low b hb⟩
    ·rw[aX h1];rfl
    ·exact h3.kept (by rw[size_set];exact Nat.le_refl _) fun b hb _=>bE w _ _ _ (fun(e:b=x)=>h.apart (e▸hb))
   clear h h1 h2 h3 e1 YR
   go_enter Tryz.func90,Tryz.ntmps90
   go_wp2
   all_goals (first|(go_ret;exact row0 HE.out (Keeps.lN w ⟨x,1,none⟩ _))|((try simp only[Exit.inBlock,Exit.then]);refine bodyPost_ret (by rfl) rfl ?_;exact row0 HE.out (Keeps.lN w ⟨x,1,none⟩ _)))
  ·have hge:¬((l.length:Int)<n):=hlt
   have hgb:decide ((l.length:Int)<n)=false:=by simpa using hlt
   by_cases h0:n<1
   ·have e1:iV (l,0) n=([],(l,0)):=by unfold iV;rw[if_neg (by simp),if_neg hlt,if_pos h0]
    rw[e1]
    have HE:=Lib.hid h
    clear h h1 h2 h3 e1 YR hlt
    go_enter Tryz.func90,Tryz.ntmps90
    go_wp2
    all_goals (first|(go_ret;exact row0 HE.out (Keeps.refl _ _))|((try simp only[Exit.inBlock,Exit.then]);refine bodyPost_ret (by rfl) rfl ?_;exact row0 HE.out (Keeps.refl _ _)))
   ·obtain⟨k,rfl⟩:∃k:Nat,n=(k:Int):=⟨n.toNat,by omega⟩
    have e1:iV (l,0) (k:Int)=(l.take k,(l.drop k,0)):=by unfold iV;rw[if_neg (by simp),if_neg hlt,if_neg h0];rfl
    rw[e1]
    have hk1:1≤k:=by omega
    have hkl:k≤l.length:=by omega
    obtain⟨L,hL⟩:∃L,L=l.length:=⟨_,rfl⟩
    rw[←hL]at c0 h1 h2 h3 hlt hge hgb hkl hls
    obtain⟨b,off,rfl,qF,hbw,-⟩:=h3.at_ (by omega)
    have hLc:=h2.1
    have hcm:=h2.2
    unfold maxLen at hcm
    have hbx:b≠x:=fun e=>h.apart (e▸qF)
    have htk:aj D w (some ⟨b,off,none⟩) k ((l.take k).map bv):=by
     have:=h3.take k
     rw[List.map_take]
     rwa [Nat.min_eq_right hkl]at this
    have Ce:=Lib.hid (yS (some ⟨b,off,none⟩) k c (l.take k) w (by omega) htk)
    have Qr:Hid ((l.take k).length=k):=by show _=_;rw[List.length_take];omega
    have RY:Hid ((l.drop k).length=L-k):=by show _=_;rw[List.length_drop,hL]
    have oQ:∀(w1:World) (A:Option Addr) (C:Nat),Iz w (l.take k) (.returned (.slice A k C)) w1→∀(R:Option Addr) (rc:Nat),nK (L-k) rc→(0<L-k→R=some ⟨b,off+k,none⟩)→
      Iy D w x (l.take k) (l.drop k,0) (.returned (.slice A k C)) (w1.setCell ⟨x,0,none⟩ (.slice R (L-k) rc)):=by
     intro w1 A C hret R rc hrc hR
     obtain⟨a1,cc,he,hc1,hr1,hb1⟩:=hret
     rw[Qr.out]at he hc1 hr1
     cases he
     have hx1:=(hb1.block x hxw).trans h1
     refine⟨A,C,by rw[Qr.out],by rw[Qr.out];exact hc1,?_,⟨⟨R,rc,?_,?_,?_⟩,h.apart,?_,by simp,fun z hz=>by rw[size_set];exact Nat.lt_of_lt_of_le (h.low z hz) hb1.size⟩,?_⟩
     ·rw[Qr.out]
      refine hr1.move (by rw[size_set];exact Nat.le_refl _) fun z hz hzw=>⟨⟨hz.1,by rw[size_set];exact hz.2⟩,bE w1 _ _ _ (fun e=> ?_)⟩
      have e':z=x:=e
      omega
     ·rw[aX hx1]
      simp only[RY.out]
      rfl
     ·rw[RY.out];exact hrc
     ·simp only[RY.out]
      have hdr:aj D w1 (some ⟨b,off+k,none⟩) (L-k) ((l.drop k).map bv):=by
       have:=(h3.drop k).below hb1 (Nat.le_refl _)
       rwa [←List.map_drop]at this
      have hdr2:aj D w1 R (L-k) ((l.drop k).map bv):=by
       by_cases hz:0<L-k
       ·rw[hR hz];exact hdr
       ·exact aj.zero R _ _ (by omega) (by rw[List.eq_nil_of_length_eq_zero (l:=l.drop k) (by rw[RY.out];omega)];rfl)
      exact hdr2.kept (by rw[size_set];exact Nat.le_refl _) fun z hz _=>bE w1 _ _ _ (fun(e:z=x)=>h.apart (e▸hz))
     ·show(l.drop k).length≤_
      rw[RY.out];omega
     ·exact((Keeps.below hb1).mono (fp':=fun z=>z=x) fun z hz hz'=>by omega).trans (Keeps.lN w1 ⟨x,0,none⟩ _) fun z _ hz=>hz
    have SH:=Lib.hid oQ
    clear oQ h h1 h2 h3 e1 YR hlt htk hL h0
    have b1:(1:Int)≤(k:Int):=by omega
    have b0:(0:Int)≤(k:Int):=by omega
    have b2:(k:Int)≤(c:Int):=by omega
    have b3:(k:Int)≤(L:Int):=by omega
    have d1:decide ((k:Int)<1)=false:=by simp;omega
    by_cases hcap:c=k
    ·obtain rfl:k=c:=hcap.symm
     go_enter Tryz.func90,Tryz.ntmps90
     go_wp2_with fail
     (with_reducible refine Ce.out.mono ?_)
     rintro e w1 hret
     obtain⟨A,C,rfl⟩:∃A C,e= .returned (.slice A k C):=by
      obtain⟨A,C,he,-⟩:=hret
      exact⟨A,C,by rw[he,Qr.out]⟩
     have UH:=Lib.hid hret
     have hb1:Below w.heap.size w w1:=by
      obtain⟨_,_,_,_,_,hb⟩:=hret
      exact hb
     have q0:w1.cell? ⟨x,0,none⟩=some (.slice (some ⟨b,off,none⟩) L k):=(hb1.cell (p:=⟨x,0,none⟩) hxw).trans c0
     have g0:w1.frozen? ⟨x,0,none⟩=false:=(hb1.frozen (p:=⟨x,0,none⟩) hxw).trans f0
     clear hret hb1 Ce
     go_wp2_with fail
     go_ret
     have hfin:=SH.out w1 A C UH.out (some ⟨b,off,none⟩) 0 ⟨by omega,Nat.zero_le _⟩ (fun hz=>by omega)
     rw[show L-k=0 by omega]at hfin
     exact hfin
    ·go_enter Tryz.func90,Tryz.ntmps90
     go_wp2_with fail
     (with_reducible refine Ce.out.mono ?_)
     rintro e w1 hret
     obtain⟨A,C,rfl⟩:∃A C,e= .returned (.slice A k C):=by
      obtain⟨A,C,he,-⟩:=hret
      exact⟨A,C,by rw[he,Qr.out]⟩
     have UH:=Lib.hid hret
     have hb1:Below w.heap.size w w1:=by
      obtain⟨_,_,_,_,_,hb⟩:=hret
      exact hb
     have q0:w1.cell? ⟨x,0,none⟩=some (.slice (some ⟨b,off,none⟩) L c):=(hb1.cell (p:=⟨x,0,none⟩) hxw).trans c0
     have g0:w1.frozen? ⟨x,0,none⟩=false:=(hb1.frozen (p:=⟨x,0,none⟩) hxw).trans f0
     clear hret hb1 Ce
     go_wp2_with fail
     go_ret
     exact SH.out w1 A C UH.out _ _ ⟨by omega,by unfold maxLen;omega⟩ (fun hz=>by first|rfl|omega)
 ·have e1:iV (l,y) n=([],(l,y)):=Av (s:=(l,y)) hy n
  rw[e1]
  have d1:(y==0)=false:=by simpa using hy
  have d2:(y !=0)=true:=by simpa using hy
  have HE:=Lib.hid h
  clear h h1 h2 h3 e1 hy
  go_enter Tryz.func90,Tryz.ntmps90
  go_wp2
  all_goals (first|(go_ret;exact row0 HE.out (Keeps.refl _ _))|((try simp only[Exit.inBlock,Exit.then]);refine bodyPost_ret (by rfl) rfl ?_;exact row0 HE.out (Keeps.refl _ _)))
theorem u64_or (n c:Int) (h0:0≤n) (h1:n<72057594037927936) (c0:0≤c) (c1:c<256):bits .or .u64 (n*256) c=n*256+c:=by
 obtain⟨a,rfl⟩:=Int.eq_ofNat_of_zero_le h0
 obtain⟨b,rfl⟩:=Int.eq_ofNat_of_zero_le c0
 have h:=bits_or_u64_nat (a*256) b (by omega) (by omega)
 rw[show((a:Int)*256)=((a*256:Nat):Int)by omega,h,nat_join8 _ _ (by omega) (by omega)]
 omega
theorem IB (s:Rd) (k:Nat):(iV s k).1.length≤k:=by
 unfold iV
 split
 ·simp
 ·split
  ·simp
  ·split
   ·simp
   ·simp only[List.length_take];omega
theorem Gl {l:List UInt8} (h:l.length≤8) (j:Nat) (hj:j<l.length):0≤p8 (l.take j)∧p8 (l.take j)<72057594037927936:=by
 obtain⟨h1,h2⟩:=p9 j (l.take j) (by rw[List.length_take];omega)
 refine⟨h1,Int.lt_of_lt_of_le h2 ?_⟩
 have h3:j≤7:=by omega
 have:j=0∨j=1∨j=2∨j=3∨j=4∨j=5∨j=6∨j=7:=by omega
 rcases this with h|h|h|h|h|h|h|h<;>subst h<;>decide
set_option maxHeartbeats 2000000 in
theorem Gm (h:aZ D w x s) (k:Nat) (hk:k≤8):Calls Tryz.prog 163 #[ptr x, .int .i64 k] w (wB D w x (.int .u64 (bg s k).1) (bg s k).2):=by
 have HR:=Lib.hid (Gj h (k:Int) (by omega) (by omega))
 have hlen:=IB s k
 unfold bg
 obtain⟨bs,hbs⟩:∃bs,bs=(iV s k).1:=⟨_,rfl⟩
 obtain⟨s',hs'⟩:∃s',s'=(iV s k).2:=⟨_,rfl⟩
 rw[←hbs,←hs']at HR
 rw[←hbs]at hlen
 rw[←hbs,←hs']
 have wJ:bs.length≤8:=by omega
 clear h hbs hs' hlen
 go_enter Tryz.func163,Tryz.ntmps163
 go_wp2_with fail
 (with_reducible refine HR.out.mono ?_)
 rintro e w1 ⟨a,c,rfl,hc1,hr1,kP,hK1⟩
 have HRW:=Lib.hid hr1
 have oQ:Hid (aZ D w1 x s'∧Keeps (fun b=>b=x) w w1):=⟨kP,hK1⟩
 obtain⟨L,hL⟩:∃L,L=bs.length:=⟨_,rfl⟩
 have Ho:=Lib.hid hL
 rw[←hL]at wJ HRW
 rw[←hL]
 clear hc1 hr1 kP hK1 HR hL
 go_wp2_with fail
 go_loop [5,12] (fun n i=>∃j:Nat,j≤L∧i= .int .i64 j∧n= .int .u64 (p8 (bs.take j))) (fun _ i=>L-(intOf i).toNat)
 case atStart=>exact⟨0,Nat.zero_le _,rfl,rfl⟩
 case round=>
  obtain⟨j,hj,rfl,rfl⟩:=hrel
  by_cases hlt:j<L
  ·obtain⟨b,off,rfl,_,hbw,hcc⟩:=HRW.out.at_ (by omega)
   have hll:=Ho.out
   obtain⟨v0,v1⟩:=Gl (l:=bs) (by omega) j (by omega)
   have hget:bs[j]? =some (bs[j]'(by omega)):=List.getElem?_eq_getElem (by omega)
   have htk:bs.take (j+1)=bs.take j++[bs[j]'(by omega)]:=List.take_succ_eq_append_getElem (by omega)
   obtain⟨cb,hcb⟩:∃cb,cb=bs[j]'(by omega):=⟨_,rfl⟩
   rw[←hcb]at hget htk
   have q:=hcc j hlt
   rw[List.getElem?_map,hget]at q
   have q1:w1.cell? ⟨b,off+j,none⟩=some (.int .u8 (cb.toNat:Int)):=q
   have HV:Hid (p8 (bs.take (j+1))=p8 (bs.take j)*256+(cb.toNat:Int)):=by
    show _=_
    rw[htk,uj]
   have hc2:(cb.toNat:Int)<256:=by have:=cb.toNat_lt;omega
   obtain⟨v,hv⟩:∃v,v=p8 (bs.take j):=⟨_,rfl⟩
   rw[←hv]at v0 v1 HV⊢
   have HO:Hid (bits .or .u64 (v*256) (cb.toNat:Int)=v*256+(cb.toNat:Int)):=u64_or v _ v0 v1 (by omega) hc2
   clear hll hget htk hcb q hcc hv
   go_wp2
   go_round
   case rel=>exact⟨j+1,by omega,by go_num,by rw[HV.out,←HO.out]⟩
   case measure=>simp[intOf];omega
  ·obtain rfl:j=L:=by omega
   have hall:bs.take j=bs:=by rw[List.take_of_length_le (by have:=Ho.out;omega)]
   rw[hall]
   clear hall
   go_wp2
   go_ret
   exact⟨rfl,oQ.out⟩
theorem nu (h:aZ D w x s):Calls Tryz.prog 164 #[ptr x] w (wB D w x (.int .i64 (bg s 2).1) (bg s 2).2):=by
 have HG:Hid (Calls Tryz.prog 163 #[ptr x, .int .i64 2] w (wB D w x (.int .u64 (bg s 2).1) (bg s 2).2)):=Gm h 2 (by omega)
 obtain⟨n0,n1⟩:=fT s 2
 have e1:IntKind.i64.wrap (bg s 2).1=(bg s 2).1:=IntWalk.i64_in _ (by have:(256:Int)^2=65536:=rfl;omega)
 generalize (bg s 2).1=v at*
 generalize (bg s 2).2=s' at*
 clear h n1
 go_enter Tryz.func164,Tryz.ntmps164
 go_wp2_with fail
 (with_reducible refine HG.out.mono ?_)
 rintro e w1 ⟨rfl,kP⟩
 have HR1:=Lib.hid kP
 clear kP
 go_wp2_with fail
 go_ret
 exact⟨rfl,HR1.out⟩
theorem BL (h:aZ D w x s):Calls Tryz.prog 169 #[ptr x] w (wB D w x (.int .i64 (bg s 1).1) (bg s 1).2):=by
 have HG:Hid (Calls Tryz.prog 163 #[ptr x, .int .i64 1] w (wB D w x (.int .u64 (bg s 1).1) (bg s 1).2)):=Gm h 1 (by omega)
 obtain⟨n0,n1⟩:=fT s 1
 have e1:IntKind.i64.wrap (bg s 1).1=(bg s 1).1:=IntWalk.i64_in _ (by have:(256:Int)^1=256:=rfl;omega)
 generalize (bg s 1).1=v at*
 generalize (bg s 1).2=s' at*
 clear h n1
 go_enter Tryz.func169,Tryz.ntmps169
 go_wp2_with fail
 (with_reducible refine HG.out.mono ?_)
 rintro e w1 ⟨rfl,kP⟩
 have HR1:=Lib.hid kP
 clear kP
 go_wp2_with fail
 go_ret
 exact⟨rfl,HR1.out⟩
theorem IC (h:aZ D w x s):Calls Tryz.prog 87 #[ptr x] w (wB D w x (.int .u64 (bg s 8).1) (bg s 8).2):=by
 have HG:Hid (Calls Tryz.prog 163 #[ptr x, .int .i64 8] w (wB D w x (.int .u64 (bg s 8).1) (bg s 8).2)):=Gm h 8 (by omega)
 generalize (bg s 8).1=v at*
 generalize (bg s 8).2=s' at*
 clear h
 go_enter Tryz.func87,Tryz.ntmps87
 go_wp2_with fail
 (with_reducible refine HG.out.mono ?_)
 rintro e w1 ⟨rfl,kP⟩
 have HR1:=Lib.hid kP
 clear kP
 go_wp2_with fail
 go_ret
 exact⟨rfl,HR1.out⟩
theorem uo (h:aZ D w x s):Calls Tryz.prog 168 #[ptr x] w (Iy D w x (aI s).1 (aI s).2):=by
 have HS:=Lib.hid (nu h)
 obtain⟨n0,n1⟩:=fT s 2
 have n2:(bg s 2).1≤9223372036854775807:=by have:(256:Int)^2=65536:=rfl;omega
 unfold aI
 generalize (bg s 2).1=v at*
 generalize (bg s 2).2=s1 at*
 clear h n1
 go_enter Tryz.func168,Tryz.ntmps168
 go_wp2_with fail
 (with_reducible refine HS.out.mono ?_)
 rintro e w1 ⟨rfl,kP,hK1⟩
 have HR:=Lib.hid (Gj kP v n0 n2)
 have HK:=Lib.hid hK1
 clear kP hK1
 go_wp2_with fail
 (with_reducible refine HR.out.mono ?_)
 rintro e w2 ⟨a,c,rfl,hc2,hr2,hR2,hK2⟩
 have HR2:Hid (nK (iV s1 v).1.length c∧aj (fun b=>w1.heap.size≤b∧b<w2.heap.size) w2 a (iV s1 v).1.length ((iV s1 v).1.map bv)∧aZ D w2 x (iV s1 v).2∧Keeps (fun b=>b=x) w1 w2):=⟨hc2,hr2,hR2,hK2⟩
 clear hc2 hr2 hR2 hK2
 go_wp2_with fail
 go_ret
 obtain⟨g1,g2,g3,g4⟩:=HR2.out
 exact⟨a,c,rfl,g1,g2.mono fun b hb=>⟨Nat.le_trans HK.out.size hb.1,hb.2⟩,g3,HK.out.trans g4 fun b _ hb=>hb⟩
theorem IE (h:aZ D w x s):Calls Tryz.prog 89 #[ptr x] w fun e w'=>e= .returned (.int .i64 (kT s:Int))∧w=w':=by
 obtain⟨l,y⟩:=s
 obtain⟨a,c,h1,h2,h3⟩:=h.head
 have c0:w.cell? ⟨x,0,none⟩=some (.slice a l.length c):=by simp[World.cell?,h1]
 have c1:w.cell? ⟨x,1,none⟩=some (.int .i64 y):=by simp[World.cell?,h1]
 by_cases hy:y=0
 ·subst hy
  have e1:kT (l,0)=l.length:=by unfold kT;rw[if_neg (by simp)]
  rw[e1]
  clear h h1 h2 h3 e1
  go_enter Tryz.func89,Tryz.ntmps89
  go_wp2
  go_ret
  exact⟨rfl,rfl⟩
 ·have e1:kT (l,y)=0:=by unfold kT;rw[if_pos hy]
  rw[e1]
  have d1:(y !=0)=true:=by simpa using hy
  clear h h1 h2 h3 e1 hy
  go_enter Tryz.func89,Tryz.ntmps89
  go_wp2
  go_ret
  exact⟨rfl,rfl⟩
theorem BM (h:aZ D w x s):Calls Tryz.prog 166 #[ptr x] w fun e w'=>e= .returned (.int .i64 (nG s))∧w=w':=by
 obtain⟨l,y⟩:=s
 obtain⟨a,c,h1,h2,h3⟩:=h.head
 have c0:w.cell? ⟨x,0,none⟩=some (.slice a l.length c):=by simp[World.cell?,h1]
 have c1:w.cell? ⟨x,1,none⟩=some (.int .i64 y):=by simp[World.cell?,h1]
 by_cases hy:y=0
 ·subst hy
  by_cases hl:0<l.length
  ·have e1:nG (l,0)=11:=by unfold nG;rw[if_pos ⟨rfl,hl⟩]
   rw[e1]
   have d1:decide ((0:Int)<(l.length:Int))=true:=by simp;omega
   clear h h1 h2 h3 e1
   go_enter Tryz.func166,Tryz.ntmps166
   go_wp2
   go_ret
   exact⟨rfl,rfl⟩
  ·obtain rfl:l=[]:=List.eq_nil_of_length_eq_zero (by omega)
   have e1:nG ([],0)=0:=rfl
   rw[e1]
   clear h h1 h2 h3 e1
   go_enter Tryz.func166,Tryz.ntmps166
   go_wp2
   go_ret
   exact⟨rfl,rfl⟩
 ·have e1:nG (l,y)=y:=by unfold nG;rw[if_neg (fun hh=>hy hh.1)]
  rw[e1]
  have d1:(y==0)=false:=by simpa using hy
  clear h h1 h2 h3 e1 hy
  go_enter Tryz.func166,Tryz.ntmps166
  go_wp2
  go_ret
  exact⟨rfl,rfl⟩
theorem Rb (h:aZ D w x s):Calls Tryz.prog 221 #[ptr x] w (wB D w x (.bool (qm s).1) (qm s).2):=by
 have HB:=Lib.hid (BL h)
 obtain⟨n0,n1⟩:=fT s 1
 unfold qm
 generalize (bg s 1).1=v at*
 generalize (bg s 1).2=s1 at*
 clear h n1
 by_cases h1:1<v
 ·rw[if_pos h1]
  have e1:decide (v=1)=false:=by simp;omega
  have e2:(v==1)=false:=by simp;omega
  rw[e1]
  clear e1
  go_enter Tryz.func221,Tryz.ntmps221
  go_wp2_with fail
  (with_reducible refine HB.out.mono ?_)
  rintro e w1 ⟨rfl,kP,hK1⟩
  obtain⟨l,y⟩:=s1
  obtain⟨a,c,q1,q2,q3⟩:=kP.head
  have f1:w1.frozen? ⟨x,1,none⟩=false:=by simp[World.frozen?,q1]
  have c1:w1.cell? ⟨x,1,none⟩=some (.int .i64 y):=by simp[World.cell?,q1]
  have HE:Hid (aZ D (w1.setCell ⟨x,1,none⟩ (.int .i64 12)) x (l,12)):=by
   refine⟨⟨a,c,?_,q2,?_⟩,kP.apart,kP.small,by simp,fun b hb=>by rw[size_set];exact kP.low b hb⟩
   ·rw[aX q1];rfl
   ·exact q3.kept (by rw[size_set];exact Nat.le_refl _) fun b hb _=>bE w1 _ _ _ (fun(e:b=x)=>kP.apart (e▸hb))
  have HK:=Lib.hid hK1
  clear kP hK1 q1 q2 q3 HB
  go_wp2_with fail
  go_ret
  exact⟨rfl,HE.out,HK.out.trans (Keeps.lN w1 ⟨x,1,none⟩ _) fun b _ hb=>hb⟩
 ·rw[if_neg h1]
  have e0:decide (v=1)=(v==1):=by by_cases hv:v=1<;>simp[hv]
  rw[e0]
  clear e0
  go_enter Tryz.func221,Tryz.ntmps221
  go_wp2_with fail
  (with_reducible refine HB.out.mono ?_)
  rintro e w1 ⟨rfl,kP,hK1⟩
  have HE:Hid (aZ D w1 x s1∧Keeps (fun b=>b=x) w w1):=⟨kP,hK1⟩
  clear kP hK1 HB
  go_wp2_with fail
  go_ret
  exact⟨rfl,HE.out⟩
end
def UJ (n:Ir):Array Value:= #[.int .i64 n.id, .int .i64 n.kind, .int .i64 n.links, .int .i64 n.size, .int .u64 n.au, .bool n.closed]
set_option maxHeartbeats 4000000 in
theorem Gn (n:Ir) (h:KF n) (w:World):Calls Tryz.prog 187 #[.agg (UJ n)] w fun e w'=>e= .returned (.bool (decide (iQ n)))∧Below w.heap.size w w':=by
 obtain⟨id,kind,links,size,au,closed⟩:=n
 obtain⟨⟨i0,i1⟩,⟨k0,k1⟩,⟨l0,l1⟩,⟨s0,s1⟩,⟨t0,t1⟩⟩:=h
 dsimp only at i0 i1 k0 k1 l0 l1 s0 s1 t0 t1
 have d1:decide (id<0)=false:=by simpa using i0
 have d2:decide (65535<id)=false:=by simpa using i1
 have d3:decide (links<0)=false:=by simpa using l0
 have d4:decide (65535<links)=false:=by simpa using l1
 have d7:decide ((0:Int)≤size)=true:=by simpa using s0
 have n1:¬id<0:=by omega
 have n2:¬65535<id:=by omega
 have n3:¬links<0:=by omega
 have n4:¬65535<links:=by omega
 unfold UJ
 dsimp only
 by_cases h1:kind=1
 ·subst h1
  by_cases q1:size≤4096
  ·have c1:decide (size≤4096)=true:=decide_eq_true q1
   by_cases q2:au≤1099511627776
   ·have c2:decide (au≤1099511627776)=true:=decide_eq_true q2
    rw[decide_eq_true (show iQ ⟨id,1,links,size,au,closed⟩from .inl ⟨rfl,q1,q2⟩)]
    go_enter Tryz.func187,Tryz.ntmps187
    go_wp2
    all_goals (first|(go_ret;exact⟨rfl,wall w _⟩)|((try simp only[Exit.inBlock,Exit.then]);refine bodyPost_ret (by rfl) rfl ?_;exact⟨rfl,wall w _⟩))
   ·have c2:decide (au≤1099511627776)=false:=decide_eq_false q2
    rw[decide_eq_false (show ¬iQ ⟨id,1,links,size,au,closed⟩from fun h=>by
     rcases h with h|h
     ·exact q2 h.2.2
     ·exact absurd (show(1:Int)=2 from h.1) (by decide))]
    go_enter Tryz.func187,Tryz.ntmps187
    go_wp2
    all_goals (first|(go_ret;exact⟨rfl,wall w _⟩)|((try simp only[Exit.inBlock,Exit.then]);refine bodyPost_ret (by rfl) rfl ?_;exact⟨rfl,wall w _⟩))
  ·have c1:decide (size≤4096)=false:=decide_eq_false q1
   rw[decide_eq_false (show ¬iQ ⟨id,1,links,size,au,closed⟩from fun h=>by
    rcases h with h|h
    ·exact q1 h.2.1
    ·exact absurd (show(1:Int)=2 from h.1) (by decide))]
   go_enter Tryz.func187,Tryz.ntmps187
   go_wp2
   all_goals (first|(go_ret;exact⟨rfl,wall w _⟩)|((try simp only[Exit.inBlock,Exit.then]);refine bodyPost_ret (by rfl) rfl ?_;exact⟨rfl,wall w _⟩))
 ·have g1:(kind==1)=false:=by simpa using h1
  by_cases h2:kind=2
  ·subst h2
   by_cases q1:size=0
   ·subst q1
    by_cases q2:au=0
    ·subst q2
     cases closed
     ·rw[decide_eq_false (show ¬iQ ⟨id,2,links,0,0,false⟩from fun h=>by
       rcases h with h|h
       ·exact absurd (show(2:Int)=1 from h.1) (by decide)
       ·exact absurd (show false=true from h.2.2.2) (by decide))]
      go_enter Tryz.func187,Tryz.ntmps187
      go_wp2
      all_goals (first|(go_ret;exact⟨rfl,wall w _⟩)|((try simp only[Exit.inBlock,Exit.then]);refine bodyPost_ret (by rfl) rfl ?_;exact⟨rfl,wall w _⟩))
     ·rw[decide_eq_true (show iQ ⟨id,2,links,0,0,true⟩from .inr ⟨rfl,rfl,rfl,rfl⟩)]
      go_enter Tryz.func187,Tryz.ntmps187
      go_wp2
      all_goals (first|(go_ret;exact⟨rfl,wall w _⟩)|((try simp only[Exit.inBlock,Exit.then]);refine bodyPost_ret (by rfl) rfl ?_;exact⟨rfl,wall w _⟩))
    ·have g2:(au==0)=false:=by simpa using q2
     rw[decide_eq_false (show ¬iQ ⟨id,2,links,0,au,closed⟩from fun h=>by
      rcases h with h|h
      ·exact absurd (show(2:Int)=1 from h.1) (by decide)
      ·exact q2 h.2.2.1)]
     go_enter Tryz.func187,Tryz.ntmps187
     go_wp2
     all_goals (first|(go_ret;exact⟨rfl,wall w _⟩)|((try simp only[Exit.inBlock,Exit.then]);refine bodyPost_ret (by rfl) rfl ?_;exact⟨rfl,wall w _⟩))
   ·have g2:(size==0)=false:=by simpa using q1
    rw[decide_eq_false (show ¬iQ ⟨id,2,links,size,au,closed⟩from fun h=>by
     rcases h with h|h
     ·exact absurd (show(2:Int)=1 from h.1) (by decide)
     ·exact q1 h.2.1)]
    go_enter Tryz.func187,Tryz.ntmps187
    go_wp2
    all_goals (first|(go_ret;exact⟨rfl,wall w _⟩)|((try simp only[Exit.inBlock,Exit.then]);refine bodyPost_ret (by rfl) rfl ?_;exact⟨rfl,wall w _⟩))
  ·have g2:(kind==2)=false:=by simpa using h2
   rw[decide_eq_false (show ¬iQ ⟨id,kind,links,size,au,closed⟩from fun h=>by
    rcases h with h|h
    ·exact h1 h.1
    ·exact h2 h.1)]
   go_enter Tryz.func187,Tryz.ntmps187
   go_wp2
   all_goals (first|(go_ret;exact⟨rfl,wall w _⟩)|((try simp only[Exit.inBlock,Exit.then]);refine bodyPost_ret (by rfl) rfl ?_;exact⟨rfl,wall w _⟩))
theorem qY {w w':World} {x B:Nat} (hK:Keeps (fun b=>b=x) w w') (hx:B≤x) (hB:B≤w.heap.size):Below B w w':=hK.gP hB fun b hb e=>by
 have e':b=x:=e
 omega
set_option maxRecDepth 100000 in
set_option maxHeartbeats 8000000 in
theorem Gp {S:Nat→Prop} (a:Option Addr) (n c:Nat) (bs:List UInt8) (w:World) (hm:n≤100000000) (hr:aj S w a n (bs.map bv)):
  Calls Tryz.prog 207 #[.slice a n c] w fun e w'=>e= .returned (.tuple #[.agg (UJ (bN bs).1), .int .i64 (bN bs).2])∧Below w.heap.size w w':=by
 obtain⟨w1,hw1⟩:∃w1,w1=w.alloc (.cells jc 34):=⟨_,rfl⟩
 have hb1:Below w.heap.size w w1:=by rw[hw1];exact wall w _
 have hre:w1.heap[w.heap.size]? =some (.cells jc 34 (0,0)):=by rw[hw1];exact(MapKept.heap_alloc w _).1
 have hs1:w1.heap.size=w.heap.size+1:=by rw[hw1];simp
 have HN:=Lib.hid (oq a n c bs w1 hm (hr.below hb1 (Nat.le_refl _)))
 have HW1:=Lib.hid hw1
 have HB1:=Lib.hid hb1
 have mg:=Lib.hid hre
 have IG:Hid (jD bs=jD bs):=Lib.hid rfl
 have fu:=Lib.hid (qb bs)
 clear hr hb1 hre hw1 hs1
 conv at IG=>arg 1;rhs;unfold jD;dsimp only
 unfold jD at fu
 dsimp only at fu
 go_enter Tryz.func207,Tryz.ntmps207
 go_wp2_with fail
 rw[show w.alloc (.cells #[.int .i64 0, .int .i64 0, .int .i64 0, .int .i64 0, .int .u64 0, .bool false] 34)=w1 from HW1.out.symm]
 (with_reducible refine HN.out.mono ?_)
 rintro e w2 ⟨x,rfl,hx,hR2,hb2⟩
 have HX:=Lib.hid hx
 have HR2:=Lib.hid hR2
 have HB2:=Lib.hid hb2
 clear hx hR2 hb2 HN
 obtain⟨D,hD⟩:∃D:Nat→Prop,D=fun b=>w1.heap.size≤b∧b<x:=⟨_,rfl⟩
 rw[←hD]at HR2
 clear hD
 have HC0:=Lib.hid (nu HR2.out)
 obtain⟨v0,hv0⟩:∃v,v=(bg (bs,0) 2).1:=⟨_,rfl⟩
 obtain⟨s0,hs0⟩:∃s,s=(bg (bs,0) 2).2:=⟨_,rfl⟩
 rw[←hv0,←hs0]at HC0
 rw[←hv0,←hs0]at IG
 rw[←hv0]at fu
 (try rw[←hs0]at fu)
 clear hv0 hs0
 go_wp2_with fail
 (with_reducible refine HC0.out.mono ?_)
 rintro e w3 ⟨rfl,hR,hK⟩
 have HR3:=Lib.hid hR
 have HB3:=Lib.hid (HB2.out.trans (qY hK HX.out HB2.out.size))
 clear hR hK HC0
 have AA:=Lib.hid (BL HR3.out)
 obtain⟨v1,hv1⟩:∃v,v=(bg s0 1).1:=⟨_,rfl⟩
 obtain⟨s1,hs1⟩:∃s,s=(bg s0 1).2:=⟨_,rfl⟩
 rw[←hv1,←hs1]at AA
 rw[←hv1,←hs1]at IG
 rw[←hv1]at fu
 (try rw[←hs1]at fu)
 clear hv1 hs1
 go_wp2_with fail
 (with_reducible refine AA.out.mono ?_)
 rintro e w4 ⟨rfl,hR,hK⟩
 have HR4:=Lib.hid hR
 have iq:=Lib.hid (HB3.out.trans (qY hK HX.out HB3.out.size))
 clear hR hK AA
 have qA:=Lib.hid (nu HR4.out)
 obtain⟨v2,hv2⟩:∃v,v=(bg s1 2).1:=⟨_,rfl⟩
 obtain⟨s2,hs2⟩:∃s,s=(bg s1 2).2:=⟨_,rfl⟩
 rw[←hv2,←hs2]at qA
 rw[←hv2,←hs2]at IG
 rw[←hv2]at fu
 (try rw[←hs2]at fu)
 clear hv2 hs2
 go_wp2_with fail
 (with_reducible refine qA.out.mono ?_)
 rintro e w5 ⟨rfl,hR,hK⟩
 have oO:=Lib.hid hR
 have jI:=Lib.hid (iq.out.trans (qY hK HX.out iq.out.size))
 clear hR hK qA
 have J2:=Lib.hid (nu oO.out)
 obtain⟨v3,hv3⟩:∃v,v=(bg s2 2).1:=⟨_,rfl⟩
 obtain⟨s3,hs3⟩:∃s,s=(bg s2 2).2:=⟨_,rfl⟩
 rw[←hv3,←hs3]at J2
 rw[←hv3,←hs3]at IG
 rw[←hv3]at fu
 (try rw[←hs3]at fu)
 clear hv3 hs3
 go_wp2_with fail
 (with_reducible refine J2.out.mono ?_)
 rintro e w6 ⟨rfl,hR,hK⟩
 have EF:=Lib.hid hR
 have rH:=Lib.hid (jI.out.trans (qY hK HX.out jI.out.size))
 clear hR hK J2
 have Rc:=Lib.hid (IC EF.out)
 obtain⟨v4,hv4⟩:∃v,v=(bg s3 8).1:=⟨_,rfl⟩
 obtain⟨s4,hs4⟩:∃s,s=(bg s3 8).2:=⟨_,rfl⟩
 rw[←hv4,←hs4]at Rc
 rw[←hv4,←hs4]at IG
 rw[←hv4]at fu
 (try rw[←hs4]at fu)
 clear hv4 hs4
 go_wp2_with fail
 (with_reducible refine Rc.out.mono ?_)
 rintro e w7 ⟨rfl,hR,hK⟩
 have Vy:=Lib.hid hR
 have A_:=Lib.hid (rH.out.trans (qY hK HX.out rH.out.size))
 clear hR hK Rc
 have UK:=Lib.hid (Rb Vy.out)
 obtain⟨v5,hv5⟩:∃v,v=(qm s4).1:=⟨_,rfl⟩
 obtain⟨s5,hs5⟩:∃s,s=(qm s4).2:=⟨_,rfl⟩
 rw[←hv5,←hs5]at UK
 rw[←hv5,←hs5]at IG
 rw[←hv5]at fu
 (try rw[←hs5]at fu)
 clear hv5 hs5
 go_wp2_with fail
 (with_reducible refine UK.out.mono ?_)
 rintro e w8 ⟨rfl,hR,hK⟩
 have JX:=Lib.hid hR
 have wQ:=Lib.hid (A_.out.trans (qY hK HX.out A_.out.size))
 clear hR hK UK
 obtain⟨N,hN⟩:∃N:Ir,N=⟨v0,v1,v2,v3,v4,v5⟩:=⟨_,rfl⟩
 rw[←hN]at IG fu
 have gF:=Lib.hid hN
 clear hN
 have hsz:=wQ.out.size
 obtain⟨w9,Ug⟩:∃w9,w9=w8.alloc (.cells (UJ N) 34):=⟨_,rfl⟩
 have fM:Below w8.heap.size w8 w9:=by rw[Ug];exact wall w8 _
 have hnd:w9.heap[w8.heap.size]? =some (.cells (UJ N) 34 (0,0)):=by rw[Ug];exact(MapKept.heap_alloc w8 _).1
 have XM:Hid (w9=w8.alloc (.cells #[.int .i64 v0, .int .i64 v1, .int .i64 v2, .int .i64 v3, .int .u64 v4, .bool v5] 34)):=by rw[Ug,gF.out];exact Lib.hid rfl
 have qz:=Lib.hid (wQ.out.trans (fM.mono wQ.out.size))
 have Rf:=Lib.hid ((qz.out.block _ (Array.getElem?_eq_some_iff.1 mg.out).1).trans mg.out)
 have HE:=Lib.hid (BM (JX.out.below fM (Nat.le_refl _)))
 have I9:=Lib.hid hnd
 obtain⟨z,hz⟩:∃z,z=nG s5:=⟨_,rfl⟩
 rw[←hz]at HE
 have HZ:=Lib.hid hz
 clear Ug fM hnd hz
 have qn:∀j,w9.cell? ⟨w8.heap.size,j,none⟩=(UJ N)[j]? :=fun j=>bY I9.out j
 have q0:w9.cell? ⟨w8.heap.size,0,none⟩=some (.int .i64 v0):=by rw[qn,gF.out];rfl
 have q1:w9.cell? ⟨w8.heap.size,1,none⟩=some (.int .i64 v1):=by rw[qn,gF.out];rfl
 have q2:w9.cell? ⟨w8.heap.size,2,none⟩=some (.int .i64 v2):=by rw[qn,gF.out];rfl
 have q3:w9.cell? ⟨w8.heap.size,3,none⟩=some (.int .i64 v3):=by rw[qn,gF.out];rfl
 have q4:w9.cell? ⟨w8.heap.size,4,none⟩=some (.int .u64 v4):=by rw[qn,gF.out];rfl
 have q5:w9.cell? ⟨w8.heap.size,5,none⟩=some (.bool v5):=by rw[qn,gF.out];rfl
 clear qn
 have KM:Hid (∀w',Calls Tryz.prog 187 #[.agg #[.int .i64 v0, .int .i64 v1, .int .i64 v2, .int .i64 v3, .int .u64 v4, .bool v5]] w' fun e w''=>e= .returned (.bool (decide (iQ N)))∧Below w'.heap.size w' w''):=fun w'=>by
  have:=Gn N fu.out w'
  rw[gF.out]at this
  rw[gF.out]
  exact this
 have nD:=(Array.getElem?_eq_some_iff.1 I9.out).1
 have R7:=(Array.getElem?_eq_some_iff.1 Rf.out).1
 go_wp2_with fail
 rw[←XM.out]
 by_cases hz:z=0
 ·subst hz
  by_cases hr:iQ N
  ·have HD:Hid (bN bs=(N,0)):=by
    show _=_
    unfold bN
    rw[IG.out,if_pos ⟨HZ.out.symm,hr⟩]
   rw[decide_eq_true hr]at KM
   clear hr IG
   (with_reducible refine HE.out.mono ?_)
   rintro e _ ⟨rfl,rfl⟩
   go_wp2_with fail
   (with_reducible refine(KM.out _).mono ?_)
   rintro e Cb ⟨rfl,qR⟩
   have OJ:=Lib.hid ((qR.block _ R7).trans Rf.out)
   have Fy:=Lib.hid (HB1.out.trans ((qz.out.trans (qR.mono qz.out.size)).mono HB1.out.size))
   have r0:Cb.cell? ⟨w8.heap.size,0,none⟩=some (.int .i64 v0):=(qR.cell (p:=⟨w8.heap.size,0,none⟩) nD).trans q0
   have r1:Cb.cell? ⟨w8.heap.size,1,none⟩=some (.int .i64 v1):=(qR.cell (p:=⟨w8.heap.size,1,none⟩) nD).trans q1
   have r2:Cb.cell? ⟨w8.heap.size,2,none⟩=some (.int .i64 v2):=(qR.cell (p:=⟨w8.heap.size,2,none⟩) nD).trans q2
   have r3:Cb.cell? ⟨w8.heap.size,3,none⟩=some (.int .i64 v3):=(qR.cell (p:=⟨w8.heap.size,3,none⟩) nD).trans q3
   have r4:Cb.cell? ⟨w8.heap.size,4,none⟩=some (.int .u64 v4):=(qR.cell (p:=⟨w8.heap.size,4,none⟩) nD).trans q4
   have r5:Cb.cell? ⟨w8.heap.size,5,none⟩=some (.bool v5):=(qR.cell (p:=⟨w8.heap.size,5,none⟩) nD).trans q5
   clear qR KM HE q0 q1 q2 q3 q4 q5
   go_wp2_with (refine ak (by rfl) 34 _ _ (by rfl) w.heap.size #[.int .i64 v0, .int .i64 v1, .int .i64 v2, .int .i64 v3, .int .u64 v4, .bool v5] (by rfl) (by rfl) _ OJ.out mY rfl (by simp[Value.oneCell']) ?_;intro ZB El;have Em:=Lib.hid El;clear El)
   refine oP rfl rfl rfl rfl Em.out.1 rfl ?_
   rw[HD.out,gF.out]
   exact⟨rfl,Em.out.below Fy.out (Nat.le_refl _)⟩
  ·have HD:Hid (bN bs=(OC,12)):=by
    show _=_
    unfold bN
    rw[IG.out,if_neg fun h=>hr h.2]
   rw[decide_eq_false hr]at KM
   clear hr IG
   (with_reducible refine HE.out.mono ?_)
   rintro e _ ⟨rfl,rfl⟩
   go_wp2_with fail
   (with_reducible refine(KM.out _).mono ?_)
   rintro e Cb ⟨rfl,qR⟩
   have OJ:=Lib.hid ((qR.block _ R7).trans Rf.out)
   have Fy:=Lib.hid (HB1.out.trans ((qz.out.trans (qR.mono qz.out.size)).mono HB1.out.size))
   clear qR KM HE q0 q1 q2 q3 q4 q5
   go_wp2_with (refine ak (by rfl) 34 _ _ (by rfl) w.heap.size jc (by rfl) (by rfl) _ OJ.out mY rfl (by simp[jc,Value.oneCell']) ?_;intro ZB El;have Em:=Lib.hid El;clear El)
   (try simp only[Exit.inBlock,Exit.then])
   refine oP rfl rfl rfl rfl Em.out.1 rfl ?_
   rw[HD.out]
   exact⟨rfl,Em.out.below Fy.out (Nat.le_refl _)⟩
 ·have hz2:(z !=0)=true:=by simpa using hz
  have HD:Hid (bN bs=(OC,12)):=by
   show _=_
   unfold bN
   rw[IG.out,if_neg fun h=>hz (HZ.out.trans h.1)]
  have Fy:=Lib.hid (HB1.out.trans (qz.out.mono HB1.out.size))
  clear hz IG KM q0 q1 q2 q3 q4 q5
  (with_reducible refine HE.out.mono ?_)
  rintro e _ ⟨rfl,rfl⟩
  go_wp2_with (refine ak (by rfl) 34 _ _ (by rfl) w.heap.size jc (by rfl) (by rfl) _ Rf.out mY rfl (by simp[jc,Value.oneCell']) ?_;intro ZB El;have Em:=Lib.hid El;clear El)
  (try simp only[Exit.inBlock,Exit.then])
  refine oP rfl rfl rfl rfl Em.out.1 rfl ?_
  rw[HD.out]
  exact⟨rfl,Em.out.below Fy.out (Nat.le_refl _)⟩
end Go.Proofs.YtmabllemjkcobaaGreatDoor
