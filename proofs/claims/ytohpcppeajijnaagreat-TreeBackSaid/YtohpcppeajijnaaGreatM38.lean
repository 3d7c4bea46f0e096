/- package codec: the reader. What Load of package tree reads, plainly. -/
import Derived.Test.YtohpcppeajijnaaGreatM37
import Derived.Test.YtohpcppeajijnaaGreatM12
import Derived.WalkLawsBesides
namespace Go.Proofs.YtohpcppeajijnaaGreat
open Go.ChangeShapes Go.WideShapes Go.ChangeAt Go.RowKit
set_option linter.unusedVariables false
set_option linter.unusedSimpArgs false
structure bJ (D:Nat→Prop) (w:World) (x:Nat) (s:Rd):Prop where
 head:∃a c,w.heap[x]? =some (.cells #[.slice a s.1.length c, .int .i64 s.2] 200 (0,0))∧kH s.1.length c∧av D w a s.1.length (s.1.map bv)
 apart:¬D x
 small:s.1.length≤100000000
 why:0≤s.2∧s.2≤100
 low:∀b,D b→b<w.heap.size
def ES (D:Nat→Prop) (w:World) (x:Nat) (bs:List UInt8) (s':Rd) (e:Ending) (w':World):Prop:=
 ∃a c,e= .returned (.slice a bs.length c)∧kH bs.length c∧av (fun b=>w.heap.size≤b∧b<w'.heap.size) w' a bs.length (bs.map bv)∧bJ D w' x s'∧Keeps (fun b=>b=x) w w'
def uY (D:Nat→Prop) (w:World) (x:Nat) (v:Value) (s':Rd) (e:Ending) (w':World):Prop:=
 e= .returned v∧bJ D w' x s'∧Keeps (fun b=>b=x) w w'
section
variable {D:Nat→Prop} {x:Nat} {w w1 w2:World} {s s1 s2:Rd}
theorem bJ.lt (h:bJ D w x s):x<w.heap.size:=by
 obtain⟨a,c,h1,_⟩:=h.head
 exact(Array.getElem?_eq_some_iff.1 h1).1
theorem bJ.kept (h:bJ D w x s) (hs:w.heap.size≤w1.heap.size) (hx:w1.heap[x]? =w.heap[x]?) (hD:∀b,D b→b<w.heap.size→w1.heap[b]? =w.heap[b]?):bJ D w1 x s:=by
 obtain⟨⟨a,c,h1,h2,h3⟩,h4,h5,h6,h7⟩:=h
 exact⟨⟨a,c,hx.trans h1,h2,h3.kept hs hD⟩,h4,h5,h6,fun b hb=>Nat.lt_of_lt_of_le (h7 b hb) hs⟩
theorem bJ.below {B:Nat} (h:bJ D w x s) (hb:Below B w w1) (hB:w.heap.size≤B):bJ D w1 x s:=
 h.kept hb.size (hb.block x (by have:=h.lt;omega)) fun b _ hb'=>hb.block b (by omega)
end
theorem Lr {w:World} {base:Nat} {e:TypeId} {a:Option Addr} {m c n:Nat} {xs:List Value} (h:w.ownsRow base e 1 (.slice a m c) n xs):kH n c:=by
 obtain⟨h0,h⟩:=h
 rcases h with⟨h1,rfl⟩|⟨g,cap,cur,h1,_,_,h3,h4,_⟩
 ·simp only[Value.slice.injEq]at h1
  obtain⟨_,_,rfl⟩:=h1
  exact⟨Nat.zero_le _,Nat.zero_le _⟩
 ·simp only[Value.slice.injEq]at h1
  obtain⟨_,_,rfl⟩:=h1
  exact⟨h3,h4⟩
def ET (w:World) (bs:List UInt8) (e:Ending) (w':World):Prop:=
 ∃a c,e= .returned (.slice a bs.length c)∧kH bs.length c∧av (fun x=>w.heap.size≤x∧x<w'.heap.size) w' a bs.length (bs.map bv)∧Below w.heap.size w w'
set_option maxHeartbeats 1000000 in
theorem xA {S:Nat→Prop} (a:Option Addr) (n cap:Nat) (bs:List UInt8) (w:World) (hm:n≤1000000000) (hr:av S w a n (bs.map bv)):
  Calls Tryz.prog 105 #[.slice a n cap] w (ET w bs):=by
 obtain⟨i0,hi,hz0,hz1,hz2⟩:=info_parts Tryz.Ec
 have hll:bs.length=n:=by have:=hr.length;simpa using this
 have heq:=fun w=>Lib.run_eql_slice_nil (P:=Tryz.prog) w 39 5 a n cap 0 0 Tryz.underlying39
 have HR:=Lib.hid hr
 have HL:=Lib.hid hll
 clear hr hll
 cases a with
 |none=>
  have h0:n=0:=by
   rcases Nat.eq_zero_or_pos n with h0|h0
   ·exact h0
   ·obtain⟨_,_,e,_⟩:=HR.out.at_ h0
    cases e
  subst h0
  have hb0:bs=[]:=List.eq_nil_of_length_eq_zero HL.out
  subst hb0
  go_enter Tryz.func105,Tryz.ntmps105
  go_wp2
  go_ret
  exact⟨none,0,rfl,⟨Nat.le_refl _,Nat.zero_le _⟩,av.nil _ _ _,Below.refl _ _⟩
 |some ad=>
  have hsz:(w.alloc (.cells #[] 5)).heap.size=w.heap.size+1:=by simp
  have HS:=Lib.hid (HR.out.below (wall w (.cells #[] 5)) (Nat.le_refl _))
  go_enter Tryz.func105,Tryz.ntmps105
  go_wp2_with ((at_builtin;refine gL (by rfl) _ _ 39 (by rfl) w.heap.size 5 i0 (.int .u8 0) 1 Tryz.underlying39 hi hz0 hz1 hz2 rfl _ 0 [] (by rfl) ⟨rfl, .inr ⟨w.heap.size,0,#[],rfl,Nat.le_refl _,(MapKept.heap_alloc w _).1,Nat.le_refl _,Nat.zero_le _,rfl,rfl⟩⟩ (some ad) n cap (bs.map bv) (by rfl) HS.out (lN bs) (by unfold maxLen;omega) (by omega) (by simp) ?_;intro A' c' w2 hown2 hgrow2 _ _))
  go_ret
  have hB2:Below w.heap.size w w2:=(wall w _).grown hgrow2 (by simp) (fun k hk=>by cases hk;exact Nat.le_refl _)
  have hcap:=Lr hown2
  have hro:=(av.tY hown2).2
  rw[List.nil_append]at hro
  simp only[Nat.zero_add]at hro hcap
  have hl:=HL.out
  subst hl
  exact⟨_,c',by simp only[Nat.zero_add];rfl,hcap,hro,hB2⟩
section
variable {D:Nat→Prop} {x:Nat} {w:World} {s:Rd}
theorem ru {S:Nat→Prop} (a:Option Addr) (n c:Nat) (bs:List UInt8) (w:World) (hm:n≤100000000) (hr:av S w a n (bs.map bv)):
  Calls Tryz.prog 109 #[.slice a n c] w fun e w'=>∃x,e= .returned (ptr x)∧w.heap.size≤x∧bJ (fun b=>w.heap.size≤b∧b<x) w' x (bs,0)∧Below w.heap.size w w':=by
 have hl:bs.length=n:=by simpa using hr.length
 have HC:=Lib.hid (xA a n c bs w (by omega) hr)
 have hl2:bs.length≤100000000:=by omega
 clear hr hl
 go_enter Tryz.func109,Tryz.ntmps109
 go_wp2_with fail
 (with_reducible refine HC.out.mono ?_)
 rintro e w1 ⟨a1,c1,rfl,hc1,hr1,hb1⟩
 have HR1:=Lib.hid hr1
 have HB1:=Lib.hid hb1
 have QL:=Lib.hid hc1
 clear hr1 hb1 hc1 HC
 go_wp2_with fail
 go_ret
 refine⟨_,rfl,HB1.out.size,⟨⟨a1,c1,(MapKept.heap_alloc w1 _).1,QL.out,?_⟩,fun h=>by omega,hl2,by simp,fun b hb=>by rw[World.size_alloc];omega⟩,HB1.out.trans ((wall w1 _).mono HB1.out.size)⟩
 exact HR1.out.move (wall w1 _).size fun b hb hbw=>⟨hb,(wall w1 _).block b hbw⟩
theorem row0 {D:Nat→Prop} {w w':World} {x:Nat} {s':Rd} (h:bJ D w' x s') (hk:Keeps (fun b=>b=x) w w'):ES D w x [] s' (.returned (.slice none 0 0)) w':=
 ⟨none,0,rfl,⟨Nat.le_refl _,Nat.zero_le _⟩,av.nil _ _ _,h,hk⟩
set_option maxHeartbeats 4000000 in
theorem Ju (h:bJ D w x s) (n:Int) (hn0:0≤n) (hn1:n≤9223372036854775807):Calls Tryz.prog 159 #[ptr x, .int .i64 n] w (ES D w x (jl s n).1 (jl s n).2):=by
 obtain⟨l,y⟩:=s
 obtain⟨a,c,h1,h2,h3⟩:=h.head
 have c0:w.cell? ⟨x,0,none⟩=some (.slice a l.length c):=by simp[World.cell?,h1]
 have c1:w.cell? ⟨x,1,none⟩=some (.int .i64 y):=by simp[World.cell?,h1]
 have f0:w.frozen? ⟨x,0,none⟩=false:=by simp[World.frozen?,h1]
 have f1:w.frozen? ⟨x,1,none⟩=false:=by simp[World.frozen?,h1]
 have hxw:=h.lt
 have Ry:=h.why
 have hls:l.length≤100000000:=h.small
 dsimp only at Ry
 by_cases hy:y=0
 ·subst hy
  by_cases hlt:(l.length:Int)<n
  ·have e1:jl (l,0) n=([],(l,10)):=by unfold jl;rw[if_neg (by simp),if_pos hlt]
   rw[e1]
   have HE:Hid (bJ D (w.setCell ⟨x,1,none⟩ (.int .i64 10)) x (l,10)):=by
    refine⟨⟨a,c,?_,h2,?_⟩,h.apart,h.small,by simp,fun b hb=>by rw[size_set];exact h.low b hb⟩
    ·rw[bY h1];rfl
    ·exact h3.kept (by rw[size_set];exact Nat.le_refl _) fun b hb _=>bH w _ _ _ (fun(e:b=x)=>h.apart (e▸hb))
   clear h h1 h2 h3 e1 Ry
   go_enter Tryz.func159,Tryz.ntmps159
   go_wp2
   all_goals (first|(go_ret;exact row0 HE.out (Keeps.iC w ⟨x,1,none⟩ _))|((try simp only[Exit.inBlock,Exit.then]);refine bodyPost_ret (by rfl) rfl ?_;exact row0 HE.out (Keeps.iC w ⟨x,1,none⟩ _)))
  ·have hge:¬((l.length:Int)<n):=hlt
   have hgb:decide ((l.length:Int)<n)=false:=by simpa using hlt
   by_cases h0:n<1
   ·have e1:jl (l,0) n=([],(l,0)):=by unfold jl;rw[if_neg (by simp),if_neg hlt,if_pos h0]
    rw[e1]
    have HE:=Lib.hid h
    clear h h1 h2 h3 e1 Ry hlt
    go_enter Tryz.func159,Tryz.ntmps159
    go_wp2
    all_goals (first|(go_ret;exact row0 HE.out (Keeps.refl _ _))|((try simp only[Exit.inBlock,Exit.then]);refine bodyPost_ret (by rfl) rfl ?_;exact row0 HE.out (Keeps.refl _ _)))
   ·obtain⟨k,rfl⟩:∃k:Nat,n=(k:Int):=⟨n.toNat,by omega⟩
    have e1:jl (l,0) (k:Int)=(l.take k,(l.drop k,0)):=by unfold jl;rw[if_neg (by simp),if_neg hlt,if_neg h0];rfl
    rw[e1]
    have hk1:1≤k:=by omega
    have hkl:k≤l.length:=by omega
    obtain⟨L,hL⟩:∃L,L=l.length:=⟨_,rfl⟩
    rw[←hL]at c0 h1 h2 h3 hlt hge hgb hkl hls
    obtain⟨b,off,rfl,rT,hbw,-⟩:=h3.at_ (by omega)
    have Zb:=h2.1
    have hcm:=h2.2
    unfold maxLen at hcm
    have hbx:b≠x:=fun e=>h.apart (e▸rT)
    have htk:av D w (some ⟨b,off,none⟩) k ((l.take k).map bv):=by
     have:=h3.take k
     rw[List.map_take]
     rwa [Nat.min_eq_right hkl]at this
    have Po:=Lib.hid (xA (some ⟨b,off,none⟩) k c (l.take k) w (by omega) htk)
    have KM:Hid ((l.take k).length=k):=by show _=_;rw[List.length_take];omega
    have CK:Hid ((l.drop k).length=L-k):=by show _=_;rw[List.length_drop,hL]
    have mI:∀(w1:World) (A:Option Addr) (C:Nat),ET w (l.take k) (.returned (.slice A k C)) w1→∀(R:Option Addr) (rc:Nat),kH (L-k) rc→(0<L-k→R=some ⟨b,off+k,none⟩)→
      ES D w x (l.take k) (l.drop k,0) (.returned (.slice A k C)) (w1.setCell ⟨x,0,none⟩ (.slice R (L-k) rc)):=by
     intro w1 A C hret R rc hrc hR
     obtain⟨a1,cc,he,hc1,hr1,hb1⟩:=hret
     rw[KM.out]at he hc1 hr1
     cases he
     have hx1:=(hb1.block x hxw).trans h1
     refine⟨A,C,by rw[KM.out],by rw[KM.out];exact hc1,?_,⟨⟨R,rc,?_,?_,?_⟩,h.apart,?_,by simp,fun z hz=>by rw[size_set];exact Nat.lt_of_lt_of_le (h.low z hz) hb1.size⟩,?_⟩
     ·rw[KM.out]
      refine hr1.move (by rw[size_set];exact Nat.le_refl _) fun z hz Zc=>⟨⟨hz.1,by rw[size_set];exact hz.2⟩,bH w1 _ _ _ (fun e=> ?_)⟩
      have e':z=x:=e
      omega
     ·rw[bY hx1]
      simp only[CK.out]
      rfl
     ·rw[CK.out];exact hrc
     ·simp only[CK.out]
      have hdr:av D w1 (some ⟨b,off+k,none⟩) (L-k) ((l.drop k).map bv):=by
       have:=(h3.drop k).below hb1 (Nat.le_refl _)
       rwa [←List.map_drop]at this
      have Ui:av D w1 R (L-k) ((l.drop k).map bv):=by
       by_cases hz:0<L-k
       ·rw[hR hz];exact hdr
       ·exact av.zero R _ _ (by omega) (by rw[List.eq_nil_of_length_eq_zero (l:=l.drop k) (by rw[CK.out];omega)];rfl)
      exact Ui.kept (by rw[size_set];exact Nat.le_refl _) fun z hz _=>bH w1 _ _ _ (fun(e:z=x)=>h.apart (e▸hz))
     ·show(l.drop k).length≤_
      rw[CK.out];omega
     ·exact((Keeps.below hb1).mono (fp':=fun z=>z=x) fun z hz hz'=>by omega).trans (Keeps.iC w1 ⟨x,0,none⟩ _) fun z _ hz=>hz
    have MC:=Lib.hid mI
    clear mI h h1 h2 h3 e1 Ry hlt htk hL h0
    have b1:(1:Int)≤(k:Int):=by omega
    have b0:(0:Int)≤(k:Int):=by omega
    have b2:(k:Int)≤(c:Int):=by omega
    have b3:(k:Int)≤(L:Int):=by omega
    have d1:decide ((k:Int)<1)=false:=by simp;omega
    by_cases hcap:c=k
    ·obtain rfl:k=c:=hcap.symm
     go_enter Tryz.func159,Tryz.ntmps159
     go_wp2_with fail
     (with_reducible refine Po.out.mono ?_)
     rintro e w1 hret
     obtain⟨A,C,rfl⟩:∃A C,e= .returned (.slice A k C):=by
      obtain⟨A,C,he,-⟩:=hret
      exact⟨A,C,by rw[he,KM.out]⟩
     have qQ:=Lib.hid hret
     have hb1:Below w.heap.size w w1:=by
      obtain⟨_,_,_,_,_,hb⟩:=hret
      exact hb
     have q0:w1.cell? ⟨x,0,none⟩=some (.slice (some ⟨b,off,none⟩) L k):=(hb1.cell (p:=⟨x,0,none⟩) hxw).trans c0
     have g0:w1.frozen? ⟨x,0,none⟩=false:=(hb1.frozen (p:=⟨x,0,none⟩) hxw).trans f0
     clear hret hb1 Po
     go_wp2_with fail
     go_ret
     have hfin:=MC.out w1 A C qQ.out (some ⟨b,off,none⟩) 0 ⟨by omega,Nat.zero_le _⟩ (fun hz=>by omega)
     rw[show L-k=0 by omega]at hfin
     exact hfin
    ·go_enter Tryz.func159,Tryz.ntmps159
     go_wp2_with fail
     (with_reducible refine Po.out.mono ?_)
     rintro e w1 hret
     obtain⟨A,C,rfl⟩:∃A C,e= .returned (.slice A k C):=by
      obtain⟨A,C,he,-⟩:=hret
      exact⟨A,C,by rw[he,KM.out]⟩
     have qQ:=Lib.hid hret
     have hb1:Below w.heap.size w w1:=by
      obtain⟨_,_,_,_,_,hb⟩:=hret
      exact hb
     have q0:w1.cell? ⟨x,0,none⟩=some (.slice (some ⟨b,off,none⟩) L c):=(hb1.cell (p:=⟨x,0,none⟩) hxw).trans c0
     have g0:w1.frozen? ⟨x,0,none⟩=false:=(hb1.frozen (p:=⟨x,0,none⟩) hxw).trans f0
     clear hret hb1 Po
     go_wp2_with fail
     go_ret
     exact MC.out w1 A C qQ.out _ _ ⟨by omega,by unfold maxLen;omega⟩ (fun hz=>by first|rfl|omega)
 ·have e1:jl (l,y) n=([],(l,y)):=zB (s:=(l,y)) hy n
  rw[e1]
  have d1:(y==0)=false:=by simpa using hy
  have d2:(y !=0)=true:=by simpa using hy
  have HE:=Lib.hid h
  clear h h1 h2 h3 e1 hy
  go_enter Tryz.func159,Tryz.ntmps159
  go_wp2
  all_goals (first|(go_ret;exact row0 HE.out (Keeps.refl _ _))|((try simp only[Exit.inBlock,Exit.then]);refine bodyPost_ret (by rfl) rfl ?_;exact row0 HE.out (Keeps.refl _ _)))
theorem u64_or (n c:Int) (h0:0≤n) (h1:n<72057594037927936) (c0:0≤c) (c1:c<256):bits .or .u64 (n*256) c=n*256+c:=by
 obtain⟨a,rfl⟩:=Int.eq_ofNat_of_zero_le h0
 obtain⟨b,rfl⟩:=Int.eq_ofNat_of_zero_le c0
 have h:=bits_or_u64_nat (a*256) b (by omega) (by omega)
 rw[show((a:Int)*256)=((a*256:Nat):Int)by omega,h,nat_join8 _ _ (by omega) (by omega)]
 omega
theorem EU (s:Rd) (k:Nat):(jl s k).1.length≤k:=by
 unfold jl
 split
 ·simp
 ·split
  ·simp
  ·split
   ·simp
   ·simp only[List.length_take];omega
theorem DL {l:List UInt8} (h:l.length≤8) (j:Nat) (hj:j<l.length):0≤ou (l.take j)∧ou (l.take j)<72057594037927936:=by
 obtain⟨h1,h2⟩:=ow j (l.take j) (by rw[List.length_take];omega)
 refine⟨h1,Int.lt_of_lt_of_le h2 ?_⟩
 have h3:j≤7:=by omega
 have:j=0∨j=1∨j=2∨j=3∨j=4∨j=5∨j=6∨j=7:=by omega
 rcases this with h|h|h|h|h|h|h|h<;>subst h<;>decide
set_option maxHeartbeats 2000000 in
theorem DN (h:bJ D w x s) (k:Nat) (hk:k≤8):Calls Tryz.prog 154 #[ptr x, .int .i64 k] w (uY D w x (.int .u64 (bQ s k).1) (bQ s k).2):=by
 have HR:=Lib.hid (Ju h (k:Int) (by omega) (by omega))
 have hlen:=EU s k
 unfold bQ
 obtain⟨bs,hbs⟩:∃bs,bs=(jl s k).1:=⟨_,rfl⟩
 obtain⟨s',hs'⟩:∃s',s'=(jl s k).2:=⟨_,rfl⟩
 rw[←hbs,←hs']at HR
 rw[←hbs]at hlen
 rw[←hbs,←hs']
 have XV:bs.length≤8:=by omega
 clear h hbs hs' hlen
 go_enter Tryz.func154,Tryz.ntmps154
 go_wp2_with fail
 (with_reducible refine HR.out.mono ?_)
 rintro e w1 ⟨a,c,rfl,hc1,hr1,mM,hK1⟩
 have HRW:=Lib.hid hr1
 have mI:Hid (bJ D w1 x s'∧Keeps (fun b=>b=x) w w1):=⟨mM,hK1⟩
 obtain⟨L,hL⟩:∃L,L=bs.length:=⟨_,rfl⟩
 have EJ:=Lib.hid hL
 rw[←hL]at XV HRW
 rw[←hL]
 clear hc1 hr1 mM hK1 HR hL
 go_wp2_with fail
 go_loop [5,12] (fun n i=>∃j:Nat,j≤L∧i= .int .i64 j∧n= .int .u64 (ou (bs.take j))) (fun _ i=>L-(intOf i).toNat)
 case atStart=>exact⟨0,Nat.zero_le _,rfl,rfl⟩
 case round=>
  obtain⟨j,hj,rfl,rfl⟩:=hrel
  by_cases hlt:j<L
  ·obtain⟨b,off,rfl,_,hbw,hcc⟩:=HRW.out.at_ (by omega)
   have hll:=EJ.out
   obtain⟨v0,v1⟩:=DL (l:=bs) (by omega) j (by omega)
   have hget:bs[j]? =some (bs[j]'(by omega)):=List.getElem?_eq_getElem (by omega)
   have htk:bs.take (j+1)=bs.take j++[bs[j]'(by omega)]:=List.take_succ_eq_append_getElem (by omega)
   obtain⟨cb,hcb⟩:∃cb,cb=bs[j]'(by omega):=⟨_,rfl⟩
   rw[←hcb]at hget htk
   have q:=hcc j hlt
   rw[List.getElem?_map,hget]at q
   have q1:w1.cell? ⟨b,off+j,none⟩=some (.int .u8 (cb.toNat:Int)):=q
   have HV:Hid (ou (bs.take (j+1))=ou (bs.take j)*256+(cb.toNat:Int)):=by
    show _=_
    rw[htk,sQ]
   have hc2:(cb.toNat:Int)<256:=by have:=cb.toNat_lt;omega
   obtain⟨v,hv⟩:∃v,v=ou (bs.take j):=⟨_,rfl⟩
   rw[←hv]at v0 v1 HV⊢
   have HO:Hid (bits .or .u64 (v*256) (cb.toNat:Int)=v*256+(cb.toNat:Int)):=u64_or v _ v0 v1 (by omega) hc2
   clear hll hget htk hcb q hcc hv
   go_wp2
   go_round
   case rel=>exact⟨j+1,by omega,by go_num,by rw[HV.out,←HO.out]⟩
   case measure=>simp[intOf];omega
  ·obtain rfl:j=L:=by omega
   have hall:bs.take j=bs:=by rw[List.take_of_length_le (by have:=EJ.out;omega)]
   rw[hall]
   clear hall
   go_wp2
   go_ret
   exact⟨rfl,mI.out⟩
theorem mD (h:bJ D w x s):Calls Tryz.prog 110 #[ptr x] w (uY D w x (.int .i64 (bQ s 2).1) (bQ s 2).2):=by
 have HG:Hid (Calls Tryz.prog 154 #[ptr x, .int .i64 2] w (uY D w x (.int .u64 (bQ s 2).1) (bQ s 2).2)):=DN h 2 (by omega)
 obtain⟨n0,n1⟩:=fE s 2
 have e1:IntKind.i64.wrap (bQ s 2).1=(bQ s 2).1:=IntWalk.i64_in _ (by have:(256:Int)^2=65536:=rfl;omega)
 generalize (bQ s 2).1=v at*
 generalize (bQ s 2).2=s' at*
 clear h n1
 go_enter Tryz.func110,Tryz.ntmps110
 go_wp2_with fail
 (with_reducible refine HG.out.mono ?_)
 rintro e w1 ⟨rfl,mM⟩
 have HR1:=Lib.hid mM
 clear mM
 go_wp2_with fail
 go_ret
 exact⟨rfl,HR1.out⟩
theorem EW (h:bJ D w x s):Calls Tryz.prog 123 #[ptr x] w (uY D w x (.int .i64 (bQ s 1).1) (bQ s 1).2):=by
 have HG:Hid (Calls Tryz.prog 154 #[ptr x, .int .i64 1] w (uY D w x (.int .u64 (bQ s 1).1) (bQ s 1).2)):=DN h 1 (by omega)
 obtain⟨n0,n1⟩:=fE s 1
 have e1:IntKind.i64.wrap (bQ s 1).1=(bQ s 1).1:=IntWalk.i64_in _ (by have:(256:Int)^1=256:=rfl;omega)
 generalize (bQ s 1).1=v at*
 generalize (bQ s 1).2=s' at*
 clear h n1
 go_enter Tryz.func123,Tryz.ntmps123
 go_wp2_with fail
 (with_reducible refine HG.out.mono ?_)
 rintro e w1 ⟨rfl,mM⟩
 have HR1:=Lib.hid mM
 clear mM
 go_wp2_with fail
 go_ret
 exact⟨rfl,HR1.out⟩
theorem Ls (h:bJ D w x s):Calls Tryz.prog 121 #[ptr x] w (uY D w x (.int .u64 (bQ s 8).1) (bQ s 8).2):=by
 have HG:Hid (Calls Tryz.prog 154 #[ptr x, .int .i64 8] w (uY D w x (.int .u64 (bQ s 8).1) (bQ s 8).2)):=DN h 8 (by omega)
 generalize (bQ s 8).1=v at*
 generalize (bQ s 8).2=s' at*
 clear h
 go_enter Tryz.func121,Tryz.ntmps121
 go_wp2_with fail
 (with_reducible refine HG.out.mono ?_)
 rintro e w1 ⟨rfl,mM⟩
 have HR1:=Lib.hid mM
 clear mM
 go_wp2_with fail
 go_ret
 exact⟨rfl,HR1.out⟩
theorem xB (h:bJ D w x s):Calls Tryz.prog 122 #[ptr x] w (ES D w x (aP s).1 (aP s).2):=by
 have HS:=Lib.hid (mD h)
 obtain⟨n0,n1⟩:=fE s 2
 have n2:(bQ s 2).1≤9223372036854775807:=by have:(256:Int)^2=65536:=rfl;omega
 unfold aP
 generalize (bQ s 2).1=v at*
 generalize (bQ s 2).2=s1 at*
 clear h n1
 go_enter Tryz.func122,Tryz.ntmps122
 go_wp2_with fail
 (with_reducible refine HS.out.mono ?_)
 rintro e w1 ⟨rfl,mM,hK1⟩
 have HR:=Lib.hid (Ju mM v n0 n2)
 have HK:=Lib.hid hK1
 clear mM hK1
 go_wp2_with fail
 (with_reducible refine HR.out.mono ?_)
 rintro e w2 ⟨a,c,rfl,hc2,hr2,hR2,hK2⟩
 have HR2:Hid (kH (jl s1 v).1.length c∧av (fun b=>w1.heap.size≤b∧b<w2.heap.size) w2 a (jl s1 v).1.length ((jl s1 v).1.map bv)∧bJ D w2 x (jl s1 v).2∧Keeps (fun b=>b=x) w1 w2):=⟨hc2,hr2,hR2,hK2⟩
 clear hc2 hr2 hR2 hK2
 go_wp2_with fail
 go_ret
 obtain⟨g1,g2,g3,g4⟩:=HR2.out
 exact⟨a,c,rfl,g1,g2.mono fun b hb=>⟨Nat.le_trans HK.out.size hb.1,hb.2⟩,g3,HK.out.trans g4 fun b _ hb=>hb⟩
theorem Lu (h:bJ D w x s):Calls Tryz.prog 156 #[ptr x] w fun e w'=>e= .returned (.int .i64 (qd s:Int))∧w=w':=by
 obtain⟨l,y⟩:=s
 obtain⟨a,c,h1,h2,h3⟩:=h.head
 have c0:w.cell? ⟨x,0,none⟩=some (.slice a l.length c):=by simp[World.cell?,h1]
 have c1:w.cell? ⟨x,1,none⟩=some (.int .i64 y):=by simp[World.cell?,h1]
 by_cases hy:y=0
 ·subst hy
  have e1:qd (l,0)=l.length:=by unfold qd;rw[if_neg (by simp)]
  rw[e1]
  clear h h1 h2 h3 e1
  go_enter Tryz.func156,Tryz.ntmps156
  go_wp2
  go_ret
  exact⟨rfl,rfl⟩
 ·have e1:qd (l,y)=0:=by unfold qd;rw[if_pos hy]
  rw[e1]
  have d1:(y !=0)=true:=by simpa using hy
  clear h h1 h2 h3 e1 hy
  go_enter Tryz.func156,Tryz.ntmps156
  go_wp2
  go_ret
  exact⟨rfl,rfl⟩
theorem DR (h:bJ D w x s):Calls Tryz.prog 112 #[ptr x] w fun e w'=>e= .returned (.int .i64 (nQ s))∧w=w':=by
 obtain⟨l,y⟩:=s
 obtain⟨a,c,h1,h2,h3⟩:=h.head
 have c0:w.cell? ⟨x,0,none⟩=some (.slice a l.length c):=by simp[World.cell?,h1]
 have c1:w.cell? ⟨x,1,none⟩=some (.int .i64 y):=by simp[World.cell?,h1]
 by_cases hy:y=0
 ·subst hy
  by_cases hl:0<l.length
  ·have e1:nQ (l,0)=11:=by unfold nQ;rw[if_pos ⟨rfl,hl⟩]
   rw[e1]
   have d1:decide ((0:Int)<(l.length:Int))=true:=by simp;omega
   clear h h1 h2 h3 e1
   go_enter Tryz.func112,Tryz.ntmps112
   go_wp2
   go_ret
   exact⟨rfl,rfl⟩
  ·obtain rfl:l=[]:=List.eq_nil_of_length_eq_zero (by omega)
   have e1:nQ ([],0)=0:=rfl
   rw[e1]
   clear h h1 h2 h3 e1
   go_enter Tryz.func112,Tryz.ntmps112
   go_wp2
   go_ret
   exact⟨rfl,rfl⟩
 ·have e1:nQ (l,y)=y:=by unfold nQ;rw[if_neg (fun hh=>hy hh.1)]
  rw[e1]
  have d1:(y==0)=false:=by simpa using hy
  clear h h1 h2 h3 e1 hy
  go_enter Tryz.func112,Tryz.ntmps112
  go_wp2
  go_ret
  exact⟨rfl,rfl⟩
theorem Lv (h:bJ D w x s):Calls Tryz.prog 182 #[ptr x] w (uY D w x (.bool (oP s).1) (oP s).2):=by
 have HB:=Lib.hid (EW h)
 obtain⟨n0,n1⟩:=fE s 1
 unfold oP
 generalize (bQ s 1).1=v at*
 generalize (bQ s 1).2=s1 at*
 clear h n1
 by_cases h1:1<v
 ·rw[if_pos h1]
  have e1:decide (v=1)=false:=by simp;omega
  have e2:(v==1)=false:=by simp;omega
  rw[e1]
  clear e1
  go_enter Tryz.func182,Tryz.ntmps182
  go_wp2_with fail
  (with_reducible refine HB.out.mono ?_)
  rintro e w1 ⟨rfl,mM,hK1⟩
  obtain⟨l,y⟩:=s1
  obtain⟨a,c,q1,q2,q3⟩:=mM.head
  have f1:w1.frozen? ⟨x,1,none⟩=false:=by simp[World.frozen?,q1]
  have c1:w1.cell? ⟨x,1,none⟩=some (.int .i64 y):=by simp[World.cell?,q1]
  have HE:Hid (bJ D (w1.setCell ⟨x,1,none⟩ (.int .i64 12)) x (l,12)):=by
   refine⟨⟨a,c,?_,q2,?_⟩,mM.apart,mM.small,by simp,fun b hb=>by rw[size_set];exact mM.low b hb⟩
   ·rw[bY q1];rfl
   ·exact q3.kept (by rw[size_set];exact Nat.le_refl _) fun b hb _=>bH w1 _ _ _ (fun(e:b=x)=>mM.apart (e▸hb))
  have HK:=Lib.hid hK1
  clear mM hK1 q1 q2 q3 HB
  go_wp2_with fail
  go_ret
  exact⟨rfl,HE.out,HK.out.trans (Keeps.iC w1 ⟨x,1,none⟩ _) fun b _ hb=>hb⟩
 ·rw[if_neg h1]
  have e0:decide (v=1)=(v==1):=by by_cases hv:v=1<;>simp[hv]
  rw[e0]
  clear e0
  go_enter Tryz.func182,Tryz.ntmps182
  go_wp2_with fail
  (with_reducible refine HB.out.mono ?_)
  rintro e w1 ⟨rfl,mM,hK1⟩
  have HE:Hid (bJ D w1 x s1∧Keeps (fun b=>b=x) w w1):=⟨mM,hK1⟩
  clear mM hK1 HB
  go_wp2_with fail
  go_ret
  exact⟨rfl,HE.out⟩
end
structure EX where
 id:Int
 kind:Int
 links:Int
 size:Int
 aK:Int
 closed:Bool
def Jv:EX:=⟨0,0,0,0,0,false⟩
def Ci (n:EX):List UInt8:=iL n.id 2++(iL n.kind 1++(iL n.links 2++(iL n.size 2++(iL n.aK 8++oO n.closed))))
def iH (n:EX):Prop:=(n.kind=1∧n.size≤4096∧n.aK≤1099511627776)∨(n.kind=2∧n.size=0∧n.aK=0∧n.closed=true)
instance (n:EX):Decidable (iH n):=by unfold iH;infer_instance
def iZ (b:List UInt8):EX×Rd:=
 let a:=bQ (b,0) 2
 let k:=bQ a.2 1
 let l:=bQ k.2 2
 let s:=bQ l.2 2
 let t:=bQ s.2 8
 let c:=oP t.2
 (⟨a.1,k.1,l.1,s.1,t.1,c.1⟩,c.2)
def bW (b:List UInt8):EX×Int:=if nQ (iZ b).2=0∧iH (iZ b).1 then((iZ b).1,0)else(Jv,12)
theorem Cj {s:Rd} (h:nQ s=0):s.2=0∧s.1=[]:=by
 unfold nQ at h
 by_cases h1:s.2=0
 ·by_cases h2:0<s.1.length
  ·rw[if_pos ⟨h1,h2⟩]at h;cases h
  ·exact⟨h1,List.eq_nil_of_length_eq_zero (by omega)⟩
 ·rw[if_neg (fun hh=>h1 hh.1)]at h;exact absurd h h1
structure Gn (n:EX):Prop where
 id:0≤n.id∧n.id≤65535
 kind:0≤n.kind∧n.kind≤255
 links:0≤n.links∧n.links≤65535
 size:0≤n.size∧n.size≤65535
 aK:0≤n.aK∧n.aK≤18446744073709551615
theorem oz (b:List UInt8):Gn (iZ b).1:=by
 have e2:(256:Int)^2=65536:=rfl
 have e1:(256:Int)^1=256:=rfl
 have e8:(256:Int)^8=18446744073709551616:=rfl
 unfold iZ
 dsimp only
 refine⟨?_,?_,?_,?_,?_⟩<;>dsimp only
 ·have:=fE (b,0) 2;omega
 ·have:=fE (bQ (b,0) 2).2 1;omega
 ·have:=fE (bQ (bQ (b,0) 2).2 1).2 2;omega
 ·have:=fE (bQ (bQ (bQ (b,0) 2).2 1).2 2).2 2;omega
 ·have:=fE (bQ (bQ (bQ (bQ (b,0) 2).2 1).2 2).2 2).2 8;omega
theorem Jw {b:List UInt8} (h:nQ (iZ b).2=0):b=Ci (iZ b).1:=by
 obtain⟨h1,h2⟩:=Cj h
 unfold iZ at h1 h2⊢
 dsimp only at h1 h2⊢
 obtain⟨f1,f2⟩:=Jt h1
 obtain⟨t1,t2,-⟩:=jr f1
 obtain⟨s1,s2,-⟩:=jr t1
 obtain⟨l1,l2,-⟩:=jr s1
 obtain⟨k1,k2,-⟩:=jr l1
 obtain⟨a1,a2,-⟩:=jr k1
 unfold Ci
 dsimp only at a2⊢
 rw[h2,List.append_nil]at f2
 rw[←f2,←t2,←s2,←l2,←k2]
 exact a2
theorem Gp {n:EX} (h:Gn n):iZ (Ci n)=(n,([],0)):=by
 have e2:(256:Int)^2=65536:=rfl
 have e1:(256:Int)^1=256:=rfl
 have e8:(256:Int)^8=18446744073709551616:=rfl
 have h1:=h.id;have h2:=h.kind;have h3:=h.links;have h4:=h.size;have h5:=h.aK
 unfold iZ Ci
 dsimp only
 rw[iP 2 n.id _ (by omega) (by omega)]
 dsimp only
 rw[iP 1 n.kind _ (by omega) (by omega)]
 dsimp only
 rw[iP 2 n.links _ (by omega) (by omega)]
 dsimp only
 rw[iP 2 n.size _ (by omega) (by omega)]
 dsimp only
 rw[iP 8 n.aK _ (by omega) (by omega)]
 dsimp only
 have:=Gm n.closed []
 rw[List.append_nil]at this
 rw[this]
theorem xC {b:List UInt8} (h:(bW b).2=0):b=Ci (bW b).1∧iH (bW b).1∧Gn (bW b).1:=by
 unfold bW at h⊢
 by_cases h1:nQ (iZ b).2=0∧iH (iZ b).1
 ·rw[if_pos h1]
  exact⟨Jw h1.1,h1.2,oz b⟩
 ·rw[if_neg h1]at h;cases h
theorem Ck {n:EX} (h:Gn n) (hr:iH n):bW (Ci n)=(n,0):=by
 unfold bW
 rw[Gp h,if_pos ⟨rfl,hr⟩]
def gT:Nat→Rd→Nm→List (Nm×Int)→Option (List (Nm×Int)×Rd)
 |0,s,_,acc=>some (acc,s)
 |k+1,s,last,acc=>
  let a:=aP s
  let b:=bQ a.2 2
  if b.2.2≠0∨bZ a.1=false∨bytesBefore last a.1=false then none else gT k b.2 a.1 (acc++[(a.1,b.1)])
def uz (k:Int) (x:bF):EX:=⟨k,x.kind,x.links,x.b.length,x.aK,x.closed⟩
def sS (n:EX) (b:List UInt8) (names:List (Nm×Int)):bF:=⟨n.kind,n.links,n.aK,n.closed,b,names⟩
def gU (s:Rd):Option ((Int×bF)×Rd):=
 let a:=aP s
 let n:=bW a.1
 let b:=aP a.2
 let c:=bQ b.2 2
 if n.2≠0∨(b.1.length:Int)≠n.1.size then none else
 if n.1.kind=1 then(if c.1=0 then some ((n.1.id,sS n.1 b.1 []),c.2)else none)else
 match gT c.1.toNat c.2 [] []with
 |none=>none
 |some q=>some ((n.1.id,sS n.1 b.1 q.1),q.2)
def mE:Nat→Rd→Int→aF→Option (aF×Rd)
 |0,s,_,acc=>some (acc,s)
 |k+1,s,last,acc=>(gU s).elim none fun q=>if q.1.1≤last then none else mE k q.2 q.1.1 (acc++[q.1])
theorem mU (s:Rd) (last:Int) (acc:aF):mE 0 s last acc=some (acc,s):=rfl
theorem uZ {k:Nat} {s:Rd} {last:Int} {acc:aF} (h:gU s=none):mE (k+1) s last acc=none:=by
 show(gU s).elim none _=none
 rw[h];rfl
theorem mV {k:Nat} {s:Rd} {last:Int} {acc:aF} {q:(Int×bF)×Rd} (h:gU s=some q):mE (k+1) s last acc=if q.1.1≤last then none else mE k q.2 q.1.1 (acc++[q.1]):=by
 show(gU s).elim none _=_
 rw[h];rfl
def parseM (b:List UInt8):Option aF:=
 match mE (bQ (b,0) 2).1.toNat (bQ (b,0) 2).2 (-1) []with
 |none=>none
 |some q=>if nQ q.2=0 then some q.1 else none
theorem Jy {n:Nm} (h:bZ n=true):bytesBefore [] n=true:=by
 cases n with
 |nil=>simp[bZ]at h
 |cons a r=>rfl
structure zC (k:Int) (x:bF):Prop where
 ok:Gn (uz k x)
 right:iH (uz k x)
 file:x.kind=1→x.names=[]
 sorted:aI bytesBefore x.names
 good:∀e∈x.names,bZ e.1=true
 ids:∀e∈x.names,0≤e.2∧e.2≤65535
 few:x.names.length≤65535
theorem uD (k:Int) (x:bF):o_ k x=Ci (uz k x):=by
 unfold o_ Ci uz
 simp only[List.append_assoc]
theorem xD:∀(k:Nat) (s:Rd) (last:Nm) (acc l:List (Nm×Int)) (s':Rd),gT k s last acc=some (l,s')→s'.2=0→
  s.2=0∧∃m,l=acc++m∧m.length=k∧s.1=m.flatMap CO++s'.1∧(∀e∈m,bZ e.1=true∧(0≤e.2∧e.2≤65535)∧bytesBefore last e.1=true)∧aI bytesBefore m
 |0,s,last,acc,l,s',h,h0=>by
  simp only[gT,Option.some.injEq,Prod.mk.injEq]at h
  obtain⟨rfl,rfl⟩:=h
  exact⟨h0,[],by simp,rfl,rfl,fun e he=>(by cases he),List.Pairwise.nil⟩
 |k+1,s,last,acc,l,s',h,h0=>by
  unfold gT at h
  dsimp only at h
  split at h
  ·cases h
  ·rename_i hc
   obtain⟨e1,m,e2,e3,e4,e5,e6⟩:=xD k _ _ _ _ _ h h0
   have g1:bZ (aP s).1=true:=by
    cases hg:bZ (aP s).1 with
    |true=>rfl
    |false=>exact absurd (.inr (.inl hg)) hc
   have g2:bytesBefore last (aP s).1=true:=by
    cases hg:bytesBefore last (aP s).1 with
    |true=>rfl
    |false=>exact absurd (.inr (.inr hg)) hc
   obtain⟨f1,f2,f3,f4⟩:=jr e1
   obtain⟨b1,b2,-⟩:=nR f1
   have hp:(256:Int)^2=65536:=rfl
   refine⟨b1,((aP s).1,(bQ (aP s).2 2).1)::m,by rw[e2,List.append_assoc];rfl,by rw[List.length_cons,e3],?_,fun e he=> ?_,?_⟩
   ·rw[List.flatMap_cons]
    rw[show CO ((aP s).1,(bQ (aP s).2 2).1)=uy (aP s).1++iL (bQ (aP s).2 2).1 2 from rfl,List.append_assoc,List.append_assoc,←e4,←f2]
    exact b2
   ·rcases List.mem_cons.1 he with rfl|he
    ·exact⟨g1,⟨f3,by dsimp only;omega⟩,g2⟩
    ·have:=e5 e he
     exact⟨this.1,this.2.1,lX _ _ _ g2 this.2.2⟩
   ·refine List.Pairwise.cons (fun e he=> ?_) e6
    exact(e5 e he).2.2
theorem u6:∀(m:List (Nm×Int)) (r:List UInt8) (last:Nm) (acc:List (Nm×Int)),(∀e∈m,bZ e.1=true∧(0≤e.2∧e.2≤65535)∧bytesBefore last e.1=true)→aI bytesBefore m→
  gT m.length (m.flatMap CO++r,0) last acc=some (acc++m,(r,0))
 |[],r,last,acc,_,_=>by simp[gT]
 |e::m,r,last,acc,h,hs=>by
  obtain⟨h1,h2,h3⟩:=h e (by simp)
  have hp:(256:Int)^2=65536:=rfl
  have hl:=mR h1
  rw[List.length_cons,gT]
  have e1:aP ((e::m).flatMap CO++r,0)=(e.1,(iL e.2 2++(m.flatMap CO++r),0)):=by
   rw[List.flatMap_cons]
   unfold CO
   rw[List.append_assoc,List.append_assoc]
   exact rG _ _ (by omega)
  rw[e1]
  dsimp only
  rw[iP 2 _ _ h2.1 (by omega)]
  dsimp only
  rw[if_neg (by rw[h1,h3];simp)]
  have hs':=List.pairwise_cons.1 hs
  rw[u6 m r e.1 _ (fun y hy=>⟨(h y (by simp[hy])).1,(h y (by simp[hy])).2.1,hs'.1 y hy⟩) hs'.2,List.append_assoc]
  rfl
theorem Jz {s s':Rd} {q:Int×bF} (h:gU s=some (q,s')) (h0:s'.2=0):s.2=0∧s.1=jV q.1 q.2++s'.1∧zC q.1 q.2:=by
 unfold gU at h
 dsimp only at h
 split at h
 ·cases h
 ·rename_i hc
  have d0:(bW (aP s).1).2=0:=Decidable.byContradiction fun hn=>hc (.inl hn)
  have d1:((aP (aP s).2).1.length:Int)=(bW (aP s).1).1.size:=Decidable.byContradiction fun hn=>hc (.inr hn)
  obtain⟨q1,q2,q3⟩:=xC d0
  have hp:(256:Int)^2=65536:=rfl
  have hnd:∀l,uz (bW (aP s).1).1.id (sS (bW (aP s).1).1 (aP (aP s).2).1 l)=(bW (aP s).1).1:=fun l=>by unfold uz sS;dsimp only;rw[d1]
  by_cases hk:(bW (aP s).1).1.kind=1
  ·rw[if_pos hk]at h
   split at h
   ·rename_i hz
    simp only[Option.some.injEq,Prod.mk.injEq]at h
    obtain⟨rfl,rfl⟩:=h
    obtain⟨f1,f2,-⟩:=jr h0
    obtain⟨b1,b2,-⟩:=nR f1
    obtain⟨a1,a2,-⟩:=nR b1
    refine⟨a1,?_,by rw[hnd];exact q3,by rw[hnd];exact q2,fun _=>rfl,List.Pairwise.nil,fun e he=>(by cases he),fun e he=>(by cases he),Nat.zero_le _⟩
    unfold jV
    rw[uD,hnd,←q1]
    unfold sS
    rw[hz]at f2
    rw[show(([]:List (Nm×Int)).flatMap CO)=[]from rfl,List.append_nil,List.append_assoc,List.append_assoc,show((([]:List (Nm×Int)).length:Nat):Int)=0 from rfl,←f2,←b2]
    exact a2
   ·cases h
  ·rw[if_neg hk]at h
   split at h
   ·cases h
   ·rename_i p hr
    simp only[Option.some.injEq,Prod.mk.injEq]at h
    obtain⟨rfl,rfl⟩:=h
    obtain⟨r1,m,r2,r3,r4,r5,r6⟩:=xD _ _ _ _ p.1 p.2 hr h0
    obtain⟨f1,f2,f3,f4⟩:=jr r1
    obtain⟨b1,b2,-⟩:=nR f1
    obtain⟨a1,a2,-⟩:=nR b1
    rw[List.nil_append]at r2
    refine⟨a1,?_,by rw[hnd];exact q3,by rw[hnd];exact q2,fun hk'=>absurd hk' hk,by rw[show(sS (bW (aP s).1).1 (aP (aP s).2).1 p.1).names=m from r2];exact r6,fun e he=> ?_,fun e he=> ?_,?_⟩
    ·unfold jV
     rw[uD,hnd,←q1]
     unfold sS
     dsimp only
     rw[r2,r3,List.append_assoc,List.append_assoc,List.append_assoc,←r4,show((bQ (aP (aP s).2).2 2).1.toNat:Int)=(bQ (aP (aP s).2).2 2).1 by omega,←f2,←b2]
     exact a2
    ·exact(r5 e (by rw[←r2];exact he)).1
    ·exact(r5 e (by rw[←r2];exact he)).2.1
    ·show p.1.length≤65535
     rw[r2,r3];omega
theorem Gq {k:Int} {x:bF} (h:zC k x) (r:List UInt8):gU (jV k x++r,0)=some ((k,x),(r,0)):=by
 have hp:(256:Int)^2=65536:=rfl
 have hsz:x.b.length≤65535:=by have:=h.ok.size.2;unfold uz at this;dsimp only at this;omega
 have hen:(o_ k x).length≤65535:=by unfold o_ oO;simp only[List.length_append,fu];omega
 have hfw:=h.few
 unfold gU jV
 dsimp only
 rw[List.append_assoc,List.append_assoc,List.append_assoc,rG _ _ hen]
 dsimp only
 rw[uD,Ck h.ok h.right]
 dsimp only
 rw[rG _ _ hsz]
 dsimp only
 rw[iP 2 _ _ (by omega) (by omega)]
 dsimp only
 rw[if_neg (by unfold uz;simp)]
 by_cases hk:x.kind=1
 ·rw[if_pos (show(uz k x).kind=1 from hk)]
  have hn:=h.file hk
  rw[hn]
  simp only[List.length_nil,List.flatMap_nil,List.nil_append,Int.natCast_zero,if_true]
  unfold sS uz
  dsimp only
  rw[←hn]
 ·rw[if_neg (show ¬(uz k x).kind=1 from hk)]
  rw[show((x.names.length:Int)).toNat=x.names.length by omega,u6 x.names r [] [] (fun e he=>⟨h.good e he,h.ids e he,Jy (h.good e he)⟩) h.sorted]
  rfl
theorem zD:∀(k:Nat) (s:Rd) (last:Int) (acc l:aF) (s':Rd),mE k s last acc=some (l,s')→s'.2=0→
  s.2=0∧∃m,l=acc++m∧m.length=k∧s.1=(m.flatMap fun q=>jV q.1 q.2)++s'.1∧(∀q∈m,zC q.1 q.2∧last<q.1)∧aI fT m
 |0,s,last,acc,l,s',h,h0=>by
  rw[mU]at h
  cases h
  exact⟨h0,[],by simp,rfl,rfl,fun e he=>(by cases he),List.Pairwise.nil⟩
 |k+1,s,last,acc,l,s',h,h0=>by
  cases hr:gU s with
  |none=>rw[uZ hr]at h;cases h
  |some q=>
   rw[mV hr]at h
   by_cases hl:q.1.1≤last
   ·rw[if_pos hl]at h;cases h
   ·rw[if_neg hl]at h
    obtain⟨e1,m,e2,e3,e4,e5,e6⟩:=zD k _ _ _ _ _ h h0
    obtain⟨b1,b2,b3⟩:=Jz (q:=q.1) (s':=q.2) hr e1
    refine⟨b1,q.1::m,by rw[e2,List.append_assoc];rfl,by rw[List.length_cons,e3],?_,fun y hy=> ?_,?_⟩
    ·rw[List.flatMap_cons,List.append_assoc,←e4]
     exact b2
    ·rcases List.mem_cons.1 hy with rfl|hy
     ·exact⟨b3,by omega⟩
     ·have:=e5 y hy
      exact⟨this.1,by omega⟩
    ·exact List.Pairwise.cons (fun y hy=>decide_eq_true (e5 y hy).2) e6
theorem xE:∀(m:aF) (r:List UInt8) (last:Int) (acc:aF),(∀q∈m,zC q.1 q.2∧last<q.1)→aI fT m→
  mE m.length ((m.flatMap fun q=>jV q.1 q.2)++r,0) last acc=some (acc++m,(r,0))
 |[],r,last,acc,_,_=>by rw[List.append_nil];exact mU _ _ _
 |q::m,r,last,acc,h,hs=>by
  obtain⟨h1,h2⟩:=h q (by simp)
  have hs':=List.pairwise_cons.1 hs
  rw[List.length_cons,List.flatMap_cons,List.append_assoc,mV (Gq h1 _),if_neg (show ¬q.1≤last by omega)]
  dsimp only
  rw[xE m r q.1 _ (fun y hy=>⟨(h y (by simp[hy])).1,of_decide_eq_true (hs'.1 y hy)⟩) hs'.2,List.append_assoc]
  rfl
structure u7 (T:aF):Prop where
 each:∀q∈T,zC q.1 q.2
 sorted:aI fT T
 few:T.length≤65535
theorem Gs {b:List UInt8} {T:aF} (h:parseM b=some T):b=iY T∧u7 T:=by
 unfold parseM at h
 split at h
 ·cases h
 ·rename_i q hr
  split at h
  ·rename_i he
   cases h
   obtain⟨z1,z2⟩:=Cj he
   obtain⟨e1,m,e2,e3,e4,e5,e6⟩:=zD _ _ _ _ q.1 q.2 hr z1
   obtain⟨-,f2,f3,f4⟩:=jr e1
   have hp:(256:Int)^2=65536:=rfl
   rw[List.nil_append]at e2
   rw[z2,List.append_nil]at e4
   rw[e2]
   refine⟨?_,fun y hy=>(e5 y hy).1,e6,by omega⟩
   unfold iY
   rw[e3,show((bQ (b,0) 2).1.toNat:Int)=(bQ (b,0) 2).1 by omega,←e4]
   exact f2
  ·cases h
theorem xG {T:aF} (h:u7 T):parseM (iY T)=some T:=by
 have hp:(256:Int)^2=65536:=rfl
 have hf:=h.few
 unfold parseM iY
 rw[iP 2 _ _ (by omega) (by omega)]
 dsimp only
 have:=xE T [] (-1) [] (fun q hq=>⟨h.each q hq,by have:=(h.each q hq).ok.id.1;unfold uz at this;dsimp only at this;omega⟩) h.sorted
 rw[List.append_nil,List.nil_append]at this
 rw[show((T.length:Int)).toNat=T.length by omega,this]
 rfl
end Go.Proofs.YtohpcppeajijnaaGreat
