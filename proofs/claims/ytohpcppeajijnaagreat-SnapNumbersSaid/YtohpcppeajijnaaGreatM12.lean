/- Marks on blocks: whose they are; a tree whose own blocks bear one mark, and its bytes none. -/
import Derived.Test.YtohpcppeajijnaaGreatM11
namespace Go.Proofs.YtohpcppeajijnaaGreat
open Go.ChangeShapes Go.WideShapes Go.ChangeAt Go.RowKit
set_option linter.unusedVariables false
set_option linter.unusedSimpArgs false
abbrev Mark:=Nat→Nat
structure Marks (W:World) (o:Mark) (w:World):Prop where
 new:∀b,o b≠0→W.heap.size≤b∧b<w.heap.size
 below:Below W.heap.size W w
structure Step (o:Mark) (I:Nat→Prop) (w:World) (o':Mark) (w':World):Prop where
 old:∀b,b<w.heap.size→o' b=o b
 new:∀b,w.heap.size≤b→o' b≠0→I (o' b)∧b<w'.heap.size
 keep:Keeps (fun b=>I (o b)) w w'
theorem Marks.step {W w w':World} {o o':Mark} {I:Nat→Prop} (h:Marks W o w) (hi:¬I 0) (hs:Step o I w o' w'):Marks W o' w':=by
 refine⟨fun b hb=> ?_,h.below.trans (hs.keep.iH h.below.size fun x hx (hxi:I (o x))=> ?_)⟩
 ·by_cases hlt:b<w.heap.size
  ·rw[hs.old b hlt]at hb
   exact⟨(h.new b hb).1,Nat.lt_of_lt_of_le hlt hs.keep.size⟩
  ·have h1:=(hs.new b (by omega) hb).2
   have:=h.below.size
   exact⟨by omega,h1⟩
 ·have h0:o x≠0:=fun e=>hi (by rw[e]at hxi;exact hxi)
  have:=(h.new x h0).1
  omega
theorem Marks.grow {W w w':World} {o:Mark} (h:Marks W o w) (hb:Below w.heap.size w w'):Marks W o w':=
 ⟨fun b hn=>⟨(h.new b hn).1,Nat.lt_of_lt_of_le (h.new b hn).2 hb.size⟩,h.below.trans (hb.mono h.below.size)⟩
theorem Step.mono {w w':World} {o o':Mark} {I J:Nat→Prop} (h:Step o I w o' w') (Zt:∀i,I i→J i):Step o J w o' w':=
 ⟨h.old,fun b hb hn=>⟨Zt _ (h.new b hb hn).1,(h.new b hb hn).2⟩,h.keep.mono fun x _ hx=>Zt _ hx⟩
theorem Step.grow {W w w':World} {o:Mark} {I:Nat→Prop} (h:Marks W o w) (hb:Below w.heap.size w w'):Step o I w o w':=
 ⟨fun _ _=>rfl,fun b hb hn=>by have:=(h.new b hn).2;omega,(Keeps.below hb).mono fun x hx hx'=>absurd hx (by omega)⟩
theorem Step.trans {w w1 w2:World} {o o1 o2:Mark} {I:Nat→Prop} (h:Step o I w o1 w1) (k:Step o1 I w1 o2 w2):Step o I w o2 w2:=by
 have hs:=h.keep.size
 refine⟨fun b hb=>(k.old b (by omega)).trans (h.old b hb),fun b hb hn=> ?_,h.keep.trans k.keep fun x hx (hxi:I (o1 x))=>by rw[h.old x hx]at hxi;exact hxi⟩
 by_cases hlt:b<w1.heap.size
 ·rw[k.old b hlt]at hn⊢
  exact⟨(h.new b hb hn).1,Nat.lt_of_lt_of_le (h.new b hb hn).2 k.keep.size⟩
 ·exact k.new b (by omega) hn
theorem Step.then_ {W w w1 w2:World} {o o1:Mark} {I:Nat→Prop} (hM:Marks W o w) (hi:¬I 0) (h:Step o I w o1 w1) (hb:Below w1.heap.size w1 w2):Step o I w o1 w2:=h.trans (Step.grow (hM.step hi h) hb)
theorem Step.behind {W w w1 w2:World} {o o2:Mark} {I:Nat→Prop} (hM:Marks W o w) (hb:Below w.heap.size w w1) (h:Step o I w1 o2 w2):Step o I w o2 w2:=(Step.grow hM hb).trans h
theorem Step.block {w w':World} {o o':Mark} {I:Nat→Prop} (h:Step o I w o' w') {b:Nat} (hb:b<w.heap.size) (hn:¬I (o b)):w'.heap[b]? =w.heap[b]? :=h.keep.block b hb hn
def Free (o:Mark) (w:World) (b:Nat):Prop:=o b=0∧b<w.heap.size
theorem ak.free {o o':Mark} {I:Nat→Prop} {w w':World} {a:Option Addr} {n:Nat} {vs:List Value} (h:ak (Free o w) w a n vs) (hi:¬I 0) (hs:Step o I w o' w'):ak (Free o' w') w' a n vs:=
 h.move hs.keep.size fun b hb hbw=>⟨⟨(hs.old b hb.2).trans hb.1,Nat.lt_of_lt_of_le hb.2 hs.keep.size⟩,hs.block hb.2 (by rw[hb.1];exact hi)⟩
theorem ak.IB {W w w':World} {o:Mark} {a:Option Addr} {n:Nat} {vs:List Value} (hM:Marks W o w) (h:ak (fun x=>w.heap.size≤x∧x<w'.heap.size) w' a n vs):ak (Free o w') w' a n vs:=
 h.mono fun b hb=>⟨Decidable.byContradiction fun h0=>by have:=(hM.new b h0).2;omega,hb.2⟩
def eU (o:Mark) (i:Nat) (w:World) (p:Nat) (T:aI):Prop:=
 ∃g D mb ib nb,aK g D w p mb ib nb T∧(∀b,g b≠ .none→o b=i)∧(∀b,D b→o b=0)
theorem eU.step {o o':Mark} {I:Nat→Prop} {j:Nat} {w w':World} {p:Nat} {T:aI} (h:eU o j w p T) (hi:¬I 0) (hij:¬I j) (hs:Step o I w o' w'):eU o' j w' p T:=by
 obtain⟨g,D,mb,ib,nb,hA,hg,hD⟩:=h
 refine⟨g,D,mb,ib,nb,hA.keeps hs.keep fun b hb=> ?_,fun b hb=>(hs.old b (hA.low b hb)).trans (hg b hb),fun b hb=>(hs.old b (hA.lN b hb)).trans (hD b hb)⟩
 rcases hb with hb|hb
 ·rw[hg b hb];exact hij
 ·rw[hD b hb];exact hi
theorem eU.grow {o:Mark} {j:Nat} {w w':World} {p:Nat} {T:aI} (h:eU o j w p T) (hb:Below w.heap.size w w'):eU o j w' p T:=by
 obtain⟨g,D,mb,ib,nb,hA,hg,hD⟩:=h
 exact⟨g,D,mb,ib,nb,hA.below hb (Nat.le_refl _),hg,hD⟩
theorem eU.remark {o o':Mark} {j k:Nat} {w:World} {p:Nat} {T:aI} (h:eU o j w p T) (h1:∀b,b<w.heap.size→o b=j→o' b=k) (h2:∀b,b<w.heap.size→o b=0→o' b=0):eU o' k w p T:=by
 obtain⟨g,D,mb,ib,nb,hA,hg,hD⟩:=h
 exact⟨g,D,mb,ib,nb,hA,fun b hb=>h1 b (hA.low b hb) (hg b hb),fun b hb=>h2 b (hA.lN b hb) (hD b hb)⟩
def iQ (o:Mark) (i:Nat) (w:World) (p:Nat) (T':aI) (v:Value) (e:Ending) (w':World):Prop:=
 e= .returned v∧∃o',Step o (fun j=>j=i) w o' w'∧eU o' i w' p T'
open Classical in
theorem iQ.of {W w w':World} {o:Mark} {i p mb:Nat} {T':aI} {v:Value} {e:Ending} {g:Nat→Own} {D:Nat→Prop} (hM:Marks W o w) (hi:i≠0) (hg:∀b,g b≠ .none→o b=i) (hD:∀b,D b→o b=0) (ht:Turn g D w p mb T' v e w'):iQ o i w p T' v e w':=by
 obtain⟨rfl,g',D',D7,nb',hA',hg',hD',hK⟩:=ht
 obtain⟨o',ho⟩:∃o':Mark,∀b,o' b=if b<w.heap.size then o b else if g' b≠ .none then i else 0:=⟨_,fun _=>rfl⟩
 refine⟨rfl,o',⟨fun b hb=>by rw[ho,if_pos hb],fun b hb hn=> ?_,hK.mono fun x _ hx=>hg x hx⟩,g',D',mb,D7,nb',hA',fun b hb=> ?_,fun b hb=> ?_⟩
 ·rw[ho,if_neg (by omega)]at hn⊢
  by_cases h:g' b≠ .none
  ·rw[if_pos h];exact⟨rfl,hA'.low b h⟩
  ·rw[if_neg h]at hn;exact absurd rfl hn
 ·rw[ho]
  by_cases hlt:b<w.heap.size
  ·rw[if_pos hlt]
   rcases hg' b hb with h|h
   ·exact hg b h
   ·omega
  ·rw[if_neg hlt,if_pos hb]
 ·rw[ho]
  by_cases hlt:b<w.heap.size
  ·rw[if_pos hlt]
   rcases hD' b hb with h|h
   ·exact hD b h
   ·omega
  ·rw[if_neg hlt,if_neg (by rw[hA'.data b hb];simp)]
section
variable {W w:World} {o:Mark} {i p:Nat} {T:aI}
theorem Ml {S:Nat→Prop} (h:eU o i w p T) (hM:Marks W o w) (hi:i≠0) (hT:dR T) (a:Option Addr) (n c:Nat) (ls:List Nm) (kind:Int) (hS:aW S w a n (ls.map strOf)) (hc:n≤c) (pE:n≤1000000):
  Calls Tryz.prog 12 #[ptr p, .slice a n c, .int .i64 kind] w (iQ o i w p (dw T ls kind).2 (.tuple #[.int .i64 (dw T ls kind).1.1, .int .i64 (dw T ls kind).1.2])):=by
 obtain⟨g,D,mb,ib,nb,hA,hg,hD⟩:=h
 exact(Mf a n c ls kind w hA hT hS hc pE).mono fun e w' ht=>iQ.of hM hi hg hD ht
theorem E_ {S:Nat→Prop} (h:eU o i w p T) (hM:Marks W o w) (hi:i≠0) (hT:dR T) (id:Int) (a:Option Addr) (l c:Nat) (bs:List UInt8) (hid:(Lit.int .i64 id).wf=true) (hr:ak S w a l (bs.map bv)) (hl:l≤1000000000):
  Calls Tryz.prog 20 #[ptr p, .int .i64 id, .slice a l c] w (iQ o i w p (bI T id bs).2 (.int .i64 (bI T id bs).1)):=by
 obtain⟨g,D,mb,ib,nb,hA,hg,hD⟩:=h
 exact(E9 id a l c bs w hA (fun x hx=>(hT.each id x hx).size) hid hr hl).mono fun e w' ht=>iQ.of hM hi hg hD ht
end
end Go.Proofs.YtohpcppeajijnaaGreat
