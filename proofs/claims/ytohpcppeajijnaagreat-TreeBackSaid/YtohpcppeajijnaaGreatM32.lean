/- Arguments opened: lists of permafrostlaw11.Ask. Marks on blocks: whose they are; a tree whose own blocks bear one mark, and its bytes none. -/
import Derived.Test.YtohpcppeajijnaaGreatM03
import Derived.Test.YtohpcppeajijnaaGreatM31
import Derived.Test.YtohpcppeajijnaaGreatM13
namespace Go.Proofs.YtohpcppeajijnaaGreat
open Go.Joins Go.ChangeShapes Go.WideShapes Go.ChangeAt Go.RowKit Go.Deep
set_option linter.unusedVariables false
structure Oq (W:World) (g off:Nat) (x:mG) (ba:Option Addr) (bn bc:Nat):Prop where
 cells:W.cell? ⟨g,off,none⟩=some (.int .i64 x.kind)∧W.cell? ⟨g,off+1,none⟩=some (.int .i64 x.P)∧W.cell? ⟨g,off+2,none⟩=some (.int .i64 x.vE)∧W.cell? ⟨g,off+3,none⟩=some (.bool x.dir)∧W.cell? ⟨g,off+4,none⟩=some (.int .i64 x.id)∧W.cell? ⟨g,off+5,none⟩=some (.int .i64 x.at_)∧W.cell? ⟨g,off+6,none⟩=some (.int .i64 x.n)∧W.cell? ⟨g,off+7,none⟩=some (.slice ba bn bc)∧W.cell? ⟨g,off+8,none⟩=some (.int .u64 x.aK)
 ok:x.Ok
 cap:bn≤bc
 row:av (fun b=>b<W.heap.size) W ba bn (x.b.map bv)
 reach:bn≤140737488351232
def EL (W:World) (a:Option Addr) (len:Nat):Prop:=
 len≤maxLen∧(0<len→∃b off,a=some ⟨b,off,none⟩∧b<W.heap.size∧∀k,k<len→∃x ba bn bc,Oq W b (off+k*9) x ba bn bc)
theorem F8 {z:Int} (h:(Lit.int .u64 z).wf=true):0≤z∧z≤18446744073709551615:=by
 simp[Lit.wf,IntKind.min,IntKind.max,IntKind.signed,IntKind.bits]at h
 omega
section
variable {H:Type} {enc:TypeId×Value→H} {W:World}
theorem uV {fuel:Nat} {v:Value} {x:DataW H×List MemPlace} (h:DataW.trod enc Tryz.prog W 0 (fun _=>true) true fuel 71 [v]=some x) (l:∀p∈x.2,p.block<W.heap.size) (hw:∀n∈x.1.weights Tryz.prog 71,n≤reachBytes):
  ∃a len cap,v= .slice a len cap∧len≤cap∧EL W a len:=by
 rcases rO Tryz.underlying71 Tryz.underlying79 (by kernel_rfl) (by kernel_rfl) h with⟨hcs,hx⟩|⟨a,len,cap,m,D,Pl,hcs,_,hl,hm,hmm,hx,hi⟩
 ·simp only[List.cons.injEq,and_true]at hcs
  subst hcs
  exact⟨none,0,0,rfl,Nat.le_refl _,by simp,fun h=>by omega⟩
 ·simp only[List.cons.injEq,and_true]at hcs
  subst hcs
  subst hx
  simp only[if_true]at hmm
  subst hmm
  refine⟨some a,len,m,rfl,hl,by omega,fun h0=> ?_⟩
  have hsub:∀(i:Nat) (ys:List (DataW H×List MemPlace)) (j:Nat) (y:DataW H×List MemPlace),i<m→Pl i=ys.flatMap (·.2)→ys[j]? =some y→∀p∈y.2,p.block<W.heap.size:=by
   intro i ys j y hi' hp hy p hpy
   refine l p (List.mem_append_right _ (List.mem_flatMap.2 ⟨i,List.mem_range.2 hi',?_⟩))
   rw[hp]
   exact List.mem_flatMap.2 ⟨y,List.mem_of_getElem? hy,hpy⟩
  obtain⟨b,off,spot⟩:=a
  have hspot:spot=none:=by
   obtain⟨ys,n,_,_,_,hf⟩:=hi 0 (by omega)
   obtain⟨v,y,hc,_⟩:=hf 0 _ rfl
   simpa[Addr.add]using World.cell?_spot hc
  subst hspot
  have hb:b<W.heap.size:=l (.cell b off) (List.mem_append_left _ (MemPlace.mem_row.2 ⟨0,by simp;omega,by simp⟩))
  refine⟨b,off,rfl,hb,fun k hk=> ?_⟩
  obtain⟨ys,n,hD,hP,hyl,hf⟩:=hi k (by omega)
  obtain⟨v0,y0,c0,e0,t0⟩:=hf 0 _ rfl
  obtain⟨v1,y1,c1,e1,t1⟩:=hf 1 _ rfl
  obtain⟨v2,y2,c2,e2,t2⟩:=hf 2 _ rfl
  obtain⟨v3,y3,c3,e3,t3⟩:=hf 3 _ rfl
  obtain⟨v4,y4,c4,e4,t4⟩:=hf 4 _ rfl
  obtain⟨v5,y5,c5,e5,t5⟩:=hf 5 _ rfl
  obtain⟨v6,y6,c6,e6,t6⟩:=hf 6 _ rfl
  obtain⟨v7,y7,c7,e7,t7⟩:=hf 7 _ rfl
  obtain⟨v8,y8,c8,e8,t8⟩:=hf 8 _ rfl
  obtain⟨z0,f0,_,g0⟩:=DataW.trod_int Tryz.underlying3 t0
  obtain⟨z1,f1,_,g1⟩:=DataW.trod_int Tryz.underlying3 t1
  obtain⟨z2,f2,_,g2⟩:=DataW.trod_int Tryz.underlying3 t2
  obtain⟨z3,f3,_⟩:=DataW.trod_bool Tryz.underlying4 t3
  obtain⟨z4,f4,_,g4⟩:=DataW.trod_int Tryz.underlying3 t4
  obtain⟨z5,f5,_,g5⟩:=DataW.trod_int Tryz.underlying3 t5
  obtain⟨z6,f6,_,g6⟩:=DataW.trod_int Tryz.underlying3 t6
  obtain⟨a7,n7,k7,bs,rfl,q7,r7,XD⟩:=AJ t7 (hsub k ys 7 y7 (by omega) hP e7) (fun n hn=>hw n (zP Tryz.underlying71 (d:=D k) (List.mem_map.2 ⟨k,List.mem_range.2 hk,rfl⟩) (by
   rw[hD]
   exact zQ Tryz.underlying79 (j:=7) rfl (d:=y7.1) (by rw[List.getElem?_map,e7];rfl) hn)))
  obtain⟨z8,f8,_,g8⟩:=DataW.trod_int Tryz.underlying43 t8
  simp only[List.cons.injEq,and_true]at f0 f1 f2 f3 f4 f5 f6 f8
  subst f0 f1 f2 f3 f4 f5 f6 f8
  rw[add_plain]at c0 c1 c2 c3 c4 c5 c6 c7 c8
  refine⟨⟨z0,z1,z2,z3,z4,z5,z6,bs,z8⟩,a7,n7,k7,⟨⟨c0,?_,?_,?_,?_,?_,?_,?_,?_⟩,⟨g0,g1,g2,g4,g5,g6,F8 g8⟩,q7,r7,XD⟩⟩
  ·rw[Nat.add_assoc];exact c1
  ·rw[Nat.add_assoc];exact c2
  ·rw[Nat.add_assoc];exact c3
  ·rw[Nat.add_assoc];exact c4
  ·rw[Nat.add_assoc];exact c5
  ·rw[Nat.add_assoc];exact c6
  ·rw[Nat.add_assoc];exact c7
  ·rw[Nat.add_assoc];exact c8
end
def Ot (w:World) (e:Ending) (w':World):Prop:=∃r,e= .returned (ptr r)∧gX (fun x=>w.heap.size≤x∧x<w'.heap.size) w' r kV∧Below w.heap.size w w'
theorem F9 (w:World) (o1 o2 o3:Obj):(((w.alloc o1).alloc o2).alloc o3).heap[w.heap.size]? =some o1∧(((w.alloc o1).alloc o2).alloc o3).heap[w.heap.size+1]? =some o2∧(((w.alloc o1).alloc o2).alloc o3).heap[w.heap.size+2]? =some o3:=by
 have h:=lC [o1,o2,o3] w
 exact⟨h 0 o1 rfl,h 1 o2 rfl,h 2 o3 rfl⟩
theorem BX (w:World):Calls Tryz.prog 11 #[] w (Ot w):=by
 go_enter Tryz.func11,Tryz.ntmps11
 go_wp2
 go_ret
 obtain⟨h0,h1,h2⟩:=F9 w (.cells #[.int .i64 0, .int .i64 2, .int .i64 1, .int .i64 0, .int .u64 0, .bool true] 98) (.cells #[.slice none 0 0] 39) (.cells #[.slice (some ⟨w.heap.size,0,none⟩) 1 1, .slice (some ⟨w.heap.size+1,0,none⟩) 1 1, .slice none 0 0] 102)
 refine⟨w.heap.size+2,rfl,⟨⟨some ⟨w.heap.size,0,none⟩,1,some ⟨w.heap.size+1,0,none⟩,1,none,0,h2,Nat.le_refl _,Nat.le_refl _,Nat.le_refl _,?_,⟨[.slice none 0 0],?_,?_⟩,av.nil _ _ _, .inl ⟨rfl,rfl⟩⟩,?_,?_⟩,?_⟩
 ·exact(iJ (vs:=bX (0,bE 2)) h0 (by simp[bX,maxLen])).mono fun b hb=>by subst hb;exact⟨⟨Nat.le_refl _,by simp;omega⟩,by omega⟩
 ·exact(iJ (vs:=[.slice none 0 0]) h1 (by simp[maxLen])).mono fun b hb=>by subst hb;exact⟨⟨by omega,by simp⟩,by omega⟩
 ·intro i b hb
  cases i with
  |zero=>
   have:b=[]:=(Option.some.inj hb).symm
   subst this
   exact⟨none,0,rfl,⟨Nat.le_refl _,by simp[maxLen]⟩,av.nil _ _ _⟩
  |succ i=>simp[kV]at hb
 ·exact⟨by omega,by simp⟩
 ·exact fun b hb=>hb.2
 ·exact(((Below.refl _ _).alloc (Nat.le_refl _) _).alloc (by simp) _).alloc (by simp;omega) _
open Go.ChangeShapes Go.WideShapes Go.ChangeAt Go.RowKit
set_option linter.unusedSimpArgs false
abbrev Mark:=Nat→Nat
structure Marks (W:World) (o:Mark) (w:World):Prop where
 new:∀b,o b≠0→W.heap.size≤b∧b<w.heap.size
 below:Below W.heap.size W w
structure Step (o:Mark) (I:Nat→Prop) (w:World) (o':Mark) (w':World):Prop where
 old:∀b,b<w.heap.size→o' b=o b
 new:∀b,w.heap.size≤b→o' b≠0→I (o' b)∧b<w'.heap.size
 keep:Keeps (fun b=>I (o b)) w w'
theorem Marks.step {W w w':World} {o o':Mark} {I:Nat→Prop} (h:Marks W o w) (hi:¬I 0) (hs:Step o I w o' w'):Marks W o' w':=by
 refine⟨fun b hb=> ?_,h.below.trans (hs.keep.jd h.below.size fun x hx (hxi:I (o x))=> ?_)⟩
 ·by_cases hlt:b<w.heap.size
  ·rw[hs.old b hlt]at hb
   exact⟨(h.new b hb).1,Nat.lt_of_lt_of_le hlt hs.keep.size⟩
  ·have h1:=(hs.new b (by omega) hb).2
   have:=h.below.size
   exact⟨by omega,h1⟩
 ·have h0:o x≠0:=fun e=>hi (by rw[e]at hxi;exact hxi)
  have:=(h.new x h0).1
  omega
theorem Marks.grow {W w w':World} {o:Mark} (h:Marks W o w) (hb:Below w.heap.size w w'):Marks W o w':=
 ⟨fun b hn=>⟨(h.new b hn).1,Nat.lt_of_lt_of_le (h.new b hn).2 hb.size⟩,h.below.trans (hb.mono h.below.size)⟩
theorem Step.mono {w w':World} {o o':Mark} {I J:Nat→Prop} (h:Step o I w o' w') (Vt:∀i,I i→J i):Step o J w o' w':=
 ⟨h.old,fun b hb hn=>⟨Vt _ (h.new b hb hn).1,(h.new b hb hn).2⟩,h.keep.mono fun x _ hx=>Vt _ hx⟩
theorem Step.grow {W w w':World} {o:Mark} {I:Nat→Prop} (h:Marks W o w) (hb:Below w.heap.size w w'):Step o I w o w':=
 ⟨fun _ _=>rfl,fun b hb hn=>by have:=(h.new b hn).2;omega,(Keeps.below hb).mono fun x hx hx'=>absurd hx (by omega)⟩
theorem Step.trans {w w1 w2:World} {o o1 o2:Mark} {I:Nat→Prop} (h:Step o I w o1 w1) (k:Step o1 I w1 o2 w2):Step o I w o2 w2:=by
 have hs:=h.keep.size
 refine⟨fun b hb=>(k.old b (by omega)).trans (h.old b hb),fun b hb hn=> ?_,h.keep.trans k.keep fun x hx (hxi:I (o1 x))=>by rw[h.old x hx]at hxi;exact hxi⟩
 by_cases hlt:b<w1.heap.size
 ·rw[k.old b hlt]at hn⊢
  exact⟨(h.new b hb hn).1,Nat.lt_of_lt_of_le (h.new b hb hn).2 k.keep.size⟩
 ·exact k.new b (by omega) hn
theorem Step.behind {W w w1 w2:World} {o o2:Mark} {I:Nat→Prop} (hM:Marks W o w) (hb:Below w.heap.size w w1) (h:Step o I w1 o2 w2):Step o I w o2 w2:=(Step.grow hM hb).trans h
theorem Step.block {w w':World} {o o':Mark} {I:Nat→Prop} (h:Step o I w o' w') {b:Nat} (hb:b<w.heap.size) (hn:¬I (o b)):w'.heap[b]? =w.heap[b]? :=h.keep.block b hb hn
def Free (o:Mark) (w:World) (b:Nat):Prop:=o b=0∧b<w.heap.size
theorem av.free {o o':Mark} {I:Nat→Prop} {w w':World} {a:Option Addr} {n:Nat} {vs:List Value} (h:av (Free o w) w a n vs) (hi:¬I 0) (hs:Step o I w o' w'):av (Free o' w') w' a n vs:=
 h.move hs.keep.size fun b hb hbw=>⟨⟨(hs.old b hb.2).trans hb.1,Nat.lt_of_lt_of_le hb.2 hs.keep.size⟩,hs.block hb.2 (by rw[hb.1];exact hi)⟩
theorem av.Jh {W w w':World} {o:Mark} {a:Option Addr} {n:Nat} {vs:List Value} (hM:Marks W o w) (h:av (fun x=>w.heap.size≤x∧x<w'.heap.size) w' a n vs):av (Free o w') w' a n vs:=
 h.mono fun b hb=>⟨Decidable.byContradiction fun h0=>by have:=(hM.new b h0).2;omega,hb.2⟩
def f_ (o:Mark) (i:Nat) (w:World) (p:Nat) (T:aF):Prop:=
 ∃g D mb ib nb,aJ g D w p mb ib nb T∧(∀b,g b≠ .none→o b=i)∧(∀b,D b→o b=0)
theorem f_.step {o o':Mark} {I:Nat→Prop} {j:Nat} {w w':World} {p:Nat} {T:aF} (h:f_ o j w p T) (hi:¬I 0) (hij:¬I j) (hs:Step o I w o' w'):f_ o' j w' p T:=by
 obtain⟨g,D,mb,ib,nb,hA,hg,hD⟩:=h
 refine⟨g,D,mb,ib,nb,hA.keeps hs.keep fun b hb=> ?_,fun b hb=>(hs.old b (hA.low b hb)).trans (hg b hb),fun b hb=>(hs.old b (hA.nW b hb)).trans (hD b hb)⟩
 rcases hb with hb|hb
 ·rw[hg b hb];exact hij
 ·rw[hD b hb];exact hi
theorem f_.grow {o:Mark} {j:Nat} {w w':World} {p:Nat} {T:aF} (h:f_ o j w p T) (hb:Below w.heap.size w w'):f_ o j w' p T:=by
 obtain⟨g,D,mb,ib,nb,hA,hg,hD⟩:=h
 exact⟨g,D,mb,ib,nb,hA.below hb (Nat.le_refl _),hg,hD⟩
def fD (o:Mark) (i:Nat) (w:World) (p:Nat) (T':aF) (v:Value) (e:Ending) (w':World):Prop:=
 e= .returned v∧∃o',Step o (fun j=>j=i) w o' w'∧f_ o' i w' p T'
open Classical in
theorem fD.of {W w w':World} {o:Mark} {i p mb:Nat} {T':aF} {v:Value} {e:Ending} {g:Nat→Own} {D:Nat→Prop} (hM:Marks W o w) (hi:i≠0) (hg:∀b,g b≠ .none→o b=i) (hD:∀b,D b→o b=0) (ht:Turn g D w p mb T' v e w'):fD o i w p T' v e w':=by
 obtain⟨rfl,g',D',Mg,nb',hA',hg',hD',hK⟩:=ht
 obtain⟨o',ho⟩:∃o':Mark,∀b,o' b=if b<w.heap.size then o b else if g' b≠ .none then i else 0:=⟨_,fun _=>rfl⟩
 refine⟨rfl,o',⟨fun b hb=>by rw[ho,if_pos hb],fun b hb hn=> ?_,hK.mono fun x _ hx=>hg x hx⟩,g',D',mb,Mg,nb',hA',fun b hb=> ?_,fun b hb=> ?_⟩
 ·rw[ho,if_neg (by omega)]at hn⊢
  by_cases h:g' b≠ .none
  ·rw[if_pos h];exact⟨rfl,hA'.low b h⟩
  ·rw[if_neg h]at hn;exact absurd rfl hn
 ·rw[ho]
  by_cases hlt:b<w.heap.size
  ·rw[if_pos hlt]
   rcases hg' b hb with h|h
   ·exact hg b h
   ·omega
  ·rw[if_neg hlt,if_pos hb]
 ·rw[ho]
  by_cases hlt:b<w.heap.size
  ·rw[if_pos hlt]
   rcases hD' b hb with h|h
   ·exact hD b h
   ·omega
  ·rw[if_neg hlt,if_neg (by rw[hA'.data b hb];simp)]
section
variable {W w:World} {o:Mark} {i p:Nat} {T:aF}
theorem KZ {S:Nat→Prop} (h:f_ o i w p T) (hM:Marks W o w) (hi:i≠0) (hT:dG T) (a:Option Addr) (n c:Nat) (ls:List Nm) (kind:Int) (hS:aH S w a n (ls.map strOf)) (hc:n≤c) (jS:n≤1000000):
  Calls Tryz.prog 12 #[ptr p, .slice a n c, .int .i64 kind] w (fD o i w p (cu T ls kind).2 (.tuple #[.int .i64 (cu T ls kind).1.1, .int .i64 (cu T ls kind).1.2])):=by
 obtain⟨g,D,mb,ib,nb,hA,hg,hD⟩:=h
 exact(Em a n c ls kind w hA hT hS hc jS).mono fun e w' ht=>fD.of hM hi hg hD ht
theorem Ga {S:Nat→Prop} (h:f_ o i w p T) (hM:Marks W o w) (hi:i≠0) (hT:dG T) (id:Int) (a:Option Addr) (l c:Nat) (bs:List UInt8) (hid:(Lit.int .i64 id).wf=true) (hr:av S w a l (bs.map bv)) (hl:l≤1000000000):
  Calls Tryz.prog 20 #[ptr p, .int .i64 id, .slice a l c] w (fD o i w p (bK T id bs).2 (.int .i64 (bK T id bs).1)):=by
 obtain⟨g,D,mb,ib,nb,hA,hg,hD⟩:=h
 exact(yN id a l c bs w hA (fun x hx=>(hT.each id x hx).size) hid hr hl).mono fun e w' ht=>fD.of hM hi hg hD ht
end
end Go.Proofs.YtohpcppeajijnaaGreat
