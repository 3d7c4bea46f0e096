/- The reference's tree of law 11 under a mark: its own block bears it, what it names bears none. The reference's tree: Copy. Drop, again and again, plainly. The reference's tree: Copy under marks; Committed. What bears no mark stays as it is. Snapshots, as plain data; in memory. package snap: New, find. package sha: rotated words, loaded words. SHA-256, plainly, in numbers. -/
import Derived.Test.YtohpcppeajijnaaGreatM36
import Derived.Test.YtohpcppeajijnaaGreatM31
import Derived.Test.YtohpcppeajijnaaGreatM24
import Derived.Test.YtohpcppeajijnaaGreatM13
import Derived.Test.YtohpcppeajijnaaGreatM04
import Derived.Test.YtohpcppeajijnaaGreatM29
import Derived.Test.YtohpcppeajijnaaGreatM21
import Derived.Test.YtohpcppeajijnaaGreatM12
namespace Go.Proofs.YtohpcppeajijnaaGreat
open Go.ChangeShapes Go.WideShapes Go.ChangeAt Go.RowKit
set_option linter.unusedVariables false
set_option linter.unusedSimpArgs false
def jB (o:Mark) (j:Nat) (w:World) (r:Nat) (T:aH):Prop:=∃F,gU F w r T∧o r=j∧∀b,F b→b≠r→o b=0
theorem jB.step {o o':Mark} {I:Nat→Prop} {j:Nat} {w w':World} {r:Nat} {T:aH} (h:jB o j w r T) (hi:¬I 0) (hij:¬I j) (hs:Step o I w o' w'):jB o' j w' r T:=by
 obtain⟨F,hR,hr,hF⟩:=h
 refine⟨F,hR.keeps hs.keep fun b hb hI=> ?_,(hs.old r (hR.low r hR.own)).trans hr,fun b hb hbr=>(hs.old b (hR.low b hb)).trans (hF b hb hbr)⟩
 by_cases hbr:b=r
 ·subst hbr
  exact hij (hr▸hI)
 ·exact hi (hF b hb hbr▸hI)
theorem jB.grow {o:Mark} {j:Nat} {w w':World} {r:Nat} {T:aH} (h:jB o j w r T) (hb:Below w.heap.size w w'):jB o j w' r T:=by
 obtain⟨F,hR,hr,hF⟩:=h
 exact⟨F,hR.below hb (Nat.le_refl _),hr,hF⟩
def RO (o:Mark) (j:Nat) (w:World) (r:Nat) (T':aH) (v:Value) (e:Ending) (w':World):Prop:=
 e= .returned v∧∃o',Step o (fun k=>k=j) w o' w'∧jB o' j w' r T'
theorem RO.of {W w w':World} {o:Mark} {j r:Nat} {T':aH} {F:Nat→Prop} {v:Value} {e:Ending} (hM:Marks W o w) (hrF:F r) (hr:o r=j) (hF:∀b,F b→b≠r→o b=0) (h:bA F w r T' v e w'):RO o j w r T' v e w':=by
 refine⟨h.1,o,⟨fun _ _=>rfl,fun b hb hn=> ?_,h.2.1.mono fun x _ hx=> ?_⟩,_,h.2.2,hr,fun b hb hbr=> ?_⟩
 ·have:=(hM.new b hn).2
  omega
 ·show o x=j
  rw[hx];exact hr
 ·rcases hb with hb|hb
  ·exact hF b hb hbr
  ·exact Decidable.byContradiction fun h0=>by have:=(hM.new b h0).2;omega
section
variable {W w:World} {o:Mark} {j r:Nat} {T:aH}
theorem Kw {S:Nat→Prop} (h:jB o j w r T) (hM:Marks W o w) (hT:dA T) (a:Option Addr) (n0 c0:Nat) (ls:List Nm) (kind:Int) (hS:aG S w a n0 (ls.map strOf)) (hc:n0≤c0) (jd:n0≤1000000):
  Calls Tryz.prog 13 #[ptr r, .slice a n0 c0, .int .i64 kind] w (RO o j w r (aL T ls kind).2 (.tuple #[.int .i64 (aL T ls kind).1.1, .int .i64 (aL T ls kind).1.2])):=by
 obtain⟨F,hR,hr,hF⟩:=h
 exact(Ez a n0 c0 ls kind w hR hT hS hc jd).mono fun e w' ht=>RO.of hM hR.own hr hF ht
theorem Ky {S S':Nat→Prop} (h:jB o j w r T) (hM:Marks W o w) (hT:dA T) (a:Option Addr) (n c:Nat) (ls:List Nm) (a':Option Addr) (n' c':Nat) (ls':List Nm) (hS:aG S w a n (ls.map strOf)) (hS':aG S' w a' n' (ls'.map strOf)) (hc':n'≤c') (ny:n'≤1000000):
  Calls Tryz.prog 17 #[ptr r, .slice a n c, .slice a' n' c'] w (RO o j w r (aO T ls ls').2 (.int .i64 (aO T ls ls').1)):=by
 obtain⟨F,hR,hr,hF⟩:=h
 exact(Ea a n c ls a' n' c' ls' w hR hT hS hS' hc' ny).mono fun e w' ht=>RO.of hM hR.own hr hF ht
theorem ED {S:Nat→Prop} (h:jB o j w r T) (hM:Marks W o w) (hT:dA T) (a:Option Addr) (n c:Nat) (ls:List Nm) (hS:aG S w a n (ls.map strOf)) (hc:n≤c) (jd:n≤1000000):
  Calls Tryz.prog 19 #[ptr r, .slice a n c] w (RO o j w r (bQ T ls).2 (.int .i64 (bQ T ls).1)):=by
 obtain⟨F,hR,hr,hF⟩:=h
 exact(zK a n c ls w hR hT hS hc jd).mono fun e w' ht=>RO.of hM hR.own hr hF ht
theorem Hq {S:Nat→Prop} (h:jB o j w r T) (hM:Marks W o w) (hT:dA T) (a:Option Addr) (n c:Nat) (ls:List Nm) (hS:aG S w a n (ls.map strOf)) (hc:n≤c) (jd:n≤1000000):
  Calls Tryz.prog 15 #[ptr r, .slice a n c] w (RO o j w r (cO T ls).2 (.int .i64 (cO T ls).1)):=by
 obtain⟨F,hR,hr,hF⟩:=h
 exact(Bv a n c ls w hR hT hS hc jd).mono fun e w' ht=>RO.of hM hR.own hr hF ht
theorem EF {S S':Nat→Prop} (h:jB o j w r T) (hM:Marks W o w) (hO:fQ T) (a:Option Addr) (n c:Nat) (ls:List Nm) (a':Option Addr) (n' c':Nat) (ls':List Nm) (hS:aG S w a n (ls.map strOf)) (hS':aG S' w a' n' (ls'.map strOf)) (hc:n≤c) (jd:n≤1000000) (hc':n'≤c') (ny:n'≤1000000):
  Calls Tryz.prog 94 #[ptr r, .slice a n c, .slice a' n' c'] w (RO o j w r (aY T ls ls').2 (.int .i64 (aY T ls ls').1)):=by
 obtain⟨F,hR,hr,hF⟩:=h
 exact(zN a n c ls a' n' c' ls' w hR hO hS hS' hc jd hc' ny).mono fun e w' ht=>RO.of hM hR.own hr hF ht
theorem EG {S:Nat→Prop} (h:jB o j w r T) (hM:Marks W o w) (hj:j≠0) (hT:dA T) (id:Int) (ab:Option Addr) (nb cb:Nat) (bs:List UInt8) (hbs:ak S w ab nb (bs.map bv)) (hSr:∀b,S b→o b=0) (hnb:nb≤1000000):
  Calls Tryz.prog 22 #[ptr r, .int .i64 id, .slice ab nb cb] w (RO o j w r (bT T id bs).2 (.int .i64 (bT T id bs).1)):=by
 obtain⟨F,hR,hr,hF⟩:=h
 exact(zO id ab nb cb bs w hR hT hbs (fun b hb e=>by have:=hSr b hb;rw[e,hr]at this;exact hj this) hnb).mono fun e w' ht=>RO.of hM hR.own hr hF ht
theorem Kz (h:jB o j w r T) (hM:Marks W o w) (hT:dA T) (id aQ:Int) (ht0:0≤aQ∧aQ≤18446744073709551615):
  Calls Tryz.prog 24 #[ptr r, .int .i64 id, .int .u64 aQ] w (RO o j w r (eF T id aQ).2 (.int .i64 (eF T id aQ).1)):=by
 obtain⟨F,hR,hr,hF⟩:=h
 exact(Es id aQ w hR hT ht0).mono fun e w' ht=>RO.of hM hR.own hr hF ht
theorem KA (h:jB o j w r T) (hM:Marks W o w) (hT:dA T) (id aQ:Int) (ht0:0≤aQ∧aQ≤18446744073709551615):
  Calls Tryz.prog 26 #[ptr r, .int .i64 id, .int .u64 aQ] w (RO o j w r (dO T id aQ).2 (.int .i64 (dO T id aQ).1)):=by
 obtain⟨F,hR,hr,hF⟩:=h
 exact(Er id aQ w hR hT ht0).mono fun e w' ht=>RO.of hM hR.own hr hF ht
theorem KC (h:jB o j w r T) (hM:Marks W o w) (hT:dA T) (id:Int):
  Calls Tryz.prog 30 #[ptr r, .int .i64 id] w (RO o j w r (dH T id).2 (.int .i64 (dH T id).1)):=by
 obtain⟨F,hR,hr,hF⟩:=h
 exact(Ew id w hR hT).mono fun e w' ht=>RO.of hM hR.own hr hF ht
theorem Hr (hM:Marks W o w) (j:Nat):Calls Tryz.prog 11 #[] w fun e w'=>∃r o',e= .returned (ptr r)∧Step o (fun k=>k=j) w o' w'∧jB o' j w' r jE:=by
 refine(Ho w).mono fun e w' ⟨r,he,hR,hb⟩=> ?_
 obtain⟨o',hs,h1,h2⟩:=vJ hM j (fun b=>b=r) (fun b hb'=>by subst hb';exact hR.own) hb
 refine⟨r,o',he,hs,_,hR,h1 r rfl,fun b hb' hbr=> ?_⟩
 rw[h2 b hbr]
 exact Decidable.byContradiction fun h0=>by have:=(hM.new b h0).2;omega
end
def Apart (a b:Value):Prop:=∀g,a.ownBlock=some g→b.ownBlock≠some g
theorem Apart.symm {a b:Value} (h:Apart a b):Apart b a:=fun g h1 h2=>h g h2 h1
section
variable {t1 t2 t3:TypeId} {k1 k2 k3:Nat} {w u u':World} {v1 v2 v3 v':Value} {n1 n2 n3 n':Nat} {x1 x2 x3 x':List Value}
end
section
variable {F:Nat→Prop} {r:Nat} {T:aH} {D:List (List UInt8)} {E:List iF}
end
theorem jB.remark {o o':Mark} {j k:Nat} {w:World} {r:Nat} {T:aH} (h:jB o j w r T) (h1:∀b,b<w.heap.size→o b=j→o' b=k) (h2:∀b,b<w.heap.size→o b=0→o' b=0):jB o' k w r T:=by
 obtain⟨F,hR,hr,hF⟩:=h
 exact⟨F,hR,h1 r (hR.low r hR.own) hr,fun b hb hbr=>h2 b (hR.low b hb) (hF b hb hbr)⟩
section
variable {W w:World} {o:Mark} {i r:Nat} {T:aH}
theorem jB.node (h:jB o i w r T) {k:Nat} {q:Int×bF} (hq:T[k]? =some q):∃b off c,w.cell? ⟨r,0,none⟩=some (.slice (some ⟨b,off,none⟩) T.length c)∧w.cell? ⟨b,off+k*6,none⟩=some (.int .i64 q.1)∧w.cell? ⟨b,off+k*6+1,none⟩=some (.int .i64 q.2.kind)∧w.cell? ⟨b,off+k*6+2,none⟩=some (.int .i64 q.2.links)∧w.cell? ⟨b,off+k*6+3,none⟩=some (.int .i64 q.2.b.length)∧w.cell? ⟨b,off+k*6+4,none⟩=some (.int .u64 q.2.aQ)∧w.cell? ⟨b,off+k*6+5,none⟩=some (.bool q.2.closed):=by
 obtain⟨F,hR,hr,hF⟩:=h
 obtain⟨b,off,c,h1,-,-,-,h2⟩:=hR.node hq
 exact⟨b,off,c,h1,h2⟩
theorem jB.nodes (h:jB o i w r T):∃a c,w.cell? ⟨r,0,none⟩=some (.slice a T.length c):=by
 obtain⟨F,hR,hr,hF⟩:=h
 obtain⟨a,c,h1,-⟩:=hR.nodes
 exact⟨a,c,h1⟩
end
theorem Step.same {w w':World} {o o':Mark} {I:Nat→Prop} (h:Step o I w o' w') (hi:¬I 0) {b:Nat} (hb:Free o w b):w'.heap[b]? =w.heap[b]? :=h.block hb.2 (by rw[hb.1];exact hi)
theorem Free.zero {o:Mark} {w:World} {b:Nat} (h:Free o w b):o b=0:=h.1
theorem pG {w w':World} {o o':Mark} {I:Nat→Prop} {a:Option Addr} {n:Nat} {ss:List ByteArray} (h:aG (Free o w) w a n ss) (hi:¬I 0) (hs:Step o I w o' w'):aG (Free o w) w' a n ss:=
 h.kept hs.keep.size fun b hb hbw=>hs.same hi hb
structure iB where
 id:Int
 hash:List UInt8
 t:aH
structure uh where
 l:List iB
 next:Int
 last:List UInt8
def oO (o:Mark) (w:World) (vs:List Value) (x:iB):Prop:=
 ∃a c q,vs=[.int .i64 x.id, .slice a x.hash.length c,ptr q]∧x.hash.length≤c∧ak (fun b=>o b=0∧b<w.heap.size) w a x.hash.length (x.hash.map bv)∧eU o 0 w q x.t∧dA x.t
def dU (o:Mark) (w:World):List Value→List iB→Prop
 |vs,[]=>vs=[]
 |vs,x::r=>∃v1 v2,vs=v1++v2∧oO o w v1 x∧dU o w v2 r
structure jC (o:Mark) (i:Nat) (w:World) (s:Nat) (S:uh):Prop where
 at_:∃v la lc vals,w.heap[s]? =some (.cells #[v, .int .i64 S.next, .slice la S.last.length lc] 150 (0,0))∧o s=i∧s<w.heap.size∧
  w.ownsRow 0 152 3 v S.l.length vals∧(∀b,v.ownBlock=some b→o b=i∧b≠s∧b<w.heap.size)∧dU o w vals S.l∧
  S.last.length≤lc∧ak (fun b=>o b=0∧b<w.heap.size) w la S.last.length (S.last.map bv)
theorem oO.step {o o':Mark} {I:Nat→Prop} {w w':World} {vs:List Value} {x:iB} (h:oO o w vs x) (hi:¬I 0) (hs:Step o I w o' w'):oO o' w' vs x:=by
 obtain⟨a,c,q,h1,h2,h3,h4,h5⟩:=h
 exact⟨a,c,q,h1,h2,h3.move hs.keep.size fun b hb hbw=>⟨⟨(hs.old b hb.2).trans hb.1,Nat.lt_of_lt_of_le hb.2 hs.keep.size⟩,hs.block hb.2 (by rw[hb.1];exact hi)⟩,h4.step hi hi hs,h5⟩
theorem dU.step {o o':Mark} {I:Nat→Prop} {w w':World} (hi:¬I 0) (hs:Step o I w o' w'):∀{vs:List Value} {l:List iB},dU o w vs l→dU o' w' vs l
 |_,[],h=>h
 |_,x::r,⟨v1,v2,h1,h2,h3⟩=>⟨v1,v2,h1,h2.step hi hs,dU.step hi hs h3⟩
theorem oO.grow {o:Mark} {w w':World} {vs:List Value} {x:iB} (h:oO o w vs x) (hb:Below w.heap.size w w'):oO o w' vs x:=by
 obtain⟨a,c,q,h1,h2,h3,h4,h5⟩:=h
 exact⟨a,c,q,h1,h2,h3.move hb.size fun b hb' hbw=>⟨⟨hb'.1,Nat.lt_of_lt_of_le hb'.2 hb.size⟩,hb.block b hbw⟩,h4.grow hb,h5⟩
theorem dU.grow {o:Mark} {w w':World} (hb:Below w.heap.size w w'):∀{vs:List Value} {l:List iB},dU o w vs l→dU o w' vs l
 |_,[],h=>h
 |_,x::r,⟨v1,v2,h1,h2,h3⟩=>⟨v1,v2,h1,h2.grow hb,dU.grow hb h3⟩
theorem oO.len {o:Mark} {w:World} {vs:List Value} {x:iB} (h:oO o w vs x):vs.length=3:=by
 obtain⟨a,c,q,h1,_⟩:=h
 rw[h1];rfl
theorem dU.len {o:Mark} {w:World}:∀{vs:List Value} {l:List iB},dU o w vs l→vs.length=l.length*3
 |_,[],h=>by have h1:_=[]:=h;rw[h1];rfl
 |_,x::r,⟨v1,v2,h1,h2,h3⟩=>by
  rw[h1,List.length_append,h2.len,h3.len,List.length_cons]
  omega
theorem dU.append {o:Mark} {w:World}:∀{vs us:List Value} {l m:List iB},dU o w vs l→dU o w us m→dU o w (vs++us) (l++m)
 |_,_,[],_,h,k=>by have h1:_=[]:=h;rw[h1];exact k
 |_,_,x::r,_,⟨v1,v2,h1,h2,h3⟩,k=>⟨v1,v2++_,by rw[h1,List.append_assoc],h2,h3.append k⟩
theorem dU.at_ {o:Mark} {w:World}:∀{vs:List Value} {l:List iB} {k:Nat} {x:iB},dU o w vs l→l[k]? =some x→∃a c q,vs[k*3]? =some (.int .i64 x.id)∧vs[k*3+1]? =some (.slice a x.hash.length c)∧vs[k*3+2]? =some (ptr q)∧x.hash.length≤c∧ak (fun b=>o b=0∧b<w.heap.size) w a x.hash.length (x.hash.map bv)∧eU o 0 w q x.t∧dA x.t
 |_,[],k,x,_,hx=>by simp at hx
 |_,y::r,0,x,⟨v1,v2,h1,h2,h3⟩,hx=>by
  have hyx:y=x:=Option.some.inj hx
  subst hyx
  obtain⟨a,c,q,e1,e2,e3,e4,e5⟩:=h2
  subst e1 h1
  exact⟨a,c,q,rfl,rfl,rfl,e2,e3,e4,e5⟩
 |_,y::r,k+1,x,⟨v1,v2,h1,h2,h3⟩,hx=>by
  obtain⟨a,c,q,e1,e2,e3,e4⟩:=dU.at_ h3 (k:=k) (x:=x) (by simpa using hx)
  have hl:=h2.len
  subst h1
  refine⟨a,c,q,?_,?_,?_,e4⟩
  ·rw[List.getElem?_append_right (by omega),←e1];congr 1;omega
  ·rw[List.getElem?_append_right (by omega),←e2];congr 1;omega
  ·rw[List.getElem?_append_right (by omega),←e3];congr 1;omega
theorem dU.take {o:Mark} {w:World}:∀{vs:List Value} {l:List iB} (k:Nat),dU o w vs l→dU o w (vs.take (k*3)) (l.take k)
 |_,[],k,h=>by have h1:_=[]:=h;rw[h1];simp;exact rfl
 |_,y::r,0,_=>by simp;exact rfl
 |_,y::r,k+1,⟨v1,v2,h1,h2,h3⟩=>by
  subst h1
  have hl:=h2.len
  refine⟨v1,v2.take (k*3),?_,h2,h3.take k⟩
  rw[List.take_append,List.take_of_length_le (by omega)]
  congr 2
  omega
theorem dU.drop {o:Mark} {w:World}:∀{vs:List Value} {l:List iB} (k:Nat),dU o w vs l→dU o w (vs.drop (k*3)) (l.drop k)
 |_,[],k,h=>by have h1:_=[]:=h;rw[h1];simp;exact rfl
 |_,y::r,0,h=>by simpa using h
 |_,y::r,k+1,⟨v1,v2,h1,h2,h3⟩=>by
  subst h1
  have hl:=h2.len
  have h4:=h3.drop k
  rw[List.drop_append,List.drop_eq_nil_of_le (by omega)]
  have e:(k+1)*3-v1.length=k*3:=by omega
  rw[e]
  exact h4
theorem jC.step {o o':Mark} {I:Nat→Prop} {j:Nat} {w w':World} {s:Nat} {S:uh} (h:jC o j w s S) (hi:¬I 0) (hj:¬I j) (hs:Step o I w o' w'):jC o' j w' s S:=by
 obtain⟨v,la,lc,vals,h1,h2,h3,h4,h5,h6,h7,h8⟩:=h.at_
 refine⟨v,la,lc,vals,(hs.block h3 (by rw[h2];exact hj)).trans h1,(hs.old s h3).trans h2,Nat.lt_of_lt_of_le h3 hs.keep.size,?_,fun b hb=> ?_,h6.step hi hs,h7,h8.move hs.keep.size fun b hb hbw=>⟨⟨(hs.old b hb.2).trans hb.1,Nat.lt_of_lt_of_le hb.2 hs.keep.size⟩,hs.block hb.2 (by rw[hb.1];exact hi)⟩⟩
 ·obtain⟨k1,k2⟩:=h4
  refine⟨k1,?_⟩
  rcases k2 with k2|⟨g,cap,cur,e1,e2,e3,e4⟩
  ·exact .inl k2
  ·have h9:=h5 g (by rw[e1];rfl)
   exact .inr ⟨g,cap,cur,e1,e2,(hs.block h9.2.2 (by rw[h9.1];exact hj)).trans e3,e4⟩
 ·obtain⟨k1,k2,k3⟩:=h5 b hb
  exact⟨(hs.old b k3).trans k1,k2,Nat.lt_of_lt_of_le k3 hs.keep.size⟩
section
variable {W w:World} {o:Mark} {i s:Nat} {S:uh}
theorem jC.grow (h:jC o i w s S) {w':World} (hM:Marks W o w) (hb:Below w.heap.size w w'):jC o i w' s S:=
 h.step (I:=fun _=>False) (fun h=>h) (fun h=>h) (Step.grow hM hb)
theorem jC.lt (h:jC o i w s S):s<w.heap.size:=by
 obtain⟨v,la,lc,vals,h1,h2,h3,h4,h5,h6,h7,h8⟩:=h.at_
 exact h3
end
abbrev PN (a b:Int):Int:=bits .or .u32 a b
abbrev vQ (a b:Int):Int:=bits .xor .u32 a b
abbrev Ht (a b:Int):Int:=bits .and .u32 a b
def vR (x:Int) (s:Nat):Int:=PN (x*2^s%4294967296) (x/2^(32-s))
theorem jU (x k:Int) (s:Nat) (w:World) (hk:bits .and .u64 (IntKind.u64.wrap k) 31=(s:Int)) (h0:0<s) (h1:s<32):Calls Tryz.prog 232 #[.int .u32 x, .int .i64 k] w fun e w'=>e= .returned (.int .u32 (vR x s))∧w=w':=by
 have e1:(0:Int)≤(s:Int):=by omega
 have e2:(s:Int)≤32:=by omega
 have e3:IntKind.u64.wrap (32-(s:Int))=32-(s:Int):=by simp[IntKind.wrap,IntKind.bits,IntKind.signed];omega
 have e4:(0:Int)≤32-(s:Int):=by omega
 have e5:32-(s:Int)≤32:=by omega
 go_enter Tryz.func232,Tryz.ntmps232
 go_wp2
 go_ret
 exact⟨rfl,rfl⟩
def Lj (a b c d:UInt8):Int:=PN (PN (PN (PN 0 ((d.toNat:Int)%4294967296)) ((c.toNat:Int)%4294967296*256%4294967296)) ((b.toNat:Int)%4294967296*65536%4294967296)) ((a.toNat:Int)%4294967296*16777216%4294967296)
theorem Hu {S:Nat→Prop} (ad:Option Addr) (n c:Nat) (bs:List UInt8) (w:World) (hr:ak S w ad n (bs.map bv)) (hn:4≤n):Calls Tryz.prog 231 #[.slice ad n c] w fun e w'=>e= .returned (.int .u32 (Lj (bs.getD 0 0) (bs.getD 1 0) (bs.getD 2 0) (bs.getD 3 0)))∧w=w':=by
 obtain⟨b,off,rfl,-,-,hc⟩:=hr.at_ (by omega)
 have hl:bs.length=n:=by simpa using hr.length
 have hm:=hr.small
 unfold maxLen at hm
 have q:∀i,i<4→w.cell? ⟨b,off+i,none⟩=some (bv (bs.getD i 0)):=fun i hi=>by
  rw[hc i (by omega),List.getElem?_map,List.getElem?_eq_getElem (by omega),List.getD_eq_getElem?_getD,List.getElem?_eq_getElem (by omega)]
  rfl
 have q0:w.cell? ⟨b,off,none⟩=some (.int .u8 ((bs.getD 0 0).toNat:Int)):=q 0 (by omega)
 have q1:w.cell? ⟨b,off+1,none⟩=some (.int .u8 ((bs.getD 1 0).toNat:Int)):=q 1 (by omega)
 have q2:w.cell? ⟨b,off+2,none⟩=some (.int .u8 ((bs.getD 2 0).toNat:Int)):=q 2 (by omega)
 have q3:w.cell? ⟨b,off+3,none⟩=some (.int .u8 ((bs.getD 3 0).toNat:Int)):=q 3 (by omega)
 generalize bs.getD 0 0=b0 at*
 generalize bs.getD 1 0=b1 at*
 generalize bs.getD 2 0=b2 at*
 generalize bs.getD 3 0=b3 at*
 have d3:((n:Int)==3)=false:=by simp;omega
 have d2:((n:Int)==2)=false:=by simp;omega
 have d1:((n:Int)==1)=false:=by simp;omega
 have d0:((n:Int)==0)=false:=by simp;omega
 have l3:(3:Int)<(n:Int):=by omega
 have l2:(2:Int)<(n:Int):=by omega
 have l1:(1:Int)<(n:Int):=by omega
 have l0:(0:Int)<(n:Int):=by omega
 clear q hc hr
 go_enter Tryz.func231,Tryz.ntmps231
 go_wp2
 go_ret
 exact⟨rfl,rfl⟩
def kM:List Int:=[1116352408,1899447441,3049323471,3921009573,961987163,1508970993,2453635748,2870763221,3624381080,310598401,607225278,1426881987,1925078388,2162078206,2614888103,3248222580,3835390401,4022224774,264347078,604807628,770255983,1249150122,1555081692,1996064986,2554220882,2821834349,2952996808,3210313671,3336571891,3584528711,113926993,338241895,666307205,773529912,1294757372,1396182291,1695183700,1986661051,2177026350,2456956037,2730485921,2820302411,3259730800,3345764771,3516065817,3600352804,4094571909,275423344,430227734,506948616,659060556,883997877,958139571,1322822218,1537002063,1747873779,1955562222,2024104815,2227730452,2361852424,2428436474,2756734187,3204031479,3329325298]
def yA:List Int:=[1779033703,3144134277,1013904242,2773480762,1359893119,2600822924,528734635,1541459225]
abbrev g_ (z:Int):Value:= .int .u32 z
abbrev EH (z:Int):Int:=z%4294967296
def CZ (b:List UInt8) (i:Nat):Int:=Lj ((b.drop (i*4)).getD 0 0) ((b.drop (i*4)).getD 1 0) ((b.drop (i*4)).getD 2 0) ((b.drop (i*4)).getD 3 0)
def XB (x:Int):Int:=vQ (vQ (vR x 25) (vR x 14)) (x/8)
def sg1 (x:Int):Int:=vQ (vQ (vR x 15) (vR x 13)) (x/1024)
def C8 (ws:List Int):Int:=EH (EH (EH (ws.getD (ws.length-16) 0+XB (ws.getD (ws.length-15) 0))+ws.getD (ws.length-7) 0)+sg1 (ws.getD (ws.length-2) 0))
def eZ (b:List UInt8):Nat→List Int
 |0=>(List.range 16).map (CZ b)
 |n+1=>eZ b n++[C8 (eZ b n)]
theorem qj (b:List UInt8):∀n,(eZ b n).length=16+n
 |0=>by simp[eZ]
 |n+1=>by unfold eZ;rw[List.length_append,qj b n];simp;omega
structure BH where
 a:Int
 c:Int
 d:Int
 e:Int
 f:Int
 g:Int
 h:Int
 j:Int
def TN (x:Int):Int:=bits .xor .u32 (if IntKind.u32.signed=true then-1 else IntKind.u32.max) x
def tM (s:BH) (k w:Int):Int:=EH (s.j+vQ (vQ (vR s.f 26) (vR s.f 21)) (vR s.f 7)+vQ (Ht s.f s.g) (Ht (TN s.f) s.h)+k+w)
def uM (s:BH):Int:=EH (vQ (vQ (vR s.a 30) (vR s.a 19)) (vR s.a 10)+vQ (vQ (Ht s.a s.c) (Ht s.a s.d)) (Ht s.c s.d))
def BI (s:BH) (k w:Int):BH:=⟨EH (tM s k w+uM s),s.a,s.c,s.d,EH (s.e+tM s k w),s.f,s.g,s.h⟩
def nE (s:BH) (ws:List Int):Nat→BH
 |0=>s
 |n+1=>BI (nE s ws n) (kM.getD n 0) (ws.getD n 0)
def BH.list (s:BH):List Int:=[s.a,s.c,s.d,s.e,s.f,s.g,s.h,s.j]
def BH.of (h:List Int):BH:=⟨h.getD 0 0,h.getD 1 0,h.getD 2 0,h.getD 3 0,h.getD 4 0,h.getD 5 0,h.getD 6 0,h.getD 7 0⟩
def jD (h:List Int) (b:List UInt8):List Int:=List.zipWith (fun x y=>EH (x+y)) h (nE (BH.of h) (eZ b 48) 64).list
theorem nG (h:List Int) (b:List UInt8) (hl:h.length=8):(jD h b).length=8:=by unfold jD;rw[List.length_zipWith,hl];rfl
def runM (h:List Int):Nat→List UInt8→List Int
 |0,_=>h
 |n+1,b=>runM (jD h (b.take 64)) n (b.drop 64)
theorem lu:∀(n:Nat) (h:List Int) (b:List UInt8),h.length=8→(runM h n b).length=8
 |0,h,b,hl=>hl
 |n+1,h,b,hl=>lu n _ _ (nG h _ hl)
end Go.Proofs.YtohpcppeajijnaaGreat
