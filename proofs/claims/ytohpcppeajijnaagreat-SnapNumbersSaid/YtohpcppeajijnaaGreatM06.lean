/- Plain laws of names and paths: lists of bytes alone. The tree, as plain data: what each call of package tree says, and what is behind it. Keys of kind int. A tree in memory; what turns it. What holds of each tree holds of it behind each call: counts, and the parts of it. -/
import Derived.Test.YtohpcppeajijnaaGreatM05
import Derived.Lib.Split
import Derived.Lib.SplitLaws
import Derived.Lib.Join
import Derived.Test.YtohpcppeajijnaaGreatM04
import Derived.Test.YtohpcppeajijnaaGreatM02
namespace Go.Proofs.YtohpcppeajijnaaGreat
set_option linter.unusedVariables false
open Go
def bV (ls:List (List UInt8)):Int:=if ls.any (fun x=> !dB x)then 12 else if 8<ls.length then 3 else 0
open Go.ChangeShapes Go.WideShapes Go.ChangeAt Go.RowKit
set_option linter.unusedSimpArgs false
abbrev Nm:=List UInt8
abbrev gL (a b:Int):Bool:=decide (a<b)
structure bf where
 kind:Int
 links:Int
 aS:Int
 closed:Bool
 b:List UInt8
 names:List (Nm×Int)
abbrev aI:=List (Int×bf)
section
variable {κ α:Type} [DecidableEq κ]
def aT (k:κ) (f:α→α) (l:List (κ×α)):List (κ×α):=l.map fun q=>if q.1=k then(q.1,f q.2)else q
theorem eP (k:κ) (y:κ×α) (r:List (κ×α)):aF k (y::r)=if y.1=k then some y.2 else aF k r:=by
 unfold aF
 by_cases h:y.1=k<;>simp[h]
theorem bF (k j:κ) (f:α→α) (l:List (κ×α)):aF j (aT k f l)=if j=k then(aF j l).map f else aF j l:=by
 induction l with
 |nil=>simp[aT,aF]
 |cons y r ih=>
  have ih':aF j (List.map (fun q:κ×α=>if q.1=k then(q.1,f q.2)else q) r)=if j=k then(aF j r).map f else aF j r:=ih
  unfold aT
  rw[List.map_cons,eP,eP,ih']
  by_cases h:y.1=k
  ·by_cases h2:y.1=j
   ·have:j=k:=h2▸h
    simp[h,this]
   ·have:j≠k:=fun e=>h2 (h.trans e.symm)
    have h3:¬k=j:=fun e=>this e.symm
    simp[h,h3,this]
  ·by_cases h2:y.1=j
   ·have:j≠k:=fun e=>h (h2.trans e)
    simp[h2,this]
   ·simp[h,h2]
theorem EO {β:Type} (k:κ) (f:α→α) (l:List (κ×α)) (g:κ→β):(aT k f l).map (fun q=>(q.1,g q.1))=l.map fun q=>(q.1,g q.1):=by
 unfold aT
 rw[List.map_map]
 apply List.map_congr_left
 intro q _
 by_cases h:q.1=k<;>simp[h]
theorem fD (k:κ) (f:α→α) (l:List (κ×α)):(aT k f l).length=l.length:=by simp[aT]
theorem jd {lt:κ→κ→Bool} (k:κ) (f:α→α) {l:List (κ×α)} (h:aJ lt l):aJ lt (aT k f l):=by
 unfold aJ aT
 rw[List.pairwise_map]
 refine List.Pairwise.imp (fun{a b} hab=> ?_) h
 by_cases h1:a.1=k<;>by_cases h2:b.1=k<;>simp_all
theorem bL {lt:κ→κ→Bool} (L:kg lt) {l:List (κ×α)} (h:aJ lt l) {q:κ×α} (hq:q∈l):aF q.1 l=some q.2:=h.get L hq
end
def aX (kind:Int):bf:=⟨kind,1,0,decide (kind=2),[],[]⟩
def kr:aI:=[(0,aX 2)]
def aY (T:aI):Int→List Nm→Int×Int
 |id,[]=>(id,0)
 |id,n::r=>match aF id T with
  |none=>(0,20)
  |some x=>if x.kind=2 then(match aF n x.names with
   |none=>(0,20)
   |some k=>aY T k r)else(0,23)
def fG (T:aI) (id:Int):Int:=match aF id T with|some x=>x.kind|none=>0
def mJ (T:aI) (id:Int):List (Nm×Int):=match aF id T with|some x=>x.names|none=>[]
def aV (T:aI) (p:List Nm):Int×Nm×Int:=
 if p=[]then(0,[],1)else
 if (aY T 0 p.dropLast).2≠0 then(0,[],(aY T 0 p.dropLast).2)else
 if fG T (aY T 0 p.dropLast).1=2 then((aY T 0 p.dropLast).1,p.getLastD [],0)else(0,[],23)
def u_ (T:aI):Int:=(((List.range (T.length+1)).map fun n:Nat=>(n:Int)+1).find? fun n=>(aF n T).isNone).getD 0
def setName (T:aI) (d:Int) (n:Nm) (id:Int):aI:=aT d (fun x=>{x with names:=bP bytesBefore n id x.names}) T
def aU (T:aI) (d:Int) (n:Nm):aI:=aT d (fun x=>{x with names:=bK n x.names}) T
def ou (T:aI) (p:List Nm) (kind:Int):aI:=setName (bP gL (u_ T) (aX kind) T) (aV T p).1 (aV T p).2.1 (u_ T)
def iA (T:aI) (p:List Nm) (kind:Int):Int:=
 if bV p≠0 then bV p else
 if ¬(kind=1∨kind=2)then 30 else
 if (aV T p).2.2≠0 then(aV T p).2.2 else
 if (aF (aV T p).2.1 (mJ T (aV T p).1)).isSome then 21 else
 if 64≤T.length then 4 else 0
def dw (T:aI) (p:List Nm) (kind:Int):(Int×Int)×aI:=
 if iA T p kind=0 then((u_ T,0),ou T p kind)else((0,iA T p kind),T)
def cK (T:aI) (id:Int):Int:=match aF id T with|none=>20|some x=>if x.kind=2 then 22 else 0
def iP (T:aI) (id:Int) (b:List UInt8):Int:=match aF id T with
 |none=>20
 |some x=>if x.kind=2 then 22 else if x.closed then 27 else if 4096<x.b.length+b.length then 15 else 0
def bI (T:aI) (id:Int) (b:List UInt8):Int×aI:=(iP T id b,if iP T id b=0 then aT id (fun x=>{x with b:=x.b++b}) T else T)
def eT (T:aI) (id:Int):aI:=match aF id T with
 |none=>T
 |some x=>if x.links=0∧x.closed=true then bK id T else T
def nT (T:aI) (id aS:Int):Int:=match aF id T with
 |none=>20
 |some x=>if x.kind=2 then 22 else if x.closed then 27 else if 1099511627776<aS then 1 else 0
def dZ (T:aI) (id aS:Int):Int×aI:=(nT T id aS,if nT T id aS=0 then eT (aT id (fun x=>{x with closed:=true,aS:=aS}) T) id else T)
def gu (T:aI) (id:Int):Int:=match aF id T with
 |none=>20
 |some x=>if x.kind=2 then 22 else if x.closed then 27 else 0
def rW (T:aI) (id:Int):aI:=bK id (T.map fun q=>(q.1,{q.2 with names:=q.2.names.filter fun e=> !decide (e.2=id)}))
def eu (T:aI) (id:Int):Int×aI:=(gu T id,if gu T id=0 then rW T id else T)
def kG (T:aI) (p:List Nm):Int×Int:=if bV p≠0 then(0,bV p)else aY T 0 p
def fT (T:aI) (p:List Nm):Int:=
 if (kG T p).2≠0 then(kG T p).2 else if fG T (aY T 0 p).1=2 then 22 else 0
def mW (T:aI) (p:List Nm):aI:=eT (aT (aY T 0 p).1 (fun x=>{x with links:=x.links-1}) (aU T (aV T p).1 (aV T p).2.1)) (aY T 0 p).1
def bg (T:aI) (p:List Nm):Int×aI:=(fT T p,if fT T p=0 then mW T p else T)
def cn (k:Int) (x:bf):Nat:=x.names.countP fun e=>decide (e.2=k)
def fZ (T:aI) (k:Int):Nat:=(T.map fun q=>cn k q.2).sum
structure DY (x:bf):Prop where
 kind:x.kind=1∨x.kind=2
 file:x.kind=1→x.names=[]
 dir:x.kind=2→x.links=1∧x.closed=true∧x.b=[]∧x.aS=0
 gone:x.links=0→x.closed=false
 sorted:aJ bytesBefore x.names
 good:∀e∈x.names,dB e.1=true
 size:x.b.length≤4096
 links:0≤x.links∧x.links≤64
 aS:0≤x.aS∧x.aS≤1099511627776
structure uK (T:aI):Prop where
 sorted:aJ gL T
 root:fG T 0=2
 each:∀k x,aF k T=some x→DY x
 leads:∀k x,aF k T=some x→∀e∈x.names,(aF e.2 T).isSome=true∧e.2≠0
 len:T.length≤64
 ids:∀k x,aF k T=some x→0≤k∧k≤65535
structure dR (T:aI):Prop extends uK T where
 counts:∀k x,aF k T=some x→k≠0→(fZ T k:Int)=x.links
theorem jE {T:aI} {id:Int} (h:fG T id=2):∃x,aF id T=some x∧x.kind=2:=by
 unfold fG at h
 cases hg:aF id T with
 |none=>rw[hg]at h;cases h
 |some x=>rw[hg]at h;exact⟨x,rfl,h⟩
theorem je {T:aI} (hT:dR T):∀(p:List Nm) (id:Int),(aF id T).isSome=true→(aY T id p).2=0→(aF (aY T id p).1 T).isSome=true
 |[],id,h,_=>h
 |n::r,id,h,he=>by
  obtain⟨x,hx⟩:=Option.isSome_iff_exists.1 h
  simp only[aY,hx]at he⊢
  split at he
  ·rename_i hk
   rw[if_pos hk]
   cases hn:aF n x.names with
   |none=>rw[hn]at he;cases he
   |some k=>
    rw[hn]at he
    exact je hT r k (hT.leads _ _ hx _ (eD hn)).1 he
  ·cases he
theorem gG {T:aI} (hT:dR T):(aF 0 T).isSome=true:=by
 obtain⟨x,h,_⟩:=jE hT.root
 simp[h]
def b_:uY Tryz.prog 3 Int where
 lit x:= .int .i64 x
 val x:= .int .i64 x
 ok x:=(Lit.int .i64 x).wf=true
 lt a b:=decide (a<b)
 law:=Go.Maps.int_keyed Tryz.underlying3
 of x h:=Go.Maps.keyOf_int_mk Tryz.underlying3 h
 inv v kl h:=by
  obtain⟨x,e1,e2,e3⟩:=Go.Maps.keyOf_int_inv Tryz.underlying3 h
  exact⟨x,e1,e2,e3⟩
 same a b:=by simp[Lit.sameKey]
 before a b:=by simp[Lit.before]
 isKey a:=by exact trivial
theorem RX:kg (fun a b:Int=>decide (a<b)):=⟨fun a=>by simp,fun a b c h1 h2=>by simp at*;omega,fun a b h=>by simp;omega⟩
inductive Own where
 |none
 |head
 |items
 |item (k:Int)
 |names (k:Int)
abbrev ptr (b:Nat):Value:= .pointer (some ⟨b,0,none⟩)
def dO (x:bf) (nb:Nat):Value:=if x.kind=2 then .map (some nb)else .map none
def gK (k:Int) (x:bf) (a:Option Addr) (c nb:Nat):Array Value:=
 #[.int .i64 k, .int .i64 x.kind, .int .i64 x.links, .int .i64 x.b.length, .int .u64 x.aS, .bool x.closed, .slice a x.b.length c,dO x nb]
def dP (x:bf):List (Nm×Value):=x.names.map fun e=>(e.1, .int .i64 e.2)
def qN (n c:Nat):Prop:=n≤c∧c≤maxLen
structure gU (D:Nat→Prop) (w:World) (k:Int) (ib nb:Nat) (x:bf):Prop where
 cells:∃a c,w.heap[ib]? =some (.cells (gK k x a c nb) 109 (0,0))∧qN x.b.length c∧ak D w a x.b.length (x.b.map bv)
 names:x.kind=2→MapAt gF w nb (dP x)
structure aK (g:Nat→Own) (D:Nat→Prop) (w:World) (p mb:Nat) (ib nb:Int→Nat) (T:aI):Prop where
 head:w.heap[p]? =some (.cells #[.map (some mb)] 96 (0,0))
 map:MapAt b_ w mb (T.map fun q=>(q.1,ptr (ib q.1)))
 item:∀k x,aF k T=some x→gU D w k (ib k) (nb k) x
 nX:g p= .head
 iJ:g mb= .items
 mX:∀k x,aF k T=some x→g (ib k)= .item k
 lq:∀k x,aF k T=some x→x.kind=2→g (nb k)= .names k
 data:∀b,D b→g b= .none
 low:∀b,g b≠ .none→b<w.heap.size
 lN:∀b,D b→b<w.heap.size
theorem gU.move {D D':Nat→Prop} {w w':World} {k:Int} {ib nb:Nat} {x:bf} (h:gU D w k ib nb x) (hs:w.heap.size≤w'.heap.size) (hi:w'.heap[ib]? =w.heap[ib]?) (hn:x.kind=2→w'.heap[nb]? =w.heap[nb]?) (hD:∀b,D b→b<w.heap.size→D' b∧w'.heap[b]? =w.heap[b]?):gU D' w' k ib nb x:=by
 obtain⟨⟨a,c,h1,h2,h3⟩,h4⟩:=h
 exact⟨⟨a,c,hi.trans h1,h2,h3.move hs hD⟩,fun hk=>(h4 hk).kept (hn hk)⟩
theorem aK.keeps {g:Nat→Own} {D fp:Nat→Prop} {w w':World} {p mb:Nat} {ib nb:Int→Nat} {T:aI} (h:aK g D w p mb ib nb T) (hK:Keeps fp w w') (hn:∀b,g b≠ .none∨D b→¬fp b):aK g D w' p mb ib nb T:=by
 have hb:∀b,g b≠ .none→w'.heap[b]? =w.heap[b]? :=fun b hb=>hK.block b (h.low b hb) (hn b (.inl hb))
 refine⟨(hb p (by rw[h.nX];simp)).trans h.head,h.map.kept (hb mb (by rw[h.iJ];simp)),fun k x hx=>(h.item k x hx).move hK.size (hb _ (by rw[h.mX k x hx];simp)) (fun hk=>hb _ (by rw[h.lq k x hx hk];simp)) fun b hb hbw=>⟨hb,hK.block b hbw (hn b (.inr hb))⟩,
  h.nX,h.iJ,h.mX,h.lq,h.data,fun b hb=>Nat.lt_of_lt_of_le (h.low b hb) hK.size,fun b hb=>Nat.lt_of_lt_of_le (h.lN b hb) hK.size⟩
theorem aK.below {g:Nat→Own} {D:Nat→Prop} {w w':World} {B p mb:Nat} {ib nb:Int→Nat} {T:aI} (h:aK g D w p mb ib nb T) (hb:Below B w w') (hB:w.heap.size≤B):aK g D w' p mb ib nb T:=
 h.keeps (fp:=fun x=>B≤x) (Keeps.below hb) fun b hx hf=>by
  rcases hx with hx|hx
  ·have:=h.low b hx;omega
  ·have:=h.lN b hx;omega
theorem aK.aT {g:Nat→Own} {D D':Nat→Prop} {w w':World} {p mb:Nat} {ib nb:Int→Nat} {T:aI} (h:aK g D w p mb ib nb T) {k:Int} {x:bf} {f:bf→bf} (hx:aF k T=some x) (hfk:(f x).kind=x.kind)
  (hD:∀b,D b→D' b) (hD':∀b,D' b→g b= .none∧b<w'.heap.size) (hsz:w.heap.size≤w'.heap.size) (hb:∀b,b<w.heap.size→g b≠ .item k→g b≠ .names k→w'.heap[b]? =w.heap[b]?) (hi:gU D' w' k (ib k) (nb k) (f x)):
  aK g D' w' p mb ib nb (aT k f T):=by
 refine⟨(hb p (h.low p (by rw[h.nX];simp)) (by rw[h.nX];simp) (by rw[h.nX];simp)).trans h.head,?_,?_,h.nX,h.iJ,?_,?_,fun b hb=>(hD' b hb).1,fun b hb=>Nat.lt_of_lt_of_le (h.low b hb) hsz,fun b hb=>(hD' b hb).2⟩
 ·have:=h.map.kept (hb mb (h.low mb (by rw[h.iJ];simp)) (by rw[h.iJ];simp) (by rw[h.iJ];simp))
  rw[EO k f T (fun j=>ptr (ib j))]
  exact this
 ·intro j y hy
  rw[bF]at hy
  by_cases hj:j=k
  ·subst hj
   rw[if_pos rfl,hx]at hy
   simp only[Option.map_some,Option.some.injEq]at hy
   subst hy
   exact hi
  ·rw[if_neg hj]at hy
   refine(h.item j y hy).move hsz (hb _ (h.low _ (by rw[h.mX j y hy];simp)) (by rw[h.mX j y hy];simpa using hj) (by rw[h.mX j y hy];simp)) (fun hk=>hb _ (h.low _ (by rw[h.lq j y hy hk];simp)) (by rw[h.lq j y hy hk];simp) (by rw[h.lq j y hy hk];simpa using hj)) ?_
   intro b Af hbw
   refine⟨hD b Af,hb b hbw ?_ ?_⟩<;>rw[h.data b Af]<;>simp
 ·intro j y hy
  rw[bF]at hy
  by_cases hj:j=k
  ·subst hj;exact h.mX j x hx
  ·rw[if_neg hj]at hy;exact h.mX j y hy
 ·intro j y hy hk
  rw[bF]at hy
  by_cases hj:j=k
  ·subst hj
   rw[if_pos rfl,hx]at hy
   simp only[Option.map_some,Option.some.injEq]at hy
   subst hy
   exact h.lq j x hx (hfk▸hk)
  ·rw[if_neg hj]at hy;exact h.lq j y hy hk
theorem xL {κ α β:Type} (lt:κ→κ→Bool) (f:κ→α→β) (x:κ×α):∀l:List (κ×α),(gB lt x l).map (fun p=>(p.1,f p.1 p.2))=gB lt (x.1,f x.1 x.2) (l.map fun p=>(p.1,f p.1 p.2))
 |[]=>rfl
 |y::r=>by
  unfold gB
  simp only[List.map_cons]
  split<;>simp[xL lt f x r]
theorem rX {κ α β:Type} [DecidableEq κ] (f:κ→α→β) (k:κ) (l:List (κ×α)):(bK k l).map (fun p=>(p.1,f p.1 p.2))=bK k (l.map fun p=>(p.1,f p.1 p.2)):=by
 simp[bK,List.filter_map,Function.comp_def]
theorem rY {κ α β:Type} [DecidableEq κ] (lt:κ→κ→Bool) (f:κ→α→β) (k:κ) (v:α) (l:List (κ×α)):(bP lt k v l).map (fun p=>(p.1,f p.1 p.2))=bP lt k (f k v) (l.map fun p=>(p.1,f p.1 p.2)):=by
 simp only[bP,xL,rX]
theorem dV {κ α:Type} [DecidableEq κ] (lt:κ→κ→Bool) (k j:κ) (v:α) (l:List (κ×α)):aF j (bP lt k v l)=if j=k then some v else aF j l:=by
 by_cases h:j=k
 ·subst h;rw[if_pos rfl,uZ]
 ·rw[if_neg h,uj lt h]
theorem fF {κ α:Type} [DecidableEq κ] (k j:κ) (l:List (κ×α)):aF j (bK k l)=if j=k then none else aF j l:=by
 by_cases h:j=k
 ·subst h;rw[if_pos rfl,kZ]
 ·rw[if_neg h,nS h]
theorem aK.add {g:Nat→Own} {D:Nat→Prop} {w w':World} {p mb:Nat} {ib nb:Int→Nat} {T:aI} (h:aK g D w p mb ib nb T) {k:Int} {x:bf} {i n:Nat} (hi0:w.heap.size≤i) (hn0:w.heap.size≤n) (hin:i≠n) (hiw:i<w'.heap.size) (hnw:x.kind=2→n<w'.heap.size) (hx0:aF k T=none) (hxb:x.b=[])
  (hm:MapAt b_ w' mb (bP gL k (ptr i) (T.map fun q=>(q.1,ptr (ib q.1))))) (hsz:w.heap.size≤w'.heap.size) (hb:∀b,b<w.heap.size→b≠mb→w'.heap[b]? =w.heap[b]?) (hi:gU (fun _=>False) w' k i n x):
  aK (fun b=>if b=i then .item k else if b=n∧x.kind=2 then .names k else g b) D w' p mb (fun j=>if j=k then i else ib j) (fun j=>if j=k then n else nb j) (bP gL k x T):=by
 have hgl:∀b,g b≠ .none→b≠i∧b≠n:=fun b hb=>by have:=h.low b hb;omega
 have hgg:∀b,g b≠ .none→(if b=i then Own.item k else if b=n∧x.kind=2 then .names k else g b)=g b:=fun b hb=>by
  obtain⟨h1,h2⟩:=hgl b hb
  rw[if_neg h1,if_neg (fun h=>h2 h.1)]
 have hp:g p≠ .none:=by rw[h.nX];simp
 have hmm:g mb≠ .none:=by rw[h.iJ];simp
 refine⟨(hb p (h.low p hp) (fun e=>by have:=h.nX;rw[e,h.iJ]at this;cases this)).trans h.head,?_,?_,(hgg p hp).trans h.nX,(hgg mb hmm).trans h.iJ,?_,?_,?_,?_,fun b hb=>Nat.lt_of_lt_of_le (h.lN b hb) hsz⟩
 ·have e1:(bP gL k x T).map (fun q=>(q.1,ptr ((fun j=>if j=k then i else ib j) q.1)))=bP gL k (ptr i) (T.map fun q=>(q.1,ptr (ib q.1))):=by
   rw[rY gL (fun j _=>ptr ((fun j=>if j=k then i else ib j) j))]
   simp only[if_pos]
   congr 1
   apply List.map_congr_left
   intro q hq
   have:q.1≠k:=iZ.1 hx0 q hq
   rw[if_neg this]
  rw[e1]
  exact hm
 ·intro j y hy
  rw[dV]at hy
  by_cases hj:j=k
  ·subst hj
   rw[if_pos rfl]at hy
   cases hy
   simp only[if_pos]
   refine hi.move (Nat.le_refl _) rfl (fun _=>rfl) (fun b hb=>hb.elim)
  ·rw[if_neg hj]at hy
   simp only[if_neg hj]
   have t1:=h.mX j y hy
   refine(h.item j y hy).move hsz (hb _ (h.low _ (by rw[t1];simp)) (fun e=>by rw[e,h.iJ]at t1;cases t1)) (fun hk=>hb _ (h.low _ (by rw[h.lq j y hy hk];simp)) (fun e=>by have t2:=h.lq j y hy hk;rw[e,h.iJ]at t2;cases t2)) ?_
   intro b Af hbw
   exact⟨Af,hb b hbw (fun e=>by have:=h.data b Af;rw[e,h.iJ]at this;cases this)⟩
 ·intro j y hy
  rw[dV]at hy
  by_cases hj:j=k
  ·subst hj;simp
  ·rw[if_neg hj]at hy
   have t1:=h.mX j y hy
   simp only[if_neg hj]
   rw[hgg _ (by rw[t1];simp)]
   exact t1
 ·intro j y hy hk
  rw[dV]at hy
  by_cases hj:j=k
  ·subst hj
   rw[if_pos rfl]at hy
   cases hy
   simp only[if_pos]
   rw[if_neg (Ne.symm hin),if_pos ⟨trivial,hk⟩]
  ·rw[if_neg hj]at hy
   have t1:=h.lq j y hy hk
   simp only[if_neg hj]
   rw[hgg _ (by rw[t1];simp)]
   exact t1
 ·intro b Af
  have:=h.lN b Af
  rw[if_neg (by omega),if_neg (by omega)]
  exact h.data b Af
 ·intro b hbn
  by_cases h1:b=i
  ·omega
  ·by_cases h2:b=n∧x.kind=2
   ·have:=hnw h2.2;omega
   ·simp only[if_neg h1,if_neg h2]at hbn
    exact Nat.lt_of_lt_of_le (h.low b hbn) hsz
theorem aK.del {g:Nat→Own} {D:Nat→Prop} {w w':World} {p mb:Nat} {ib nb:Int→Nat} {T:aI} (h:aK g D w p mb ib nb T) {k:Int}
  (hm:MapAt b_ w' mb (bK k (T.map fun q=>(q.1,ptr (ib q.1))))) (hsz:w.heap.size≤w'.heap.size) (hb:∀b,b<w.heap.size→b≠mb→w'.heap[b]? =w.heap[b]?):aK g D w' p mb ib nb (bK k T):=by
 have hp:g p≠ .none:=by rw[h.nX];simp
 have hget:∀j y,aF j (bK k T)=some y→aF j T=some y:=fun j y hy=>by
  rw[fF]at hy
  split at hy
  ·cases hy
  ·exact hy
 refine⟨(hb p (h.low p hp) (fun e=>by have:=h.nX;rw[e,h.iJ]at this;cases this)).trans h.head,?_,?_,h.nX,h.iJ,fun j y hy=>h.mX j y (hget j y hy),fun j y hy=>h.lq j y (hget j y hy),h.data,fun b hb=>Nat.lt_of_lt_of_le (h.low b hb) hsz,fun b hb=>Nat.lt_of_lt_of_le (h.lN b hb) hsz⟩
 ·rw[rX (fun j _=>ptr (ib j))];exact hm
 ·intro j y hy'
  have hy:=hget j y hy'
  have t1:=h.mX j y hy
  refine(h.item j y hy).move hsz (hb _ (h.low _ (by rw[t1];simp)) (fun e=>by rw[e,h.iJ]at t1;cases t1)) (fun hk=>hb _ (h.low _ (by rw[h.lq j y hy hk];simp)) (fun e=>by have t2:=h.lq j y hy hk;rw[e,h.iJ]at t2;cases t2)) ?_
  intro b Af hbw
  exact⟨Af,hb b hbw (fun e=>by have:=h.data b Af;rw[e,h.iJ]at this;cases this)⟩
theorem rZ {κ α β:Type} [DecidableEq κ] (f:κ→α→β) (k:κ) (l:List (κ×α)):aF k (l.map fun p=>(p.1,f p.1 p.2))=(aF k l).map (f k):=by
 induction l with
 |nil=>rfl
 |cons y r ih=>
  rw[List.map_cons,eP,eP,ih]
  by_cases h:y.1=k
  ·subst h;simp
  ·simp[h]
theorem fH (ib:Int→Nat) (T:aI) (k:Int):aF k (T.map fun q=>(q.1,ptr (ib q.1)))=(aF k T).map fun _=>ptr (ib k):=rZ (fun j (_:bf)=>ptr (ib j)) k T
theorem lu (x:bf) (n:Nm):aF n (dP x)=(aF n x.names).map fun i=>(.int .i64 i:Value):=rZ (fun(_:Nm) (i:Int)=>Value.int .i64 i) n x.names
theorem gU.cell {D:Nat→Prop} {w:World} {k:Int} {ib nb:Nat} {x:bf} (h:gU D w k ib nb x):
  w.cell? ⟨ib,0,none⟩=some (.int .i64 k)∧w.cell? ⟨ib,1,none⟩=some (.int .i64 x.kind)∧w.cell? ⟨ib,2,none⟩=some (.int .i64 x.links)∧w.cell? ⟨ib,3,none⟩=some (.int .i64 x.b.length)∧w.cell? ⟨ib,4,none⟩=some (.int .u64 x.aS)∧w.cell? ⟨ib,5,none⟩=some (.bool x.closed)∧w.cell? ⟨ib,7,none⟩=some (dO x nb)∧ib<w.heap.size:=by
 obtain⟨⟨a,c,h1,_⟩,_⟩:=h
 have:=(Array.getElem?_eq_some_iff.1 h1).1
 refine⟨?_,?_,?_,?_,?_,?_,?_,this⟩<;>(simp only[World.cell?,h1];rfl)
theorem aK.cell {g:Nat→Own} {D:Nat→Prop} {w:World} {p mb:Nat} {ib nb:Int→Nat} {T:aI} (h:aK g D w p mb ib nb T):w.cell? ⟨p,0,none⟩=some (.map (some mb))∧p<w.heap.size∧mb<w.heap.size:=by
 have:=(Array.getElem?_eq_some_iff.1 h.head).1
 exact⟨by simp[World.cell?,h.head],this,h.map.lt⟩
theorem dD:kg gL:=RX
theorem pq {T:aI} (hs:aJ gL T) {d:Int} {x:bf} (f:bf→bf) (hx:aF d T=some x) (k:Int):fZ (aT d f T) k+cn k x=fZ T k+cn k (f x):=by
 induction T with
 |nil=>cases hx
 |cons y r ih=>
  have hp:=hs.apart dD
  obtain⟨h1,h2⟩:=List.pairwise_cons.1 hp
  rw[eP]at hx
  by_cases hy:y.1=d
  ·rw[if_pos hy]at hx
   cases hx
   have hr:aT d f r=r:=by
    unfold aT
    conv=>rhs;rw[←List.map_id r]
    apply List.map_congr_left
    intro q hq
    have:=h1 q hq
    rw[if_neg (fun e=>this (hy.trans e.symm))]
    rfl
   have e:aT d f (y::r)=(y.1,f y.2)::r:=by
    have:aT d f (y::r)=(if y.1=d then(y.1,f y.2)else y)::aT d f r:=rfl
    rw[this,hr,if_pos hy]
   rw[e]
   simp[fZ]
   omega
  ·rw[if_neg hy]at hx
   have:=ih (List.pairwise_cons.1 hs).2 hx
   have e:aT d f (y::r)=y::aT d f r:=by
    have:aT d f (y::r)=(if y.1=d then(y.1,f y.2)else y)::aT d f r:=rfl
    rw[this,if_neg hy]
   rw[e]
   simp[fZ]at this⊢
   omega
theorem xM (x:Int×bf):∀(T:aI) (k:Int),fZ (gB gL x T) k=fZ T k+cn k x.2
 |[],k=>by simp[gB,fZ]
 |y::r,k=>by
  unfold gB
  split
  ·simp[fZ];omega
  ·have:=xM x r k
   simp[fZ]at this⊢
   omega
theorem r_ {T:aI} (hs:aJ gL T) {d:Int} {x:bf} (hx:aF d T=some x) (k:Int):fZ (bK d T) k+cn k x=fZ T k:=by
 induction T with
 |nil=>cases hx
 |cons y r ih=>
  have hp:=hs.apart dD
  obtain⟨h1,h2⟩:=List.pairwise_cons.1 hp
  rw[eP]at hx
  by_cases hy:y.1=d
  ·rw[if_pos hy]at hx
   cases hx
   have hr:bK d r=r:=by
    unfold bK
    rw[List.filter_eq_self]
    intro q hq
    have:=h1 q hq
    simp only[Bool.not_eq_true',decide_eq_false_iff_not]
    exact fun e=>this (hy.trans e.symm)
   have e:bK d (y::r)=r:=by
    have:bK d (y::r)=if (!decide (y.1=d))=true then y::bK d r else bK d r:=by simp[bK,List.filter_cons]
    rw[this,hr];simp[hy]
   rw[e]
   simp[fZ]
   omega
  ·rw[if_neg hy]at hx
   have:=ih (List.pairwise_cons.1 hs).2 hx
   have e:bK d (y::r)=y::bK d r:=by
    have:bK d (y::r)=if (!decide (y.1=d))=true then y::bK d r else bK d r:=by simp[bK,List.filter_cons]
    rw[this];simp[hy]
   rw[e]
   simp[fZ]at this⊢
   omega
theorem NY {T:aI} {k j:Int} {x:bf} (hx:aF j T=some x):cn k x≤fZ T k:=by
 have hm:=eD hx
 have:∀(l:aI),(j,x)∈l→cn k x≤(l.map fun q=>cn k q.2).sum:=by
  intro l
  induction l with
  |nil=>simp
  |cons y r ih=>
   intro h
   simp only[List.map_cons,List.sum_cons]
   rcases List.mem_cons.1 h with rfl|h
   ·exact Nat.le_add_right _ _
   ·have:=ih h;omega
 exact this T hm
theorem DZ {T:aI} {k:Int} (h:fZ T k=0) {j:Int} {x:bf} (hx:aF j T=some x):∀e∈x.names,e.2≠k:=by
 have h1:cn k x=0:=by have:=NY (k:=k) hx;omega
 unfold cn at h1
 rw[List.countP_eq_zero]at h1
 intro e he
 have:=h1 e he
 simpa using this
theorem uK.aT {T:aI} (h:uK T) {k:Int} {x:bf} {f:bf→bf} (hx:aF k T=some x) (h1:DY (f x)) (hk:(f x).kind=x.kind) (hn:∀e∈(f x).names,(aF e.2 T).isSome=true∧e.2≠0):uK (Go.Proofs.YtohpcppeajijnaaGreat.aT k f T):=by
 have hget:∀j y,aF j (Go.Proofs.YtohpcppeajijnaaGreat.aT k f T)=some y→(j=k∧y=f x)∨(j≠k∧aF j T=some y):=fun j y hy=>by
  rw[bF]at hy
  by_cases hj:j=k
  ·subst hj
   rw[if_pos rfl,hx]at hy
   simp only[Option.map_some,Option.some.injEq]at hy
   exact .inl ⟨rfl,hy.symm⟩
  ·rw[if_neg hj]at hy;exact .inr ⟨hj,hy⟩
 have hsome:∀j,(aF j T).isSome=true→(aF j (Go.Proofs.YtohpcppeajijnaaGreat.aT k f T)).isSome=true:=fun j hj=>by
  rw[bF];split<;>simp[hj]
 refine⟨jd k f h.sorted,?_,fun j y hy=> ?_,fun j y hy e he=> ?_,by rw[fD];exact h.len,fun j y hy=> ?_⟩
 ·have hr:=h.root
  unfold fG at hr⊢
  rw[bF]
  by_cases h0:(0:Int)=k
  ·subst h0
   rw[if_pos rfl,hx]
   rw[hx]at hr
   exact hk.trans hr
  ·rw[if_neg h0];exact hr
 ·rcases hget j y hy with⟨rfl,rfl⟩|⟨_,hy⟩
  ·exact h1
  ·exact h.each j y hy
 ·rcases hget j y hy with⟨rfl,rfl⟩|⟨_,hy⟩
  ·exact⟨hsome _ (hn e he).1,(hn e he).2⟩
  ·exact⟨hsome _ (h.leads j y hy e he).1,(h.leads j y hy e he).2⟩
 ·rcases hget j y hy with⟨rfl,rfl⟩|⟨_,hy⟩
  ·exact h.ids j x hx
  ·exact h.ids j y hy
theorem dR.aT {T:aI} (h:dR T) {k:Int} {x:bf} {f:bf→bf} (hx:aF k T=some x) (h1:DY (f x)) (hk:(f x).kind=x.kind) (hn:∀e∈(f x).names,(aF e.2 T).isSome=true∧e.2≠0)
  (hc:∀j y,aF j (Go.Proofs.YtohpcppeajijnaaGreat.aT k f T)=some y→j≠0→(fZ (Go.Proofs.YtohpcppeajijnaaGreat.aT k f T) j:Int)=y.links):dR (Go.Proofs.YtohpcppeajijnaaGreat.aT k f T):=⟨h.touK.aT hx h1 hk hn,hc⟩
theorem dR.xO {T:aI} (h:dR T) {k:Int} {x:bf} {f:bf→bf} (hx:aF k T=some x) (h1:DY (f x)) (hk:(f x).kind=x.kind) (hn:(f x).names=x.names) (hl:(f x).links=x.links):dR (Go.Proofs.YtohpcppeajijnaaGreat.aT k f T):=by
 refine h.aT hx h1 hk (by rw[hn];exact h.leads k x hx) fun j y hy hj=> ?_
 have hcn:cn j (f x)=cn j x:=by unfold cn;rw[hn]
 have:=pq h.sorted f hx j
 rw[hcn]at this
 have e:fZ (Go.Proofs.YtohpcppeajijnaaGreat.aT k f T) j=fZ T j:=by omega
 rw[e]
 rw[bF]at hy
 by_cases hjk:j=k
 ·subst hjk
  rw[if_pos rfl,hx]at hy
  simp only[Option.map_some,Option.some.injEq]at hy
  rw[←hy,hl]
  exact h.counts j x hx hj
 ·rw[if_neg hjk]at hy
  exact h.counts j y hy hj
theorem Ii:∀(m:Nat) (T:aI),aJ gL T→(∀i:Nat,1≤i→i≤m→(aF (i:Int) T).isSome=true)→m≤T.length
 |0,_,_,_=>Nat.zero_le _
 |m+1,T,hs,h=>by
  obtain⟨x,hx⟩:=Option.isSome_iff_exists.1 (h (m+1) (by omega) (by omega))
  have h1:=oq dD hs hx
  have h2:=Ii m (bK ((m+1:Nat):Int) T) (hs.bK _) (fun i hi him=>by
   rw[fF,if_neg (by omega)]
   exact h i hi (by omega))
  omega
theorem BZ {T:aI} (hs:aJ gL T):∃f:Nat,u_ T=f∧1≤f∧f≤T.length+1∧aF (f:Int) T=none∧∀i:Nat,1≤i→i<f→(aF (i:Int) T).isSome=true:=by
 unfold u_
 cases hf:(((List.range (T.length+1)).map fun n:Nat=>(n:Int)+1).find? fun n=>(aF n T).isNone)with
 |none=>
  exfalso
  have h1:=List.find?_eq_none.1 hf
  have:=Ii (T.length+1) T hs (fun i hi him=>by
   have:=h1 (i:Int) (List.mem_map.2 ⟨i-1,by simp;omega,by omega⟩)
   cases hq:aF (i:Int) T with
   |none=>rw[hq]at this;simp at this
   |some v=>rfl)
  omega
 |some n=>
  rw[List.find?_eq_some_iff_append]at hf
  obtain⟨hn,xs,ys,hab,hpre⟩:=hf
  have hl:(xs++n::ys).length=T.length+1:=by rw[←hab];simp
  have hidx:∀i (hi:i<xs.length+1),(xs++n::ys)[i]? =some ((i:Int)+1):=fun i hi=>by
   rw[←hab]
   simp only[List.length_append,List.length_cons]at hl
   simp[List.getElem?_range (show i<T.length+1 by omega)]
  have hne:n=(xs.length:Int)+1:=by
   have:=hidx xs.length (by omega)
   simpa using this
  simp only[List.length_append,List.length_cons]at hl
  refine⟨xs.length+1,by simp[hne],by omega,by omega,?_,fun i hi hif=> ?_⟩
  ·have:((xs.length+1:Nat):Int)=n:=by omega
   rw[this]
   simpa using hn
  ·have h2:=hidx (i-1) (by omega)
   rw[List.getElem?_append_left (by omega)]at h2
   have h3:=hpre _ (List.mem_of_getElem? h2)
   have e:((i-1:Nat):Int)+1=i:=by omega
   rw[e]at h3
   cases hq:aF (i:Int) T with
   |none=>rw[hq]at h3;simp at h3
   |some v=>rfl
theorem dR.free {T:aI} (h:dR T):∃f:Nat,u_ T=f∧1≤f∧f≤T.length+1∧aF (f:Int) T=none∧∀i:Nat,1≤i→i<f→(aF (i:Int) T).isSome=true:=BZ h.sorted
theorem tN {α:Type} {l:List (Int×α)} {k:Int} (v:α) (h:aF k l=none):(bP gL k v l).length=l.length+1:=by
 unfold bP
 rw[tK,jC h]
theorem B_ {α:Type} (t:α→Int) (m:Nat):∀(ks:List Int) (E:List α),(∀e∈E,t e∈ks)→(∀k∈ks,E.countP (fun e=>decide (t e=k))≤m)→E.length≤m*ks.length
 |[],E,h,_=>by
  cases E with
  |nil=>simp
  |cons e r=>have:=h e (by simp);simp at this
 |k::ks,E,h,hc=>by
  have h1:=B_ t m ks (E.filter fun e=> !decide (t e=k)) (fun e he=>by
   obtain⟨h1,h2⟩:=List.mem_filter.1 he
   rcases List.mem_cons.1 (h e h1)with h3|h3
   ·simp[h3]at h2
   ·exact h3) (fun j hj=>by
    rw[List.countP_filter]
    refine Nat.le_trans (List.countP_mono_left fun e _ he=> ?_) (hc j (by simp[hj]))
    simp at he⊢
    exact he.1)
  have h2:=hc k (by simp)
  have h3:E.length=E.countP (fun e=>decide (t e=k))+(E.filter fun e=> !decide (t e=k)).length:=by
   rw[←List.countP_eq_length_filter]
   exact(List.length_eq_countP_add_countP (fun e=>decide (t e=k))).trans (by
    have:List.countP (fun a=>decide (¬decide (t a=k)=true)) E=List.countP (fun e=> !decide (t e=k)) E:=List.countP_congr (fun e _=>by simp)
    rw[this])
  rw[List.length_cons,Nat.mul_succ]
  omega
theorem dR.few {T:aI} (h:dR T) {k:Int} {x:bf} (hx:aF k T=some x):x.names.length≤4096:=by
 have h1:=B_ (fun e:Nm×Int=>e.2) 64 (T.map (·.1)) x.names (fun e he=>by
  obtain⟨y,hy⟩:=Option.isSome_iff_exists.1 (h.leads k x hx e he).1
  exact List.mem_map.2 ⟨_,eD hy,rfl⟩) (fun j hj=>by
   by_cases h0:j=0
   ·subst h0
    have:x.names.countP (fun e=>decide (e.2=0))=0:=by
     rw[List.countP_eq_zero]
     intro e he
     have:=(h.leads k x hx e he).2
     simpa using this
    omega
   ·obtain⟨q,hq,rfl⟩:=List.mem_map.1 hj
    have hy:=bL dD h.sorted hq
    have h2:=h.counts _ _ hy h0
    have h3:=(h.each _ _ hy).links
    have h4:=NY (k:=q.1) hx
    unfold cn at h4
    omega)
 have:=h.len
 rw[List.length_map]at h1
 omega
theorem ow {T:aI} (hs:aJ gL T) {k j:Int} {x y:bf} (h:aF j (bP gL k x T)=some y):(j=k∧y=x)∨(j≠k∧aF j T=some y):=by
 rw[dV]at h
 by_cases hj:j=k
 ·rw[if_pos hj]at h
  exact .inl ⟨hj,by simpa using h.symm⟩
 ·rw[if_neg hj]at h
  exact .inr ⟨hj,h⟩
theorem xP {kind:Int} (hk:kind=1∨kind=2):DY (aX kind):=by
 refine⟨hk,fun _=>rfl,fun h=>⟨rfl,?_,rfl,rfl⟩,(fun h=>by cases h),by simp[aX,aJ],by simp[aX],by simp[aX],by simp[aX],by simp[aX]⟩
 have:kind=2:=h
 simp[aX,this]
theorem uK.add {T:aI} (h:uK T) {f:Int} {kind:Int} (hk:kind=1∨kind=2) (hf:aF f T=none) (h1:0≤f) (h2:f≤65535) (hl:T.length<64):uK (bP gL f (aX kind) T):=by
 refine⟨h.sorted.bP dD _ _,?_,fun j y hy=> ?_,fun j y hy e he=> ?_,by rw[tN _ hf];omega,fun j y hy=> ?_⟩
 ·obtain⟨x,hx,hk0⟩:=jE h.root
  unfold fG
  rw[dV,if_neg (fun e=>by rw[e,hf]at hx;cases hx),hx]
  exact hk0
 ·rcases ow h.sorted hy with⟨rfl,rfl⟩|⟨_,hy⟩
  ·exact xP hk
  ·exact h.each j y hy
 ·rcases ow h.sorted hy with⟨rfl,rfl⟩|⟨_,hy⟩
  ·cases he
  ·have:=h.leads j y hy e he
   refine⟨?_,this.2⟩
   rw[dV]
   split
   ·rfl
   ·exact this.1
 ·rcases ow h.sorted hy with⟨rfl,rfl⟩|⟨_,hy⟩
  ·exact⟨h1,h2⟩
  ·exact h.ids j y hy
theorem Ij {T:aI} {f kind:Int} (hf:aF f T=none) (k:Int):fZ (bP gL f (aX kind) T) k=fZ T k:=by
 unfold bP
 rw[jC hf,xM]
 simp[cn,aX]
theorem D5 (n:Nm) (id k:Int):∀l:List (Nm×Int),(gB bytesBefore (n,id) l).countP (fun e=>decide (e.2=k))=l.countP (fun e=>decide (e.2=k))+if id=k then 1 else 0
 |[]=>by simp[gB,List.countP_cons]
 |y::r=>by
  unfold gB
  split
  ·simp[List.countP_cons]
  ·simp only[List.countP_cons,D5 n id k r]
   omega
theorem OO {x:bf} {n:Nm} {id:Int} (h:aF n x.names=none) (k:Int):cn k {x with names:=bP bytesBefore n id x.names}=cn k x+if id=k then 1 else 0:=by
 unfold cn bP
 simp only
 rw[jC h,D5]
theorem EP {T:aI} (h:uK T) {f:Int} (hf:aF f T=none):fZ T f=0:=by
 have:∀l:aI,(∀q∈l,cn f q.2=0)→fZ l f=0:=by
  intro l
  induction l with
  |nil=>intro _;rfl
  |cons y r ih=>
   intro hh
   have h1:=ih (fun q hq=>hh q (by simp[hq]))
   have h2:=hh y (by simp)
   unfold fZ at h1⊢
   simp only[List.map_cons,List.sum_cons]
   omega
 refine this T fun q hq=> ?_
 unfold cn
 rw[List.countP_eq_zero]
 intro e he hd
 have h1:=h.leads _ _ (bL dD h.sorted hq) e he
 simp only[decide_eq_true_eq]at hd
 rw[hd,hf]at h1
 cases h1.1
theorem Md {x:bf} (h:DY x) (hk:x.kind=2) {n:Nm} (hn:dB n=true) (id:Int):DY {x with names:=bP bytesBefore n id x.names}:=by
 refine⟨h.kind,fun h1=> ?_,h.dir,h.gone,h.sorted.bP Ac _ _,fun e he=> ?_,h.size,h.links,h.aS⟩
 ·have:x.kind=1:=h1
  omega
 ·rcases (mV bytesBefore).1 he with h1|h1
  ·rw[h1];exact hn
  ·exact h.good e (List.mem_filter.1 h1).1
theorem ER {x:bf} {n:Nm} {id:Int} {P:Nm×Int→Prop} (h:∀e∈x.names,P e) (h1:P (n,id)):∀e∈bP bytesBefore n id x.names,P e:=by
 intro e he
 rcases (mV bytesBefore).1 he with h2|h2
 ·rw[h2];exact h1
 ·exact h e (List.mem_filter.1 h2).1
theorem uK.set {T:aI} (h:uK T) {d:Int} {x:bf} {n:Nm} {id:Int} (hx:aF d T=some x) (hk:x.kind=2) (hn:dB n=true) (hid:(aF id T).isSome=true∧id≠0):uK (setName T d n id):=
 h.aT hx (Md (h.each d x hx) hk hn id) rfl (ER (h.leads d x hx) hid)
theorem dR.make {T:aI} (h:dR T) {d kind f:Int} {x:bf} {n:Nm} (hk:kind=1∨kind=2) (hf:aF f T=none) (h1:1≤f) (h2:f≤65535) (hl:T.length<64) (hx:aF d T=some x) (hxk:x.kind=2) (hn:dB n=true) (hnn:aF n x.names=none):
  dR (setName (bP gL f (aX kind) T) d n f):=by
 have hP:=h.touK.add hk hf (by omega) h2 hl
 have hdf:d≠f:=fun e=>by rw[e,hf]at hx;cases hx
 have hx':aF d (bP gL f (aX kind) T)=some x:=by rw[dV,if_neg hdf];exact hx
 have hff:aF f (bP gL f (aX kind) T)=some (aX kind):=by rw[dV,if_pos rfl]
 refine⟨hP.set hx' hxk hn ⟨by rw[hff];rfl,by omega⟩,fun j y hy hj=> ?_⟩
 have h3:=pq hP.sorted (fun x=>{x with names:=bP bytesBefore n f x.names}) hx' j
 have h4:=OO (id:=f) hnn j
 have h5:=Ij (kind:=kind) hf j
 have hgt:∀z,aF j (bP gL f (aX kind) T)=some z→z.links=y.links→(fZ (setName (bP gL f (aX kind) T) d n f) j:Int)=y.links:=by
  intro z hz hzl
  unfold setName
  rcases ow h.sorted hz with⟨rfl,rfl⟩|⟨Zl,hz⟩
  ·have:=EP h.touK hf
   rw[if_pos rfl]at h4
   have e:fZ (Go.Proofs.YtohpcppeajijnaaGreat.aT d (fun x=>{x with names:=bP bytesBefore n j x.names}) (bP gL j (aX kind) T)) j=1:=by omega
   rw[e,←hzl]
   rfl
  ·rw[if_neg (Ne.symm Zl)]at h4
   have:=h.counts j z hz hj
   have e:fZ (Go.Proofs.YtohpcppeajijnaaGreat.aT d (fun x=>{x with names:=bP bytesBefore n f x.names}) (bP gL f (aX kind) T)) j=fZ T j:=by omega
   rw[e,this,hzl]
 unfold setName at hy
 rw[bF]at hy
 by_cases hjd:j=d
 ·subst hjd
  rw[if_pos rfl,hx']at hy
  simp only[Option.map_some,Option.some.injEq]at hy
  exact hgt x hx' (by rw[←hy])
 ·rw[if_neg hjd]at hy
  exact hgt y hy rfl
end Go.Proofs.YtohpcppeajijnaaGreat
