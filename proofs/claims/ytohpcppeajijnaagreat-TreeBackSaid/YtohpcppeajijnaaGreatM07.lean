/- Plain laws of names and paths: lists of bytes alone. The tree, as plain data: what each call of package tree says, and what is behind it. Keys of kind int. A tree in memory; what turns it. What holds of each tree holds of it behind each call: counts, and the parts of it. -/
import Derived.Test.YtohpcppeajijnaaGreatM06
import Derived.Lib.Split
import Derived.Lib.SplitLaws
import Derived.Lib.Join
import Derived.Test.YtohpcppeajijnaaGreatM05
import Derived.Test.YtohpcppeajijnaaGreatM04
namespace Go.Proofs.YtohpcppeajijnaaGreat
set_option linter.unusedVariables false
open Go
def bM (ls:List (List UInt8)):Int:=if ls.any (fun x=> !bZ x)then 12 else if 8<ls.length then 3 else 0
open Go.ChangeShapes Go.WideShapes Go.ChangeAt Go.RowKit
set_option linter.unusedSimpArgs false
abbrev Nm:=List UInt8
abbrev fT (a b:Int):Bool:=decide (a<b)
structure bF where
 kind:Int
 links:Int
 aK:Int
 closed:Bool
 b:List UInt8
 names:List (Nm×Int)
abbrev aF:=List (Int×bF)
section
variable {κ α:Type} [DecidableEq κ]
def aX (k:κ) (f:α→α) (l:List (κ×α)):List (κ×α):=l.map fun q=>if q.1=k then(q.1,f q.2)else q
theorem eX (k:κ) (y:κ×α) (r:List (κ×α)):aj k (y::r)=if y.1=k then some y.2 else aj k r:=by
 unfold aj
 by_cases h:y.1=k<;>simp[h]
theorem aQ (k j:κ) (f:α→α) (l:List (κ×α)):aj j (aX k f l)=if j=k then(aj j l).map f else aj j l:=by
 induction l with
 |nil=>simp[aX,aj]
 |cons y r ih=>
  have ih':aj j (List.map (fun q:κ×α=>if q.1=k then(q.1,f q.2)else q) r)=if j=k then(aj j r).map f else aj j r:=ih
  unfold aX
  rw[List.map_cons,eX,eX,ih']
  by_cases h:y.1=k
  ·by_cases h2:y.1=j
   ·have:j=k:=h2▸h
    simp[h,this]
   ·have:j≠k:=fun e=>h2 (h.trans e.symm)
    have h3:¬k=j:=fun e=>this e.symm
    simp[h,h3,this]
  ·by_cases h2:y.1=j
   ·have:j≠k:=fun e=>h (h2.trans e)
    simp[h2,this]
   ·simp[h,h2]
theorem tK {β:Type} (k:κ) (f:α→α) (l:List (κ×α)) (g:κ→β):(aX k f l).map (fun q=>(q.1,g q.1))=l.map fun q=>(q.1,g q.1):=by
 unfold aX
 rw[List.map_map]
 apply List.map_congr_left
 intro q _
 by_cases h:q.1=k<;>simp[h]
theorem fP (k:κ) (f:α→α) (l:List (κ×α)):(aX k f l).length=l.length:=by simp[aX]
theorem jB {lt:κ→κ→Bool} (k:κ) (f:α→α) {l:List (κ×α)} (h:aI lt l):aI lt (aX k f l):=by
 unfold aI aX
 rw[List.pairwise_map]
 refine List.Pairwise.imp (fun{a b} hab=> ?_) h
 by_cases h1:a.1=k<;>by_cases h2:b.1=k<;>simp_all
theorem aY {lt:κ→κ→Bool} (L:lW lt) {l:List (κ×α)} (h:aI lt l) {q:κ×α} (hq:q∈l):aj q.1 l=some q.2:=h.get L hq
end
def bE (kind:Int):bF:=⟨kind,1,0,decide (kind=2),[],[]⟩
def kV:aF:=[(0,bE 2)]
def aC (T:aF):Int→List Nm→Int×Int
 |id,[]=>(id,0)
 |id,n::r=>match aj id T with
  |none=>(0,20)
  |some x=>if x.kind=2 then(match aj n x.names with
   |none=>(0,20)
   |some k=>aC T k r)else(0,23)
def bq (T:aF) (id:Int):Int:=match aj id T with|some x=>x.kind|none=>0
def aO (T:aF) (id:Int):List (Nm×Int):=match aj id T with|some x=>x.names|none=>[]
def aB (T:aF) (p:List Nm):Int×Nm×Int:=
 if p=[]then(0,[],1)else
 if (aC T 0 p.dropLast).2≠0 then(0,[],(aC T 0 p.dropLast).2)else
 if bq T (aC T 0 p.dropLast).1=2 then((aC T 0 p.dropLast).1,p.getLastD [],0)else(0,[],23)
def vP (T:aF):Int:=(((List.range (T.length+1)).map fun n:Nat=>(n:Int)+1).find? fun n=>(aj n T).isNone).getD 0
def setName (T:aF) (d:Int) (n:Nm) (id:Int):aF:=aX d (fun x=>{x with names:=bT bytesBefore n id x.names}) T
def aA (T:aF) (d:Int) (n:Nm):aF:=aX d (fun x=>{x with names:=bg n x.names}) T
def pI (T:aF) (p:List Nm) (kind:Int):aF:=setName (bT fT (vP T) (bE kind) T) (aB T p).1 (aB T p).2.1 (vP T)
def iX (T:aF) (p:List Nm) (kind:Int):Int:=
 if bM p≠0 then bM p else
 if ¬(kind=1∨kind=2)then 30 else
 if (aB T p).2.2≠0 then(aB T p).2.2 else
 if (aj (aB T p).2.1 (aO T (aB T p).1)).isSome then 21 else
 if 64≤T.length then 4 else 0
def cu (T:aF) (p:List Nm) (kind:Int):(Int×Int)×aF:=
 if iX T p kind=0 then((vP T,0),pI T p kind)else((0,iX T p kind),T)
def bL (T:aF) (id:Int):Int:=match aj id T with|none=>20|some x=>if x.kind=2 then 22 else 0
def jo (T:aF) (id:Int) (b:List UInt8):Int:=match aj id T with
 |none=>20
 |some x=>if x.kind=2 then 22 else if x.closed then 27 else if 4096<x.b.length+b.length then 15 else 0
def bK (T:aF) (id:Int) (b:List UInt8):Int×aF:=(jo T id b,if jo T id b=0 then aX id (fun x=>{x with b:=x.b++b}) T else T)
def vQ (at_ n:Int):Int:=if at_<0∨n<0 then 1 else 0
def vR (b:List UInt8) (at_ n:Int):List UInt8:=if at_<0∨n<0 then[]else(b.drop at_.toNat).take n.toNat
def lY (T:aF) (id at_ n:Int):Int:=match aj id T with|none=>20|some x=>if x.kind=2 then 22 else vQ at_ n
def lZ (T:aF) (id at_ n:Int):List UInt8:=match aj id T with|none=>[]|some x=>if x.kind=2 then[]else vR x.b at_ n
def eP (T:aF) (id:Int):aF:=match aj id T with
 |none=>T
 |some x=>if x.links=0∧x.closed=true then bg id T else T
def oI (T:aF) (id aK:Int):Int:=match aj id T with
 |none=>20
 |some x=>if x.kind=2 then 22 else if x.closed then 27 else if 1099511627776<aK then 1 else 0
def dR (T:aF) (id aK:Int):Int×aF:=(oI T id aK,if oI T id aK=0 then eP (aX id (fun x=>{x with closed:=true,aK:=aK}) T) id else T)
def oJ (T:aF) (id aK:Int):Int:=match aj id T with
 |none=>20
 |some x=>if x.kind=2 then 22 else if x.closed=false then 25 else if aK<x.aK then 28 else if 1099511627776<aK then 1 else 0
def dL (T:aF) (id aK:Int):Int×aF:=(oJ T id aK,if oJ T id aK=0 then aX id (fun x=>{x with aK:=aK}) T else T)
def kS (T:aF) (id:Int):Int:=match aj id T with
 |none=>20
 |some x=>if x.kind=2 then 22 else if x.closed then 27 else 0
def G9 (T:aF) (id:Int):aF:=bg id (T.map fun q=>(q.1,{q.2 with names:=q.2.names.filter fun e=> !decide (e.2=id)}))
def dM (T:aF) (id:Int):Int×aF:=(kS T id,if kS T id=0 then G9 T id else T)
def iw (p to:List Nm):Int:=if bM p≠0 then bM p else bM to
def nU (T:aF) (id:Int):Int:=match aj id T with|some x=>x.links|none=>0
def jC (T:aF) (p to:List Nm):Int:=
 if iw p to≠0 then iw p to else
 if (aC T 0 p).2≠0 then(aC T 0 p).2 else
 if bq T (aC T 0 p).1=2 then 22 else
 if (aB T to).2.2≠0 then(aB T to).2.2 else
 if (aj (aB T to).2.1 (aO T (aB T to).1)).isSome then 21 else
 if 64≤nU T (aC T 0 p).1 then 4 else 0
def vS (T:aF) (p to:List Nm):aF:=aX (aC T 0 p).1 (fun x=>{x with links:=x.links+1}) (setName T (aB T to).1 (aB T to).2.1 (aC T 0 p).1)
def dz (T:aF) (p to:List Nm):Int×aF:=(jC T p to,if jC T p to=0 then vS T p to else T)
def eO (T:aF) (p:List Nm):Int×Int:=if bM p≠0 then(0,bM p)else aC T 0 p
def gJ (T:aF) (p:List Nm):Int:=
 if (eO T p).2≠0 then(eO T p).2 else if bq T (aC T 0 p).1=2 then 22 else 0
def nu (T:aF) (p:List Nm):aF:=eP (aX (aC T 0 p).1 (fun x=>{x with links:=x.links-1}) (aA T (aB T p).1 (aB T p).2.1)) (aC T 0 p).1
def bB (T:aF) (p:List Nm):Int×aF:=(gJ T p,if gJ T p=0 then nu T p else T)
def gV (T:aF) (p:List Nm):Int:=
 if (eO T p).2≠0 then(eO T p).2 else if bq T (aC T 0 p).1≠2 then 23 else if (aC T 0 p).1=0 then 1 else if 0<(aO T (aC T 0 p).1).length then 24 else 0
def rR (T:aF) (p:List Nm):aF:=bg (aC T 0 p).1 (aA T (aB T p).1 (aB T p).2.1)
def bU (T:aF) (p:List Nm):Int×aF:=(gV T p,if gV T p=0 then rR T p else T)
def cn (k:Int) (x:bF):Nat:=x.names.countP fun e=>decide (e.2=k)
def fq (T:aF) (k:Int):Nat:=(T.map fun q=>cn k q.2).sum
structure Fa (x:bF):Prop where
 kind:x.kind=1∨x.kind=2
 file:x.kind=1→x.names=[]
 dir:x.kind=2→x.links=1∧x.closed=true∧x.b=[]∧x.aK=0
 gone:x.links=0→x.closed=false
 sorted:aI bytesBefore x.names
 good:∀e∈x.names,bZ e.1=true
 size:x.b.length≤4096
 links:0≤x.links∧x.links≤64
 aK:0≤x.aK∧x.aK≤1099511627776
structure vw (T:aF):Prop where
 sorted:aI fT T
 root:bq T 0=2
 each:∀k x,aj k T=some x→Fa x
 leads:∀k x,aj k T=some x→∀e∈x.names,(aj e.2 T).isSome=true∧e.2≠0
 len:T.length≤64
 ids:∀k x,aj k T=some x→0≤k∧k≤65535
structure dG (T:aF):Prop extends vw T where
 counts:∀k x,aj k T=some x→k≠0→(fq T k:Int)=x.links
theorem fG {T:aF} {id:Int} (h:bq T id=2):∃x,aj id T=some x∧x.kind=2:=by
 unfold bq at h
 cases hg:aj id T with
 |none=>rw[hg]at h;cases h
 |some x=>rw[hg]at h;exact⟨x,rfl,h⟩
theorem fA {T:aF} (hT:dG T):∀(p:List Nm) (id:Int),(aj id T).isSome=true→(aC T id p).2=0→(aj (aC T id p).1 T).isSome=true
 |[],id,h,_=>h
 |n::r,id,h,he=>by
  obtain⟨x,hx⟩:=Option.isSome_iff_exists.1 h
  simp only[aC,hx]at he⊢
  split at he
  ·rename_i hk
   rw[if_pos hk]
   cases hn:aj n x.names with
   |none=>rw[hn]at he;cases he
   |some k=>
    rw[hn]at he
    exact fA hT r k (hT.leads _ _ hx _ (bR hn)).1 he
  ·cases he
theorem dU {T:aF} (hT:dG T):(aj 0 T).isSome=true:=by
 obtain⟨x,h,_⟩:=fG hT.root
 simp[h]
def aW:tJ Tryz.prog 3 Int where
 lit x:= .int .i64 x
 val x:= .int .i64 x
 ok x:=(Lit.int .i64 x).wf=true
 lt a b:=decide (a<b)
 law:=Go.Maps.int_keyed Tryz.underlying3
 of x h:=Go.Maps.keyOf_int_mk Tryz.underlying3 h
 inv v kl h:=by
  obtain⟨x,e1,e2,e3⟩:=Go.Maps.keyOf_int_inv Tryz.underlying3 h
  exact⟨x,e1,e2,e3⟩
 same a b:=by simp[Lit.sameKey]
 before a b:=by simp[Lit.before]
 isKey a:=by exact trivial
theorem PD:lW (fun a b:Int=>decide (a<b)):=⟨fun a=>by simp,fun a b c h1 h2=>by simp at*;omega,fun a b h=>by simp;omega⟩
inductive Own where
 |none
 |head
 |items
 |item (k:Int)
 |names (k:Int)
abbrev ptr (b:Nat):Value:= .pointer (some ⟨b,0,none⟩)
def fJ (x:bF) (nb:Nat):Value:=if x.kind=2 then .map (some nb)else .map none
def iF (k:Int) (x:bF) (a:Option Addr) (c nb:Nat):Array Value:=
 #[.int .i64 k, .int .i64 x.kind, .int .i64 x.links, .int .i64 x.b.length, .int .u64 x.aK, .bool x.closed, .slice a x.b.length c,fJ x nb]
def bO (x:bF):List (Nm×Value):=x.names.map fun e=>(e.1, .int .i64 e.2)
def kH (n c:Nat):Prop:=n≤c∧c≤maxLen
structure iG (D:Nat→Prop) (w:World) (k:Int) (ib nb:Nat) (x:bF):Prop where
 cells:∃a c,w.heap[ib]? =some (.cells (iF k x a c nb) 109 (0,0))∧kH x.b.length c∧av D w a x.b.length (x.b.map bv)
 names:x.kind=2→MapAt cK w nb (bO x)
structure aJ (g:Nat→Own) (D:Nat→Prop) (w:World) (p mb:Nat) (ib nb:Int→Nat) (T:aF):Prop where
 head:w.heap[p]? =some (.cells #[.map (some mb)] 96 (0,0))
 map:MapAt aW w mb (T.map fun q=>(q.1,ptr (ib q.1)))
 item:∀k x,aj k T=some x→iG D w k (ib k) (nb k) x
 nV:g p= .head
 iU:g mb= .items
 l5:∀k x,aj k T=some x→g (ib k)= .item k
 kI:∀k x,aj k T=some x→x.kind=2→g (nb k)= .names k
 data:∀b,D b→g b= .none
 low:∀b,g b≠ .none→b<w.heap.size
 nW:∀b,D b→b<w.heap.size
theorem iG.move {D D':Nat→Prop} {w w':World} {k:Int} {ib nb:Nat} {x:bF} (h:iG D w k ib nb x) (hs:w.heap.size≤w'.heap.size) (hi:w'.heap[ib]? =w.heap[ib]?) (hn:x.kind=2→w'.heap[nb]? =w.heap[nb]?) (hD:∀b,D b→b<w.heap.size→D' b∧w'.heap[b]? =w.heap[b]?):iG D' w' k ib nb x:=by
 obtain⟨⟨a,c,h1,h2,h3⟩,h4⟩:=h
 exact⟨⟨a,c,hi.trans h1,h2,h3.move hs hD⟩,fun hk=>(h4 hk).kept (hn hk)⟩
theorem aJ.keeps {g:Nat→Own} {D fp:Nat→Prop} {w w':World} {p mb:Nat} {ib nb:Int→Nat} {T:aF} (h:aJ g D w p mb ib nb T) (hK:Keeps fp w w') (hn:∀b,g b≠ .none∨D b→¬fp b):aJ g D w' p mb ib nb T:=by
 have hb:∀b,g b≠ .none→w'.heap[b]? =w.heap[b]? :=fun b hb=>hK.block b (h.low b hb) (hn b (.inl hb))
 refine⟨(hb p (by rw[h.nV];simp)).trans h.head,h.map.kept (hb mb (by rw[h.iU];simp)),fun k x hx=>(h.item k x hx).move hK.size (hb _ (by rw[h.l5 k x hx];simp)) (fun hk=>hb _ (by rw[h.kI k x hx hk];simp)) fun b hb hbw=>⟨hb,hK.block b hbw (hn b (.inr hb))⟩,
  h.nV,h.iU,h.l5,h.kI,h.data,fun b hb=>Nat.lt_of_lt_of_le (h.low b hb) hK.size,fun b hb=>Nat.lt_of_lt_of_le (h.nW b hb) hK.size⟩
theorem aJ.below {g:Nat→Own} {D:Nat→Prop} {w w':World} {B p mb:Nat} {ib nb:Int→Nat} {T:aF} (h:aJ g D w p mb ib nb T) (hb:Below B w w') (hB:w.heap.size≤B):aJ g D w' p mb ib nb T:=
 h.keeps (fp:=fun x=>B≤x) (Keeps.below hb) fun b hx hf=>by
  rcases hx with hx|hx
  ·have:=h.low b hx;omega
  ·have:=h.nW b hx;omega
theorem aJ.aX {g:Nat→Own} {D D':Nat→Prop} {w w':World} {p mb:Nat} {ib nb:Int→Nat} {T:aF} (h:aJ g D w p mb ib nb T) {k:Int} {x:bF} {f:bF→bF} (hx:aj k T=some x) (Wu:(f x).kind=x.kind)
  (hD:∀b,D b→D' b) (hD':∀b,D' b→g b= .none∧b<w'.heap.size) (hsz:w.heap.size≤w'.heap.size) (hb:∀b,b<w.heap.size→g b≠ .item k→g b≠ .names k→w'.heap[b]? =w.heap[b]?) (hi:iG D' w' k (ib k) (nb k) (f x)):
  aJ g D' w' p mb ib nb (aX k f T):=by
 refine⟨(hb p (h.low p (by rw[h.nV];simp)) (by rw[h.nV];simp) (by rw[h.nV];simp)).trans h.head,?_,?_,h.nV,h.iU,?_,?_,fun b hb=>(hD' b hb).1,fun b hb=>Nat.lt_of_lt_of_le (h.low b hb) hsz,fun b hb=>(hD' b hb).2⟩
 ·have:=h.map.kept (hb mb (h.low mb (by rw[h.iU];simp)) (by rw[h.iU];simp) (by rw[h.iU];simp))
  rw[tK k f T (fun j=>ptr (ib j))]
  exact this
 ·intro j y hy
  rw[aQ]at hy
  by_cases hj:j=k
  ·subst hj
   rw[if_pos rfl,hx]at hy
   simp only[Option.map_some,Option.some.injEq]at hy
   subst hy
   exact hi
  ·rw[if_neg hj]at hy
   refine(h.item j y hy).move hsz (hb _ (h.low _ (by rw[h.l5 j y hy];simp)) (by rw[h.l5 j y hy];simpa using hj) (by rw[h.l5 j y hy];simp)) (fun hk=>hb _ (h.low _ (by rw[h.kI j y hy hk];simp)) (by rw[h.kI j y hy hk];simp) (by rw[h.kI j y hy hk];simpa using hj)) ?_
   intro b rT hbw
   refine⟨hD b rT,hb b hbw ?_ ?_⟩<;>rw[h.data b rT]<;>simp
 ·intro j y hy
  rw[aQ]at hy
  by_cases hj:j=k
  ·subst hj;exact h.l5 j x hx
  ·rw[if_neg hj]at hy;exact h.l5 j y hy
 ·intro j y hy hk
  rw[aQ]at hy
  by_cases hj:j=k
  ·subst hj
   rw[if_pos rfl,hx]at hy
   simp only[Option.map_some,Option.some.injEq]at hy
   subst hy
   exact h.kI j x hx (Wu▸hk)
  ·rw[if_neg hj]at hy;exact h.kI j y hy hk
theorem yC {κ α β:Type} (lt:κ→κ→Bool) (f:κ→α→β) (x:κ×α):∀l:List (κ×α),(gy lt x l).map (fun p=>(p.1,f p.1 p.2))=gy lt (x.1,f x.1 x.2) (l.map fun p=>(p.1,f p.1 p.2))
 |[]=>rfl
 |y::r=>by
  unfold gy
  simp only[List.map_cons]
  split<;>simp[yC lt f x r]
theorem tL {κ α β:Type} [DecidableEq κ] (f:κ→α→β) (k:κ) (l:List (κ×α)):(bg k l).map (fun p=>(p.1,f p.1 p.2))=bg k (l.map fun p=>(p.1,f p.1 p.2)):=by
 simp[bg,List.filter_map,Function.comp_def]
theorem tN {κ α β:Type} [DecidableEq κ] (lt:κ→κ→Bool) (f:κ→α→β) (k:κ) (v:α) (l:List (κ×α)):(bT lt k v l).map (fun p=>(p.1,f p.1 p.2))=bT lt k (f k v) (l.map fun p=>(p.1,f p.1 p.2)):=by
 simp only[bT,yC,tL]
theorem eY {κ α:Type} [DecidableEq κ] (lt:κ→κ→Bool) (k j:κ) (v:α) (l:List (κ×α)):aj j (bT lt k v l)=if j=k then some v else aj j l:=by
 by_cases h:j=k
 ·subst h;rw[if_pos rfl,vO]
 ·rw[if_neg h,vv lt h]
theorem eH {κ α:Type} [DecidableEq κ] (k j:κ) (l:List (κ×α)):aj j (bg k l)=if j=k then none else aj j l:=by
 by_cases h:j=k
 ·subst h;rw[if_pos rfl,lV]
 ·rw[if_neg h,kN h]
theorem aJ.add {g:Nat→Own} {D:Nat→Prop} {w w':World} {p mb:Nat} {ib nb:Int→Nat} {T:aF} (h:aJ g D w p mb ib nb T) {k:Int} {x:bF} {i n:Nat} (hi0:w.heap.size≤i) (hn0:w.heap.size≤n) (hin:i≠n) (hiw:i<w'.heap.size) (hnw:x.kind=2→n<w'.heap.size) (hx0:aj k T=none) (hxb:x.b=[])
  (hm:MapAt aW w' mb (bT fT k (ptr i) (T.map fun q=>(q.1,ptr (ib q.1))))) (hsz:w.heap.size≤w'.heap.size) (hb:∀b,b<w.heap.size→b≠mb→w'.heap[b]? =w.heap[b]?) (hi:iG (fun _=>False) w' k i n x):
  aJ (fun b=>if b=i then .item k else if b=n∧x.kind=2 then .names k else g b) D w' p mb (fun j=>if j=k then i else ib j) (fun j=>if j=k then n else nb j) (bT fT k x T):=by
 have hgl:∀b,g b≠ .none→b≠i∧b≠n:=fun b hb=>by have:=h.low b hb;omega
 have hgg:∀b,g b≠ .none→(if b=i then Own.item k else if b=n∧x.kind=2 then .names k else g b)=g b:=fun b hb=>by
  obtain⟨h1,h2⟩:=hgl b hb
  rw[if_neg h1,if_neg (fun h=>h2 h.1)]
 have hp:g p≠ .none:=by rw[h.nV];simp
 have hmm:g mb≠ .none:=by rw[h.iU];simp
 refine⟨(hb p (h.low p hp) (fun e=>by have:=h.nV;rw[e,h.iU]at this;cases this)).trans h.head,?_,?_,(hgg p hp).trans h.nV,(hgg mb hmm).trans h.iU,?_,?_,?_,?_,fun b hb=>Nat.lt_of_lt_of_le (h.nW b hb) hsz⟩
 ·have e1:(bT fT k x T).map (fun q=>(q.1,ptr ((fun j=>if j=k then i else ib j) q.1)))=bT fT k (ptr i) (T.map fun q=>(q.1,ptr (ib q.1))):=by
   rw[tN fT (fun j _=>ptr ((fun j=>if j=k then i else ib j) j))]
   simp only[if_pos]
   congr 1
   apply List.map_congr_left
   intro q hq
   have:q.1≠k:=gZ.1 hx0 q hq
   rw[if_neg this]
  rw[e1]
  exact hm
 ·intro j y hy
  rw[eY]at hy
  by_cases hj:j=k
  ·subst hj
   rw[if_pos rfl]at hy
   cases hy
   simp only[if_pos]
   refine hi.move (Nat.le_refl _) rfl (fun _=>rfl) (fun b hb=>hb.elim)
  ·rw[if_neg hj]at hy
   simp only[if_neg hj]
   have t1:=h.l5 j y hy
   refine(h.item j y hy).move hsz (hb _ (h.low _ (by rw[t1];simp)) (fun e=>by rw[e,h.iU]at t1;cases t1)) (fun hk=>hb _ (h.low _ (by rw[h.kI j y hy hk];simp)) (fun e=>by have t2:=h.kI j y hy hk;rw[e,h.iU]at t2;cases t2)) ?_
   intro b rT hbw
   exact⟨rT,hb b hbw (fun e=>by have:=h.data b rT;rw[e,h.iU]at this;cases this)⟩
 ·intro j y hy
  rw[eY]at hy
  by_cases hj:j=k
  ·subst hj;simp
  ·rw[if_neg hj]at hy
   have t1:=h.l5 j y hy
   simp only[if_neg hj]
   rw[hgg _ (by rw[t1];simp)]
   exact t1
 ·intro j y hy hk
  rw[eY]at hy
  by_cases hj:j=k
  ·subst hj
   rw[if_pos rfl]at hy
   cases hy
   simp only[if_pos]
   rw[if_neg (Ne.symm hin),if_pos ⟨trivial,hk⟩]
  ·rw[if_neg hj]at hy
   have t1:=h.kI j y hy hk
   simp only[if_neg hj]
   rw[hgg _ (by rw[t1];simp)]
   exact t1
 ·intro b rT
  have:=h.nW b rT
  rw[if_neg (by omega),if_neg (by omega)]
  exact h.data b rT
 ·intro b hbn
  by_cases h1:b=i
  ·omega
  ·by_cases h2:b=n∧x.kind=2
   ·have:=hnw h2.2;omega
   ·simp only[if_neg h1,if_neg h2]at hbn
    exact Nat.lt_of_lt_of_le (h.low b hbn) hsz
theorem aJ.del {g:Nat→Own} {D:Nat→Prop} {w w':World} {p mb:Nat} {ib nb:Int→Nat} {T:aF} (h:aJ g D w p mb ib nb T) {k:Int}
  (hm:MapAt aW w' mb (bg k (T.map fun q=>(q.1,ptr (ib q.1))))) (hsz:w.heap.size≤w'.heap.size) (hb:∀b,b<w.heap.size→b≠mb→w'.heap[b]? =w.heap[b]?):aJ g D w' p mb ib nb (bg k T):=by
 have hp:g p≠ .none:=by rw[h.nV];simp
 have hget:∀j y,aj j (bg k T)=some y→aj j T=some y:=fun j y hy=>by
  rw[eH]at hy
  split at hy
  ·cases hy
  ·exact hy
 refine⟨(hb p (h.low p hp) (fun e=>by have:=h.nV;rw[e,h.iU]at this;cases this)).trans h.head,?_,?_,h.nV,h.iU,fun j y hy=>h.l5 j y (hget j y hy),fun j y hy=>h.kI j y (hget j y hy),h.data,fun b hb=>Nat.lt_of_lt_of_le (h.low b hb) hsz,fun b hb=>Nat.lt_of_lt_of_le (h.nW b hb) hsz⟩
 ·rw[tL (fun j _=>ptr (ib j))];exact hm
 ·intro j y hy'
  have hy:=hget j y hy'
  have t1:=h.l5 j y hy
  refine(h.item j y hy).move hsz (hb _ (h.low _ (by rw[t1];simp)) (fun e=>by rw[e,h.iU]at t1;cases t1)) (fun hk=>hb _ (h.low _ (by rw[h.kI j y hy hk];simp)) (fun e=>by have t2:=h.kI j y hy hk;rw[e,h.iU]at t2;cases t2)) ?_
  intro b rT hbw
  exact⟨rT,hb b hbw (fun e=>by have:=h.data b rT;rw[e,h.iU]at this;cases this)⟩
theorem tO {κ α β:Type} [DecidableEq κ] (f:κ→α→β) (k:κ) (l:List (κ×α)):aj k (l.map fun p=>(p.1,f p.1 p.2))=(aj k l).map (f k):=by
 induction l with
 |nil=>rfl
 |cons y r ih=>
  rw[List.map_cons,eX,eX,ih]
  by_cases h:y.1=k
  ·subst h;simp
  ·simp[h]
theorem dw (ib:Int→Nat) (T:aF) (k:Int):aj k (T.map fun q=>(q.1,ptr (ib q.1)))=(aj k T).map fun _=>ptr (ib k):=tO (fun j (_:bF)=>ptr (ib j)) k T
theorem dI (x:bF) (n:Nm):aj n (bO x)=(aj n x.names).map fun i=>(.int .i64 i:Value):=tO (fun(_:Nm) (i:Int)=>Value.int .i64 i) n x.names
theorem iG.cell {D:Nat→Prop} {w:World} {k:Int} {ib nb:Nat} {x:bF} (h:iG D w k ib nb x):
  w.cell? ⟨ib,0,none⟩=some (.int .i64 k)∧w.cell? ⟨ib,1,none⟩=some (.int .i64 x.kind)∧w.cell? ⟨ib,2,none⟩=some (.int .i64 x.links)∧w.cell? ⟨ib,3,none⟩=some (.int .i64 x.b.length)∧w.cell? ⟨ib,4,none⟩=some (.int .u64 x.aK)∧w.cell? ⟨ib,5,none⟩=some (.bool x.closed)∧w.cell? ⟨ib,7,none⟩=some (fJ x nb)∧ib<w.heap.size:=by
 obtain⟨⟨a,c,h1,_⟩,_⟩:=h
 have:=(Array.getElem?_eq_some_iff.1 h1).1
 refine⟨?_,?_,?_,?_,?_,?_,?_,this⟩<;>(simp only[World.cell?,h1];rfl)
theorem aJ.cell {g:Nat→Own} {D:Nat→Prop} {w:World} {p mb:Nat} {ib nb:Int→Nat} {T:aF} (h:aJ g D w p mb ib nb T):w.cell? ⟨p,0,none⟩=some (.map (some mb))∧p<w.heap.size∧mb<w.heap.size:=by
 have:=(Array.getElem?_eq_some_iff.1 h.head).1
 exact⟨by simp[World.cell?,h.head],this,h.map.lt⟩
theorem dB:lW fT:=PD
theorem jX {T:aF} (hs:aI fT T) {d:Int} {x:bF} (f:bF→bF) (hx:aj d T=some x) (k:Int):fq (aX d f T) k+cn k x=fq T k+cn k (f x):=by
 induction T with
 |nil=>cases hx
 |cons y r ih=>
  have hp:=hs.apart dB
  obtain⟨h1,h2⟩:=List.pairwise_cons.1 hp
  rw[eX]at hx
  by_cases hy:y.1=d
  ·rw[if_pos hy]at hx
   cases hx
   have hr:aX d f r=r:=by
    unfold aX
    conv=>rhs;rw[←List.map_id r]
    apply List.map_congr_left
    intro q hq
    have:=h1 q hq
    rw[if_neg (fun e=>this (hy.trans e.symm))]
    rfl
   have e:aX d f (y::r)=(y.1,f y.2)::r:=by
    have:aX d f (y::r)=(if y.1=d then(y.1,f y.2)else y)::aX d f r:=rfl
    rw[this,hr,if_pos hy]
   rw[e]
   simp[fq]
   omega
  ·rw[if_neg hy]at hx
   have:=ih (List.pairwise_cons.1 hs).2 hx
   have e:aX d f (y::r)=y::aX d f r:=by
    have:aX d f (y::r)=(if y.1=d then(y.1,f y.2)else y)::aX d f r:=rfl
    rw[this,if_neg hy]
   rw[e]
   simp[fq]at this⊢
   omega
theorem yD (x:Int×bF):∀(T:aF) (k:Int),fq (gy fT x T) k=fq T k+cn k x.2
 |[],k=>by simp[gy,fq]
 |y::r,k=>by
  unfold gy
  split
  ·simp[fq];omega
  ·have:=yD x r k
   simp[fq]at this⊢
   omega
theorem tQ {T:aF} (hs:aI fT T) {d:Int} {x:bF} (hx:aj d T=some x) (k:Int):fq (bg d T) k+cn k x=fq T k:=by
 induction T with
 |nil=>cases hx
 |cons y r ih=>
  have hp:=hs.apart dB
  obtain⟨h1,h2⟩:=List.pairwise_cons.1 hp
  rw[eX]at hx
  by_cases hy:y.1=d
  ·rw[if_pos hy]at hx
   cases hx
   have hr:bg d r=r:=by
    unfold bg
    rw[List.filter_eq_self]
    intro q hq
    have:=h1 q hq
    simp only[Bool.not_eq_true',decide_eq_false_iff_not]
    exact fun e=>this (hy.trans e.symm)
   have e:bg d (y::r)=r:=by
    have:bg d (y::r)=if (!decide (y.1=d))=true then y::bg d r else bg d r:=by simp[bg,List.filter_cons]
    rw[this,hr];simp[hy]
   rw[e]
   simp[fq]
   omega
  ·rw[if_neg hy]at hx
   have:=ih (List.pairwise_cons.1 hs).2 hx
   have e:bg d (y::r)=y::bg d r:=by
    have:bg d (y::r)=if (!decide (y.1=d))=true then y::bg d r else bg d r:=by simp[bg,List.filter_cons]
    rw[this];simp[hy]
   rw[e]
   simp[fq]at this⊢
   omega
theorem Mf {T:aF} {k j:Int} {x:bF} (hx:aj j T=some x):cn k x≤fq T k:=by
 have hm:=bR hx
 have:∀(l:aF),(j,x)∈l→cn k x≤(l.map fun q=>cn k q.2).sum:=by
  intro l
  induction l with
  |nil=>simp
  |cons y r ih=>
   intro h
   simp only[List.map_cons,List.sum_cons]
   rcases List.mem_cons.1 h with rfl|h
   ·exact Nat.le_add_right _ _
   ·have:=ih h;omega
 exact this T hm
theorem vF {T:aF} {k:Int} (h:fq T k=0) {j:Int} {x:bF} (hx:aj j T=some x):∀e∈x.names,e.2≠k:=by
 have h1:cn k x=0:=by have:=Mf (k:=k) hx;omega
 unfold cn at h1
 rw[List.countP_eq_zero]at h1
 intro e he
 have:=h1 e he
 simpa using this
theorem vw.aX {T:aF} (h:vw T) {k:Int} {x:bF} {f:bF→bF} (hx:aj k T=some x) (h1:Fa (f x)) (hk:(f x).kind=x.kind) (hn:∀e∈(f x).names,(aj e.2 T).isSome=true∧e.2≠0):vw (Go.Proofs.YtohpcppeajijnaaGreat.aX k f T):=by
 have hget:∀j y,aj j (Go.Proofs.YtohpcppeajijnaaGreat.aX k f T)=some y→(j=k∧y=f x)∨(j≠k∧aj j T=some y):=fun j y hy=>by
  rw[aQ]at hy
  by_cases hj:j=k
  ·subst hj
   rw[if_pos rfl,hx]at hy
   simp only[Option.map_some,Option.some.injEq]at hy
   exact .inl ⟨rfl,hy.symm⟩
  ·rw[if_neg hj]at hy;exact .inr ⟨hj,hy⟩
 have hsome:∀j,(aj j T).isSome=true→(aj j (Go.Proofs.YtohpcppeajijnaaGreat.aX k f T)).isSome=true:=fun j hj=>by
  rw[aQ];split<;>simp[hj]
 refine⟨jB k f h.sorted,?_,fun j y hy=> ?_,fun j y hy e he=> ?_,by rw[fP];exact h.len,fun j y hy=> ?_⟩
 ·have hr:=h.root
  unfold bq at hr⊢
  rw[aQ]
  by_cases h0:(0:Int)=k
  ·subst h0
   rw[if_pos rfl,hx]
   rw[hx]at hr
   exact hk.trans hr
  ·rw[if_neg h0];exact hr
 ·rcases hget j y hy with⟨rfl,rfl⟩|⟨_,hy⟩
  ·exact h1
  ·exact h.each j y hy
 ·rcases hget j y hy with⟨rfl,rfl⟩|⟨_,hy⟩
  ·exact⟨hsome _ (hn e he).1,(hn e he).2⟩
  ·exact⟨hsome _ (h.leads j y hy e he).1,(h.leads j y hy e he).2⟩
 ·rcases hget j y hy with⟨rfl,rfl⟩|⟨_,hy⟩
  ·exact h.ids j x hx
  ·exact h.ids j y hy
theorem dG.aX {T:aF} (h:dG T) {k:Int} {x:bF} {f:bF→bF} (hx:aj k T=some x) (h1:Fa (f x)) (hk:(f x).kind=x.kind) (hn:∀e∈(f x).names,(aj e.2 T).isSome=true∧e.2≠0)
  (hc:∀j y,aj j (Go.Proofs.YtohpcppeajijnaaGreat.aX k f T)=some y→j≠0→(fq (Go.Proofs.YtohpcppeajijnaaGreat.aX k f T) j:Int)=y.links):dG (Go.Proofs.YtohpcppeajijnaaGreat.aX k f T):=⟨h.tovw.aX hx h1 hk hn,hc⟩
theorem dG.tT {T:aF} (h:dG T) {k:Int} {x:bF} {f:bF→bF} (hx:aj k T=some x) (h1:Fa (f x)) (hk:(f x).kind=x.kind) (hn:(f x).names=x.names) (hl:(f x).links=x.links):dG (Go.Proofs.YtohpcppeajijnaaGreat.aX k f T):=by
 refine h.aX hx h1 hk (by rw[hn];exact h.leads k x hx) fun j y hy hj=> ?_
 have hcn:cn j (f x)=cn j x:=by unfold cn;rw[hn]
 have:=jX h.sorted f hx j
 rw[hcn]at this
 have e:fq (Go.Proofs.YtohpcppeajijnaaGreat.aX k f T) j=fq T j:=by omega
 rw[e]
 rw[aQ]at hy
 by_cases hjk:j=k
 ·subst hjk
  rw[if_pos rfl,hx]at hy
  simp only[Option.map_some,Option.some.injEq]at hy
  rw[←hy,hl]
  exact h.counts j x hx hj
 ·rw[if_neg hjk]at hy
  exact h.counts j y hy hj
theorem G_:∀(m:Nat) (T:aF),aI fT T→(∀i:Nat,1≤i→i≤m→(aj (i:Int) T).isSome=true)→m≤T.length
 |0,_,_,_=>Nat.zero_le _
 |m+1,T,hs,h=>by
  obtain⟨x,hx⟩:=Option.isSome_iff_exists.1 (h (m+1) (by omega) (by omega))
  have h1:=pG dB hs hx
  have h2:=G_ m (bg ((m+1:Nat):Int) T) (hs.bg _) (fun i hi him=>by
   rw[eH,if_neg (by omega)]
   exact h i hi (by omega))
  omega
theorem CU {T:aF} (hs:aI fT T):∃f:Nat,vP T=f∧1≤f∧f≤T.length+1∧aj (f:Int) T=none∧∀i:Nat,1≤i→i<f→(aj (i:Int) T).isSome=true:=by
 unfold vP
 cases hf:(((List.range (T.length+1)).map fun n:Nat=>(n:Int)+1).find? fun n=>(aj n T).isNone)with
 |none=>
  exfalso
  have h1:=List.find?_eq_none.1 hf
  have:=G_ (T.length+1) T hs (fun i hi him=>by
   have:=h1 (i:Int) (List.mem_map.2 ⟨i-1,by simp;omega,by omega⟩)
   cases hq:aj (i:Int) T with
   |none=>rw[hq]at this;simp at this
   |some v=>rfl)
  omega
 |some n=>
  rw[List.find?_eq_some_iff_append]at hf
  obtain⟨hn,xs,ys,hab,hpre⟩:=hf
  have hl:(xs++n::ys).length=T.length+1:=by rw[←hab];simp
  have hidx:∀i (hi:i<xs.length+1),(xs++n::ys)[i]? =some ((i:Int)+1):=fun i hi=>by
   rw[←hab]
   simp only[List.length_append,List.length_cons]at hl
   simp[List.getElem?_range (show i<T.length+1 by omega)]
  have hne:n=(xs.length:Int)+1:=by
   have:=hidx xs.length (by omega)
   simpa using this
  simp only[List.length_append,List.length_cons]at hl
  refine⟨xs.length+1,by simp[hne],by omega,by omega,?_,fun i hi hif=> ?_⟩
  ·have:((xs.length+1:Nat):Int)=n:=by omega
   rw[this]
   simpa using hn
  ·have h2:=hidx (i-1) (by omega)
   rw[List.getElem?_append_left (by omega)]at h2
   have h3:=hpre _ (List.mem_of_getElem? h2)
   have e:((i-1:Nat):Int)+1=i:=by omega
   rw[e]at h3
   cases hq:aj (i:Int) T with
   |none=>rw[hq]at h3;simp at h3
   |some v=>rfl
theorem dG.free {T:aF} (h:dG T):∃f:Nat,vP T=f∧1≤f∧f≤T.length+1∧aj (f:Int) T=none∧∀i:Nat,1≤i→i<f→(aj (i:Int) T).isSome=true:=CU h.sorted
theorem uK {α:Type} {l:List (Int×α)} {k:Int} (v:α) (h:aj k l=none):(bT fT k v l).length=l.length+1:=by
 unfold bT
 rw[pE,iT h]
theorem CV {α:Type} (t:α→Int) (m:Nat):∀(ks:List Int) (E:List α),(∀e∈E,t e∈ks)→(∀k∈ks,E.countP (fun e=>decide (t e=k))≤m)→E.length≤m*ks.length
 |[],E,h,_=>by
  cases E with
  |nil=>simp
  |cons e r=>have:=h e (by simp);simp at this
 |k::ks,E,h,hc=>by
  have h1:=CV t m ks (E.filter fun e=> !decide (t e=k)) (fun e he=>by
   obtain⟨h1,h2⟩:=List.mem_filter.1 he
   rcases List.mem_cons.1 (h e h1)with h3|h3
   ·simp[h3]at h2
   ·exact h3) (fun j hj=>by
    rw[List.countP_filter]
    refine Nat.le_trans (List.countP_mono_left fun e _ he=> ?_) (hc j (by simp[hj]))
    simp at he⊢
    exact he.1)
  have h2:=hc k (by simp)
  have h3:E.length=E.countP (fun e=>decide (t e=k))+(E.filter fun e=> !decide (t e=k)).length:=by
   rw[←List.countP_eq_length_filter]
   exact(List.length_eq_countP_add_countP (fun e=>decide (t e=k))).trans (by
    have:List.countP (fun a=>decide (¬decide (t a=k)=true)) E=List.countP (fun e=> !decide (t e=k)) E:=List.countP_congr (fun e _=>by simp)
    rw[this])
  rw[List.length_cons,Nat.mul_succ]
  omega
theorem dG.few {T:aF} (h:dG T) {k:Int} {x:bF} (hx:aj k T=some x):x.names.length≤4096:=by
 have h1:=CV (fun e:Nm×Int=>e.2) 64 (T.map (·.1)) x.names (fun e he=>by
  obtain⟨y,hy⟩:=Option.isSome_iff_exists.1 (h.leads k x hx e he).1
  exact List.mem_map.2 ⟨_,bR hy,rfl⟩) (fun j hj=>by
   by_cases h0:j=0
   ·subst h0
    have:x.names.countP (fun e=>decide (e.2=0))=0:=by
     rw[List.countP_eq_zero]
     intro e he
     have:=(h.leads k x hx e he).2
     simpa using this
    omega
   ·obtain⟨q,hq,rfl⟩:=List.mem_map.1 hj
    have hy:=aY dB h.sorted hq
    have h2:=h.counts _ _ hy h0
    have h3:=(h.each _ _ hy).links
    have h4:=Mf (k:=q.1) hx
    unfold cn at h4
    omega)
 have:=h.len
 rw[List.length_map]at h1
 omega
theorem pJ {T:aF} (hs:aI fT T) {k j:Int} {x y:bF} (h:aj j (bT fT k x T)=some y):(j=k∧y=x)∨(j≠k∧aj j T=some y):=by
 rw[eY]at h
 by_cases hj:j=k
 ·rw[if_pos hj]at h
  exact .inl ⟨hj,by simpa using h.symm⟩
 ·rw[if_neg hj]at h
  exact .inr ⟨hj,h⟩
theorem yE {kind:Int} (hk:kind=1∨kind=2):Fa (bE kind):=by
 refine⟨hk,fun _=>rfl,fun h=>⟨rfl,?_,rfl,rfl⟩,(fun h=>by cases h),by simp[bE,aI],by simp[bE],by simp[bE],by simp[bE],by simp[bE]⟩
 have:kind=2:=h
 simp[bE,this]
theorem vw.add {T:aF} (h:vw T) {f:Int} {kind:Int} (hk:kind=1∨kind=2) (hf:aj f T=none) (h1:0≤f) (h2:f≤65535) (hl:T.length<64):vw (bT fT f (bE kind) T):=by
 refine⟨h.sorted.bT dB _ _,?_,fun j y hy=> ?_,fun j y hy e he=> ?_,by rw[uK _ hf];omega,fun j y hy=> ?_⟩
 ·obtain⟨x,hx,hk0⟩:=fG h.root
  unfold bq
  rw[eY,if_neg (fun e=>by rw[e,hf]at hx;cases hx),hx]
  exact hk0
 ·rcases pJ h.sorted hy with⟨rfl,rfl⟩|⟨_,hy⟩
  ·exact yE hk
  ·exact h.each j y hy
 ·rcases pJ h.sorted hy with⟨rfl,rfl⟩|⟨_,hy⟩
  ·cases he
  ·have:=h.leads j y hy e he
   refine⟨?_,this.2⟩
   rw[eY]
   split
   ·rfl
   ·exact this.1
 ·rcases pJ h.sorted hy with⟨rfl,rfl⟩|⟨_,hy⟩
  ·exact⟨h1,h2⟩
  ·exact h.ids j y hy
theorem He {T:aF} {f kind:Int} (hf:aj f T=none) (k:Int):fq (bT fT f (bE kind) T) k=fq T k:=by
 unfold bT
 rw[iT hf,yD]
 simp[cn,bE]
theorem Ej (n:Nm) (id k:Int):∀l:List (Nm×Int),(gy bytesBefore (n,id) l).countP (fun e=>decide (e.2=k))=l.countP (fun e=>decide (e.2=k))+if id=k then 1 else 0
 |[]=>by simp[gy,List.countP_cons]
 |y::r=>by
  unfold gy
  split
  ·simp[List.countP_cons]
  ·simp only[List.countP_cons,Ej n id k r]
   omega
theorem CW {x:bF} {n:Nm} {id:Int} (h:aj n x.names=none) (k:Int):cn k {x with names:=bT bytesBefore n id x.names}=cn k x+if id=k then 1 else 0:=by
 unfold cn bT
 simp only
 rw[iT h,Ej]
theorem Fb {T:aF} (h:vw T) {f:Int} (hf:aj f T=none):fq T f=0:=by
 have:∀l:aF,(∀q∈l,cn f q.2=0)→fq l f=0:=by
  intro l
  induction l with
  |nil=>intro _;rfl
  |cons y r ih=>
   intro hh
   have h1:=ih (fun q hq=>hh q (by simp[hq]))
   have h2:=hh y (by simp)
   unfold fq at h1⊢
   simp only[List.map_cons,List.sum_cons]
   omega
 refine this T fun q hq=> ?_
 unfold cn
 rw[List.countP_eq_zero]
 intro e he hd
 have h1:=h.leads _ _ (aY dB h.sorted hq) e he
 simp only[decide_eq_true_eq]at hd
 rw[hd,hf]at h1
 cases h1.1
theorem J6 {x:bF} (h:Fa x) (hk:x.kind=2) {n:Nm} (hn:bZ n=true) (id:Int):Fa {x with names:=bT bytesBefore n id x.names}:=by
 refine⟨h.kind,fun h1=> ?_,h.dir,h.gone,h.sorted.bT oU _ _,fun e he=> ?_,h.size,h.links,h.aK⟩
 ·have:x.kind=1:=h1
  omega
 ·rcases (kG bytesBefore).1 he with h1|h1
  ·rw[h1];exact hn
  ·exact h.good e (List.mem_filter.1 h1).1
theorem yF {x:bF} {n:Nm} {id:Int} {P:Nm×Int→Prop} (h:∀e∈x.names,P e) (h1:P (n,id)):∀e∈bT bytesBefore n id x.names,P e:=by
 intro e he
 rcases (kG bytesBefore).1 he with h2|h2
 ·rw[h2];exact h1
 ·exact h e (List.mem_filter.1 h2).1
theorem vw.set {T:aF} (h:vw T) {d:Int} {x:bF} {n:Nm} {id:Int} (hx:aj d T=some x) (hk:x.kind=2) (hn:bZ n=true) (hid:(aj id T).isSome=true∧id≠0):vw (setName T d n id):=
 h.aX hx (J6 (h.each d x hx) hk hn id) rfl (yF (h.leads d x hx) hid)
theorem dG.make {T:aF} (h:dG T) {d kind f:Int} {x:bF} {n:Nm} (hk:kind=1∨kind=2) (hf:aj f T=none) (h1:1≤f) (h2:f≤65535) (hl:T.length<64) (hx:aj d T=some x) (hxk:x.kind=2) (hn:bZ n=true) (hnn:aj n x.names=none):
  dG (setName (bT fT f (bE kind) T) d n f):=by
 have hP:=h.tovw.add hk hf (by omega) h2 hl
 have hdf:d≠f:=fun e=>by rw[e,hf]at hx;cases hx
 have hx':aj d (bT fT f (bE kind) T)=some x:=by rw[eY,if_neg hdf];exact hx
 have Wv:aj f (bT fT f (bE kind) T)=some (bE kind):=by rw[eY,if_pos rfl]
 refine⟨hP.set hx' hxk hn ⟨by rw[Wv];rfl,by omega⟩,fun j y hy hj=> ?_⟩
 have h3:=jX hP.sorted (fun x=>{x with names:=bT bytesBefore n f x.names}) hx' j
 have h4:=CW (id:=f) hnn j
 have h5:=He (kind:=kind) hf j
 have hgt:∀z,aj j (bT fT f (bE kind) T)=some z→z.links=y.links→(fq (setName (bT fT f (bE kind) T) d n f) j:Int)=y.links:=by
  intro z hz hzl
  unfold setName
  rcases pJ h.sorted hz with⟨rfl,rfl⟩|⟨U2,hz⟩
  ·have:=Fb h.tovw hf
   rw[if_pos rfl]at h4
   have e:fq (Go.Proofs.YtohpcppeajijnaaGreat.aX d (fun x=>{x with names:=bT bytesBefore n j x.names}) (bT fT j (bE kind) T)) j=1:=by omega
   rw[e,←hzl]
   rfl
  ·rw[if_neg (Ne.symm U2)]at h4
   have:=h.counts j z hz hj
   have e:fq (Go.Proofs.YtohpcppeajijnaaGreat.aX d (fun x=>{x with names:=bT bytesBefore n f x.names}) (bT fT f (bE kind) T)) j=fq T j:=by omega
   rw[e,this,hzl]
 unfold setName at hy
 rw[aQ]at hy
 by_cases hjd:j=d
 ·subst hjd
  rw[if_pos rfl,hx']at hy
  simp only[Option.map_some,Option.some.injEq]at hy
  exact hgt x hx' (by rw[←hy])
 ·rw[if_neg hjd]at hy
  exact hgt y hy rfl
end Go.Proofs.YtohpcppeajijnaaGreat
