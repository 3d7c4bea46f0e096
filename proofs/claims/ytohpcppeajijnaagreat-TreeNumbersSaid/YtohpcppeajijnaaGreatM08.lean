/- Plain laws of names and paths: lists of bytes alone. The tree, as plain data: what each call of package tree says, and what is behind it. Keys of kind int. A tree in memory; what turns it. -/
import Derived.Test.YtohpcppeajijnaaGreatM07
import Derived.Lib.Split
import Derived.Lib.SplitLaws
import Derived.Lib.Join
import Derived.Test.YtohpcppeajijnaaGreatM06
import Derived.Test.YtohpcppeajijnaaGreatM05
namespace Go.Proofs.YtohpcppeajijnaaGreat
set_option linter.unusedVariables false
open Go
def bO (ls:List (List UInt8)):Int:=if ls.any (fun x=> !dG x)then 12 else if 8<ls.length then 3 else 0
open Go.ChangeShapes Go.WideShapes Go.ChangeAt Go.RowKit
set_option linter.unusedSimpArgs false
abbrev Nm:=List UInt8
abbrev iC (a b:Int):Bool:=decide (a<b)
structure bF where
 kind:Int
 links:Int
 aQ:Int
 closed:Bool
 b:List UInt8
 names:List (Nm×Int)
abbrev aH:=List (Int×bF)
section
variable {κ α:Type} [DecidableEq κ]
def bf (k:κ) (f:α→α) (l:List (κ×α)):List (κ×α):=l.map fun q=>if q.1=k then(q.1,f q.2)else q
theorem fF (k:κ) (y:κ×α) (r:List (κ×α)):aj k (y::r)=if y.1=k then some y.2 else aj k r:=by
 unfold aj
 by_cases h:y.1=k<;>simp[h]
theorem aS (k j:κ) (f:α→α) (l:List (κ×α)):aj j (bf k f l)=if j=k then(aj j l).map f else aj j l:=by
 induction l with
 |nil=>simp[bf,aj]
 |cons y r ih=>
  have ih':aj j (List.map (fun q:κ×α=>if q.1=k then(q.1,f q.2)else q) r)=if j=k then(aj j r).map f else aj j r:=ih
  unfold bf
  rw[List.map_cons,fF,fF,ih']
  by_cases h:y.1=k
  ·by_cases h2:y.1=j
   ·have:j=k:=h2▸h
    simp[h,this]
   ·have:j≠k:=fun e=>h2 (h.trans e.symm)
    have h3:¬k=j:=fun e=>this e.symm
    simp[h,h3,this]
  ·by_cases h2:y.1=j
   ·have:j≠k:=fun e=>h (h2.trans e)
    simp[h2,this]
   ·simp[h,h2]
theorem rH {β:Type} (k:κ) (f:α→α) (l:List (κ×α)) (g:κ→β):(bf k f l).map (fun q=>(q.1,g q.1))=l.map fun q=>(q.1,g q.1):=by
 unfold bf
 rw[List.map_map]
 apply List.map_congr_left
 intro q _
 by_cases h:q.1=k<;>simp[h]
theorem fU (k:κ) (f:α→α) (l:List (κ×α)):(bf k f l).length=l.length:=by simp[bf]
theorem jk {lt:κ→κ→Bool} (k:κ) (f:α→α) {l:List (κ×α)} (h:aP lt l):aP lt (bf k f l):=by
 unfold aP bf
 rw[List.pairwise_map]
 refine List.Pairwise.imp (fun{a b} hab=> ?_) h
 by_cases h1:a.1=k<;>by_cases h2:b.1=k<;>simp_all
theorem bX {lt:κ→κ→Bool} (L:kr lt) {l:List (κ×α)} (h:aP lt l) {q:κ×α} (hq:q∈l):aj q.1 l=some q.2:=h.get L hq
end
def bq (kind:Int):bF:=⟨kind,1,0,decide (kind=2),[],[]⟩
def jE:aH:=[(0,bq 2)]
def aF (T:aH):Int→List Nm→Int×Int
 |id,[]=>(id,0)
 |id,n::r=>match aj id T with
  |none=>(0,20)
  |some x=>if x.kind=2 then(match aj n x.names with
   |none=>(0,20)
   |some k=>aF T k r)else(0,23)
def bZ (T:aH) (id:Int):Int:=match aj id T with|some x=>x.kind|none=>0
def bB (T:aH) (id:Int):List (Nm×Int):=match aj id T with|some x=>x.names|none=>[]
def aC (T:aH) (p:List Nm):Int×Nm×Int:=
 if p=[]then(0,[],1)else
 if (aF T 0 p.dropLast).2≠0 then(0,[],(aF T 0 p.dropLast).2)else
 if bZ T (aF T 0 p.dropLast).1=2 then((aF T 0 p.dropLast).1,p.getLastD [],0)else(0,[],23)
def qx (T:aH):Int:=(((List.range (T.length+1)).map fun n:Nat=>(n:Int)+1).find? fun n=>(aj n T).isNone).getD 0
def setName (T:aH) (d:Int) (n:Nm) (id:Int):aH:=bf d (fun x=>{x with names:=bY bytesBefore n id x.names}) T
def aA (T:aH) (d:Int) (n:Nm):aH:=bf d (fun x=>{x with names:=bH n x.names}) T
def og (T:aH) (p:List Nm) (kind:Int):aH:=setName (bY iC (qx T) (bq kind) T) (aC T p).1 (aC T p).2.1 (qx T)
def iH (T:aH) (p:List Nm) (kind:Int):Int:=
 if bO p≠0 then bO p else
 if ¬(kind=1∨kind=2)then 30 else
 if (aC T p).2.2≠0 then(aC T p).2.2 else
 if (aj (aC T p).2.1 (bB T (aC T p).1)).isSome then 21 else
 if 64≤T.length then 4 else 0
def aL (T:aH) (p:List Nm) (kind:Int):(Int×Int)×aH:=
 if iH T p kind=0 then((qx T,0),og T p kind)else((0,iH T p kind),T)
def bK (T:aH) (id:Int):Int:=match aj id T with|none=>20|some x=>if x.kind=2 then 22 else 0
def jc (T:aH) (id:Int) (b:List UInt8):Int:=match aj id T with
 |none=>20
 |some x=>if x.kind=2 then 22 else if x.closed then 27 else if 4096<x.b.length+b.length then 15 else 0
def bT (T:aH) (id:Int) (b:List UInt8):Int×aH:=(jc T id b,if jc T id b=0 then bf id (fun x=>{x with b:=x.b++b}) T else T)
def uE (at_ n:Int):Int:=if at_<0∨n<0 then 1 else 0
def uF (b:List UInt8) (at_ n:Int):List UInt8:=if at_<0∨n<0 then[]else(b.drop at_.toNat).take n.toNat
def mg (T:aH) (id at_ n:Int):Int:=match aj id T with|none=>20|some x=>if x.kind=2 then 22 else uE at_ n
def mh (T:aH) (id at_ n:Int):List UInt8:=match aj id T with|none=>[]|some x=>if x.kind=2 then[]else uF x.b at_ n
def fG (T:aH) (id:Int):aH:=match aj id T with
 |none=>T
 |some x=>if x.links=0∧x.closed=true then bH id T else T
def nK (T:aH) (id aQ:Int):Int:=match aj id T with
 |none=>20
 |some x=>if x.kind=2 then 22 else if x.closed then 27 else if 1099511627776<aQ then 1 else 0
def eF (T:aH) (id aQ:Int):Int×aH:=(nK T id aQ,if nK T id aQ=0 then fG (bf id (fun x=>{x with closed:=true,aQ:=aQ}) T) id else T)
def nL (T:aH) (id aQ:Int):Int:=match aj id T with
 |none=>20
 |some x=>if x.kind=2 then 22 else if x.closed=false then 25 else if aQ<x.aQ then 28 else if 1099511627776<aQ then 1 else 0
def dO (T:aH) (id aQ:Int):Int×aH:=(nL T id aQ,if nL T id aQ=0 then bf id (fun x=>{x with aQ:=aQ}) T else T)
def kF (T:aH) (id:Int):Int:=match aj id T with
 |none=>20
 |some x=>if x.kind=2 then 22 else if x.closed then 27 else 0
def FB (T:aH) (id:Int):aH:=bH id (T.map fun q=>(q.1,{q.2 with names:=q.2.names.filter fun e=> !decide (e.2=id)}))
def dH (T:aH) (id:Int):Int×aH:=(kF T id,if kF T id=0 then FB T id else T)
def ig (p to:List Nm):Int:=if bO p≠0 then bO p else bO to
def mZ (T:aH) (id:Int):Int:=match aj id T with|some x=>x.links|none=>0
def jl (T:aH) (p to:List Nm):Int:=
 if ig p to≠0 then ig p to else
 if (aF T 0 p).2≠0 then(aF T 0 p).2 else
 if bZ T (aF T 0 p).1=2 then 22 else
 if (aC T to).2.2≠0 then(aC T to).2.2 else
 if (aj (aC T to).2.1 (bB T (aC T to).1)).isSome then 21 else
 if 64≤mZ T (aF T 0 p).1 then 4 else 0
def uG (T:aH) (p to:List Nm):aH:=bf (aF T 0 p).1 (fun x=>{x with links:=x.links+1}) (setName T (aC T to).1 (aC T to).2.1 (aF T 0 p).1)
def aO (T:aH) (p to:List Nm):Int×aH:=(jl T p to,if jl T p to=0 then uG T p to else T)
def iD (T:aH) (p:List Nm):Int×Int:=if bO p≠0 then(0,bO p)else aF T 0 p
def gH (T:aH) (p:List Nm):Int:=
 if (iD T p).2≠0 then(iD T p).2 else if bZ T (aF T 0 p).1=2 then 22 else 0
def mo (T:aH) (p:List Nm):aH:=fG (bf (aF T 0 p).1 (fun x=>{x with links:=x.links-1}) (aA T (aC T p).1 (aC T p).2.1)) (aF T 0 p).1
def bQ (T:aH) (p:List Nm):Int×aH:=(gH T p,if gH T p=0 then mo T p else T)
def gL (T:aH) (p:List Nm):Int:=
 if (iD T p).2≠0 then(iD T p).2 else if bZ T (aF T 0 p).1≠2 then 23 else if (aF T 0 p).1=0 then 1 else if 0<(bB T (aF T 0 p).1).length then 24 else 0
def qy (T:aH) (p:List Nm):aH:=bH (aF T 0 p).1 (aA T (aC T p).1 (aC T p).2.1)
def cO (T:aH) (p:List Nm):Int×aH:=(gL T p,if gL T p=0 then qy T p else T)
def cn (k:Int) (x:bF):Nat:=x.names.countP fun e=>decide (e.2=k)
def fZ (T:aH) (k:Int):Nat:=(T.map fun q=>cn k q.2).sum
structure Ci (x:bF):Prop where
 kind:x.kind=1∨x.kind=2
 file:x.kind=1→x.names=[]
 dir:x.kind=2→x.links=1∧x.closed=true∧x.b=[]∧x.aQ=0
 gone:x.links=0→x.closed=false
 sorted:aP bytesBefore x.names
 good:∀e∈x.names,dG e.1=true
 size:x.b.length≤4096
 links:0≤x.links∧x.links≤64
 aQ:0≤x.aQ∧x.aQ≤1099511627776
structure tF (T:aH):Prop where
 sorted:aP iC T
 root:bZ T 0=2
 each:∀k x,aj k T=some x→Ci x
 leads:∀k x,aj k T=some x→∀e∈x.names,(aj e.2 T).isSome=true∧e.2≠0
 len:T.length≤64
 ids:∀k x,aj k T=some x→0≤k∧k≤65535
structure dA (T:aH):Prop extends tF T where
 counts:∀k x,aj k T=some x→k≠0→(fZ T k:Int)=x.links
theorem jf {T:aH} {id:Int} (h:bZ T id=2):∃x,aj id T=some x∧x.kind=2:=by
 unfold bZ at h
 cases hg:aj id T with
 |none=>rw[hg]at h;cases h
 |some x=>rw[hg]at h;exact⟨x,rfl,h⟩
theorem fA {T:aH} (hT:dA T):∀(p:List Nm) (id:Int),(aj id T).isSome=true→(aF T id p).2=0→(aj (aF T id p).1 T).isSome=true
 |[],id,h,_=>h
 |n::r,id,h,he=>by
  obtain⟨x,hx⟩:=Option.isSome_iff_exists.1 h
  simp only[aF,hx]at he⊢
  split at he
  ·rename_i hk
   rw[if_pos hk]
   cases hn:aj n x.names with
   |none=>rw[hn]at he;cases he
   |some k=>
    rw[hn]at he
    exact fA hT r k (hT.leads _ _ hx _ (cu hn)).1 he
  ·cases he
theorem dW {T:aH} (hT:dA T):(aj 0 T).isSome=true:=by
 obtain⟨x,h,_⟩:=jf hT.root
 simp[h]
def bP:uy Tryz.prog 3 Int where
 lit x:= .int .i64 x
 val x:= .int .i64 x
 ok x:=(Lit.int .i64 x).wf=true
 lt a b:=decide (a<b)
 law:=Go.Maps.int_keyed Tryz.underlying3
 of x h:=Go.Maps.keyOf_int_mk Tryz.underlying3 h
 inv v kl h:=by
  obtain⟨x,e1,e2,e3⟩:=Go.Maps.keyOf_int_inv Tryz.underlying3 h
  exact⟨x,e1,e2,e3⟩
 same a b:=by simp[Lit.sameKey]
 before a b:=by simp[Lit.before]
 isKey a:=by exact trivial
theorem Ob:kr (fun a b:Int=>decide (a<b)):=⟨fun a=>by simp,fun a b c h1 h2=>by simp at*;omega,fun a b h=>by simp;omega⟩
inductive Own where
 |none
 |head
 |items
 |item (k:Int)
 |names (k:Int)
abbrev ptr (b:Nat):Value:= .pointer (some ⟨b,0,none⟩)
def dJ (x:bF) (nb:Nat):Value:=if x.kind=2 then .map (some nb)else .map none
def iG (k:Int) (x:bF) (a:Option Addr) (c nb:Nat):Array Value:=
 #[.int .i64 k, .int .i64 x.kind, .int .i64 x.links, .int .i64 x.b.length, .int .u64 x.aQ, .bool x.closed, .slice a x.b.length c,dJ x nb]
def bR (x:bF):List (Nm×Value):=x.names.map fun e=>(e.1, .int .i64 e.2)
def qz (n c:Nat):Prop:=n≤c∧c≤maxLen
structure iL (D:Nat→Prop) (w:World) (k:Int) (ib nb:Nat) (x:bF):Prop where
 cells:∃a c,w.heap[ib]? =some (.cells (iG k x a c nb) 109 (0,0))∧qz x.b.length c∧ak D w a x.b.length (x.b.map bv)
 names:x.kind=2→MapAt dx w nb (bR x)
structure aK (g:Nat→Own) (D:Nat→Prop) (w:World) (p mb:Nat) (ib nb:Int→Nat) (T:aH):Prop where
 head:w.heap[p]? =some (.cells #[.map (some mb)] 96 (0,0))
 map:MapAt bP w mb (T.map fun q=>(q.1,ptr (ib q.1)))
 item:∀k x,aj k T=some x→iL D w k (ib k) (nb k) x
 nQ:g p= .head
 iW:g mb= .items
 lF:∀k x,aj k T=some x→g (ib k)= .item k
 ku:∀k x,aj k T=some x→x.kind=2→g (nb k)= .names k
 data:∀b,D b→g b= .none
 low:∀b,g b≠ .none→b<w.heap.size
 lG:∀b,D b→b<w.heap.size
theorem iL.move {D D':Nat→Prop} {w w':World} {k:Int} {ib nb:Nat} {x:bF} (h:iL D w k ib nb x) (hs:w.heap.size≤w'.heap.size) (hi:w'.heap[ib]? =w.heap[ib]?) (hn:x.kind=2→w'.heap[nb]? =w.heap[nb]?) (hD:∀b,D b→b<w.heap.size→D' b∧w'.heap[b]? =w.heap[b]?):iL D' w' k ib nb x:=by
 obtain⟨⟨a,c,h1,h2,h3⟩,h4⟩:=h
 exact⟨⟨a,c,hi.trans h1,h2,h3.move hs hD⟩,fun hk=>(h4 hk).kept (hn hk)⟩
theorem aK.keeps {g:Nat→Own} {D fp:Nat→Prop} {w w':World} {p mb:Nat} {ib nb:Int→Nat} {T:aH} (h:aK g D w p mb ib nb T) (hK:Keeps fp w w') (hn:∀b,g b≠ .none∨D b→¬fp b):aK g D w' p mb ib nb T:=by
 have hb:∀b,g b≠ .none→w'.heap[b]? =w.heap[b]? :=fun b hb=>hK.block b (h.low b hb) (hn b (.inl hb))
 refine⟨(hb p (by rw[h.nQ];simp)).trans h.head,h.map.kept (hb mb (by rw[h.iW];simp)),fun k x hx=>(h.item k x hx).move hK.size (hb _ (by rw[h.lF k x hx];simp)) (fun hk=>hb _ (by rw[h.ku k x hx hk];simp)) fun b hb hbw=>⟨hb,hK.block b hbw (hn b (.inr hb))⟩,
  h.nQ,h.iW,h.lF,h.ku,h.data,fun b hb=>Nat.lt_of_lt_of_le (h.low b hb) hK.size,fun b hb=>Nat.lt_of_lt_of_le (h.lG b hb) hK.size⟩
theorem aK.below {g:Nat→Own} {D:Nat→Prop} {w w':World} {B p mb:Nat} {ib nb:Int→Nat} {T:aH} (h:aK g D w p mb ib nb T) (hb:Below B w w') (hB:w.heap.size≤B):aK g D w' p mb ib nb T:=
 h.keeps (fp:=fun x=>B≤x) (Keeps.below hb) fun b hx hf=>by
  rcases hx with hx|hx
  ·have:=h.low b hx;omega
  ·have:=h.lG b hx;omega
theorem aK.bf {g:Nat→Own} {D D':Nat→Prop} {w w':World} {p mb:Nat} {ib nb:Int→Nat} {T:aH} (h:aK g D w p mb ib nb T) {k:Int} {x:bF} {f:bF→bF} (hx:aj k T=some x) (X7:(f x).kind=x.kind)
  (hD:∀b,D b→D' b) (hD':∀b,D' b→g b= .none∧b<w'.heap.size) (hsz:w.heap.size≤w'.heap.size) (hb:∀b,b<w.heap.size→g b≠ .item k→g b≠ .names k→w'.heap[b]? =w.heap[b]?) (hi:iL D' w' k (ib k) (nb k) (f x)):
  aK g D' w' p mb ib nb (bf k f T):=by
 refine⟨(hb p (h.low p (by rw[h.nQ];simp)) (by rw[h.nQ];simp) (by rw[h.nQ];simp)).trans h.head,?_,?_,h.nQ,h.iW,?_,?_,fun b hb=>(hD' b hb).1,fun b hb=>Nat.lt_of_lt_of_le (h.low b hb) hsz,fun b hb=>(hD' b hb).2⟩
 ·have:=h.map.kept (hb mb (h.low mb (by rw[h.iW];simp)) (by rw[h.iW];simp) (by rw[h.iW];simp))
  rw[rH k f T (fun j=>ptr (ib j))]
  exact this
 ·intro j y hy
  rw[aS]at hy
  by_cases hj:j=k
  ·subst hj
   rw[if_pos rfl,hx]at hy
   simp only[Option.map_some,Option.some.injEq]at hy
   subst hy
   exact hi
  ·rw[if_neg hj]at hy
   refine(h.item j y hy).move hsz (hb _ (h.low _ (by rw[h.lF j y hy];simp)) (by rw[h.lF j y hy];simpa using hj) (by rw[h.lF j y hy];simp)) (fun hk=>hb _ (h.low _ (by rw[h.ku j y hy hk];simp)) (by rw[h.ku j y hy hk];simp) (by rw[h.ku j y hy hk];simpa using hj)) ?_
   intro b yN hbw
   refine⟨hD b yN,hb b hbw ?_ ?_⟩<;>rw[h.data b yN]<;>simp
 ·intro j y hy
  rw[aS]at hy
  by_cases hj:j=k
  ·subst hj;exact h.lF j x hx
  ·rw[if_neg hj]at hy;exact h.lF j y hy
 ·intro j y hy hk
  rw[aS]at hy
  by_cases hj:j=k
  ·subst hj
   rw[if_pos rfl,hx]at hy
   simp only[Option.map_some,Option.some.injEq]at hy
   subst hy
   exact h.ku j x hx (X7▸hk)
  ·rw[if_neg hj]at hy;exact h.ku j y hy hk
theorem wP {κ α β:Type} (lt:κ→κ→Bool) (f:κ→α→β) (x:κ×α):∀l:List (κ×α),(h_ lt x l).map (fun p=>(p.1,f p.1 p.2))=h_ lt (x.1,f x.1 x.2) (l.map fun p=>(p.1,f p.1 p.2))
 |[]=>rfl
 |y::r=>by
  unfold h_
  simp only[List.map_cons]
  split<;>simp[wP lt f x r]
theorem rJ {κ α β:Type} [DecidableEq κ] (f:κ→α→β) (k:κ) (l:List (κ×α)):(bH k l).map (fun p=>(p.1,f p.1 p.2))=bH k (l.map fun p=>(p.1,f p.1 p.2)):=by
 simp[bH,List.filter_map,Function.comp_def]
theorem rM {κ α β:Type} [DecidableEq κ] (lt:κ→κ→Bool) (f:κ→α→β) (k:κ) (v:α) (l:List (κ×α)):(bY lt k v l).map (fun p=>(p.1,f p.1 p.2))=bY lt k (f k v) (l.map fun p=>(p.1,f p.1 p.2)):=by
 simp only[bY,wP,rJ]
theorem eX {κ α:Type} [DecidableEq κ] (lt:κ→κ→Bool) (k j:κ) (v:α) (l:List (κ×α)):aj j (bY lt k v l)=if j=k then some v else aj j l:=by
 by_cases h:j=k
 ·subst h;rw[if_pos rfl,uz]
 ·rw[if_neg h,tC lt h]
theorem eD {κ α:Type} [DecidableEq κ] (k j:κ) (l:List (κ×α)):aj j (bH k l)=if j=k then none else aj j l:=by
 by_cases h:j=k
 ·subst h;rw[if_pos rfl,kX]
 ·rw[if_neg h,kg h]
theorem aK.add {g:Nat→Own} {D:Nat→Prop} {w w':World} {p mb:Nat} {ib nb:Int→Nat} {T:aH} (h:aK g D w p mb ib nb T) {k:Int} {x:bF} {i n:Nat} (hi0:w.heap.size≤i) (hn0:w.heap.size≤n) (hin:i≠n) (hiw:i<w'.heap.size) (hnw:x.kind=2→n<w'.heap.size) (hx0:aj k T=none) (hxb:x.b=[])
  (hm:MapAt bP w' mb (bY iC k (ptr i) (T.map fun q=>(q.1,ptr (ib q.1))))) (hsz:w.heap.size≤w'.heap.size) (hb:∀b,b<w.heap.size→b≠mb→w'.heap[b]? =w.heap[b]?) (hi:iL (fun _=>False) w' k i n x):
  aK (fun b=>if b=i then .item k else if b=n∧x.kind=2 then .names k else g b) D w' p mb (fun j=>if j=k then i else ib j) (fun j=>if j=k then n else nb j) (bY iC k x T):=by
 have hgl:∀b,g b≠ .none→b≠i∧b≠n:=fun b hb=>by have:=h.low b hb;omega
 have hgg:∀b,g b≠ .none→(if b=i then Own.item k else if b=n∧x.kind=2 then .names k else g b)=g b:=fun b hb=>by
  obtain⟨h1,h2⟩:=hgl b hb
  rw[if_neg h1,if_neg (fun h=>h2 h.1)]
 have hp:g p≠ .none:=by rw[h.nQ];simp
 have hmm:g mb≠ .none:=by rw[h.iW];simp
 refine⟨(hb p (h.low p hp) (fun e=>by have:=h.nQ;rw[e,h.iW]at this;cases this)).trans h.head,?_,?_,(hgg p hp).trans h.nQ,(hgg mb hmm).trans h.iW,?_,?_,?_,?_,fun b hb=>Nat.lt_of_lt_of_le (h.lG b hb) hsz⟩
 ·have e1:(bY iC k x T).map (fun q=>(q.1,ptr ((fun j=>if j=k then i else ib j) q.1)))=bY iC k (ptr i) (T.map fun q=>(q.1,ptr (ib q.1))):=by
   rw[rM iC (fun j _=>ptr ((fun j=>if j=k then i else ib j) j))]
   simp only[if_pos]
   congr 1
   apply List.map_congr_left
   intro q hq
   have:q.1≠k:=ji.1 hx0 q hq
   rw[if_neg this]
  rw[e1]
  exact hm
 ·intro j y hy
  rw[eX]at hy
  by_cases hj:j=k
  ·subst hj
   rw[if_pos rfl]at hy
   cases hy
   simp only[if_pos]
   refine hi.move (Nat.le_refl _) rfl (fun _=>rfl) (fun b hb=>hb.elim)
  ·rw[if_neg hj]at hy
   simp only[if_neg hj]
   have t1:=h.lF j y hy
   refine(h.item j y hy).move hsz (hb _ (h.low _ (by rw[t1];simp)) (fun e=>by rw[e,h.iW]at t1;cases t1)) (fun hk=>hb _ (h.low _ (by rw[h.ku j y hy hk];simp)) (fun e=>by have t2:=h.ku j y hy hk;rw[e,h.iW]at t2;cases t2)) ?_
   intro b yN hbw
   exact⟨yN,hb b hbw (fun e=>by have:=h.data b yN;rw[e,h.iW]at this;cases this)⟩
 ·intro j y hy
  rw[eX]at hy
  by_cases hj:j=k
  ·subst hj;simp
  ·rw[if_neg hj]at hy
   have t1:=h.lF j y hy
   simp only[if_neg hj]
   rw[hgg _ (by rw[t1];simp)]
   exact t1
 ·intro j y hy hk
  rw[eX]at hy
  by_cases hj:j=k
  ·subst hj
   rw[if_pos rfl]at hy
   cases hy
   simp only[if_pos]
   rw[if_neg (Ne.symm hin),if_pos ⟨trivial,hk⟩]
  ·rw[if_neg hj]at hy
   have t1:=h.ku j y hy hk
   simp only[if_neg hj]
   rw[hgg _ (by rw[t1];simp)]
   exact t1
 ·intro b yN
  have:=h.lG b yN
  rw[if_neg (by omega),if_neg (by omega)]
  exact h.data b yN
 ·intro b hbn
  by_cases h1:b=i
  ·omega
  ·by_cases h2:b=n∧x.kind=2
   ·have:=hnw h2.2;omega
   ·simp only[if_neg h1,if_neg h2]at hbn
    exact Nat.lt_of_lt_of_le (h.low b hbn) hsz
theorem aK.del {g:Nat→Own} {D:Nat→Prop} {w w':World} {p mb:Nat} {ib nb:Int→Nat} {T:aH} (h:aK g D w p mb ib nb T) {k:Int}
  (hm:MapAt bP w' mb (bH k (T.map fun q=>(q.1,ptr (ib q.1))))) (hsz:w.heap.size≤w'.heap.size) (hb:∀b,b<w.heap.size→b≠mb→w'.heap[b]? =w.heap[b]?):aK g D w' p mb ib nb (bH k T):=by
 have hp:g p≠ .none:=by rw[h.nQ];simp
 have hget:∀j y,aj j (bH k T)=some y→aj j T=some y:=fun j y hy=>by
  rw[eD]at hy
  split at hy
  ·cases hy
  ·exact hy
 refine⟨(hb p (h.low p hp) (fun e=>by have:=h.nQ;rw[e,h.iW]at this;cases this)).trans h.head,?_,?_,h.nQ,h.iW,fun j y hy=>h.lF j y (hget j y hy),fun j y hy=>h.ku j y (hget j y hy),h.data,fun b hb=>Nat.lt_of_lt_of_le (h.low b hb) hsz,fun b hb=>Nat.lt_of_lt_of_le (h.lG b hb) hsz⟩
 ·rw[rJ (fun j _=>ptr (ib j))];exact hm
 ·intro j y hy'
  have hy:=hget j y hy'
  have t1:=h.lF j y hy
  refine(h.item j y hy).move hsz (hb _ (h.low _ (by rw[t1];simp)) (fun e=>by rw[e,h.iW]at t1;cases t1)) (fun hk=>hb _ (h.low _ (by rw[h.ku j y hy hk];simp)) (fun e=>by have t2:=h.ku j y hy hk;rw[e,h.iW]at t2;cases t2)) ?_
  intro b yN hbw
  exact⟨yN,hb b hbw (fun e=>by have:=h.data b yN;rw[e,h.iW]at this;cases this)⟩
theorem rO {κ α β:Type} [DecidableEq κ] (f:κ→α→β) (k:κ) (l:List (κ×α)):aj k (l.map fun p=>(p.1,f p.1 p.2))=(aj k l).map (f k):=by
 induction l with
 |nil=>rfl
 |cons y r ih=>
  rw[List.map_cons,fF,fF,ih]
  by_cases h:y.1=k
  ·subst h;simp
  ·simp[h]
theorem dX (ib:Int→Nat) (T:aH) (k:Int):aj k (T.map fun q=>(q.1,ptr (ib q.1)))=(aj k T).map fun _=>ptr (ib k):=rO (fun j (_:bF)=>ptr (ib j)) k T
theorem dP (x:bF) (n:Nm):aj n (bR x)=(aj n x.names).map fun i=>(.int .i64 i:Value):=rO (fun(_:Nm) (i:Int)=>Value.int .i64 i) n x.names
theorem iL.cell {D:Nat→Prop} {w:World} {k:Int} {ib nb:Nat} {x:bF} (h:iL D w k ib nb x):
  w.cell? ⟨ib,0,none⟩=some (.int .i64 k)∧w.cell? ⟨ib,1,none⟩=some (.int .i64 x.kind)∧w.cell? ⟨ib,2,none⟩=some (.int .i64 x.links)∧w.cell? ⟨ib,3,none⟩=some (.int .i64 x.b.length)∧w.cell? ⟨ib,4,none⟩=some (.int .u64 x.aQ)∧w.cell? ⟨ib,5,none⟩=some (.bool x.closed)∧w.cell? ⟨ib,7,none⟩=some (dJ x nb)∧ib<w.heap.size:=by
 obtain⟨⟨a,c,h1,_⟩,_⟩:=h
 have:=(Array.getElem?_eq_some_iff.1 h1).1
 refine⟨?_,?_,?_,?_,?_,?_,?_,this⟩<;>(simp only[World.cell?,h1];rfl)
theorem aK.cell {g:Nat→Own} {D:Nat→Prop} {w:World} {p mb:Nat} {ib nb:Int→Nat} {T:aH} (h:aK g D w p mb ib nb T):w.cell? ⟨p,0,none⟩=some (.map (some mb))∧p<w.heap.size∧mb<w.heap.size:=by
 have:=(Array.getElem?_eq_some_iff.1 h.head).1
 exact⟨by simp[World.cell?,h.head],this,h.map.lt⟩
end Go.Proofs.YtohpcppeajijnaaGreat
