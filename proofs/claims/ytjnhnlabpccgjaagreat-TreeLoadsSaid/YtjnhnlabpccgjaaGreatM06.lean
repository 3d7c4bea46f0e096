/- Plain laws of names and paths: lists of bytes alone. The tree, as plain data: what each call of package tree says, and what is behind it. Keys of kind int. A tree in memory; what turns it. What holds of each tree holds of it behind each call: counts, and the parts of it. -/
import Derived.Test.YtjnhnlabpccgjaaGreatM05
import Derived.Lib.Split
import Derived.Lib.SplitLaws
import Derived.Lib.Join
import Derived.Test.YtjnhnlabpccgjaaGreatM04
import Derived.Test.YtjnhnlabpccgjaaGreatM02
namespace Go.Proofs.YtjnhnlabpccgjaaGreat
set_option linter.unusedVariables false
open Go
def bK (ls:List (List UInt8)):Int:=if ls.any (fun x=> !bV x)then 12 else if 8<ls.length then 3 else 0
def eO (ls:List (List UInt8)):List UInt8:=47::Lib.join ls [47]
open Go.ChangeShapes Go.WideShapes Go.ChangeAt Go.RowKit
set_option linter.unusedSimpArgs false
abbrev Nm:=List UInt8
abbrev gH (a b:Int):Bool:=decide (a<b)
structure bA where
 kind:Int
 links:Int
 aO:Int
 closed:Bool
 b:List UInt8
 names:List (Nm×Int)
abbrev aF:=List (Int×bA)
section
variable {κ α:Type} [DecidableEq κ]
def aX (k:κ) (f:α→α) (l:List (κ×α)):List (κ×α):=l.map fun q=>if q.1=k then(q.1,f q.2)else q
theorem eU (k:κ) (y:κ×α) (r:List (κ×α)):ah k (y::r)=if y.1=k then some y.2 else ah k r:=by
 unfold ah
 by_cases h:y.1=k<;>simp[h]
theorem aS (k j:κ) (f:α→α) (l:List (κ×α)):ah j (aX k f l)=if j=k then(ah j l).map f else ah j l:=by
 induction l with
 |nil=>simp[aX,ah]
 |cons y r ih=>
  have ih':ah j (List.map (fun q:κ×α=>if q.1=k then(q.1,f q.2)else q) r)=if j=k then(ah j r).map f else ah j r:=ih
  unfold aX
  rw[List.map_cons,eU,eU,ih']
  by_cases h:y.1=k
  ·by_cases h2:y.1=j
   ·have:j=k:=h2▸h
    simp[h,this]
   ·have:j≠k:=fun e=>h2 (h.trans e.symm)
    have h3:¬k=j:=fun e=>this e.symm
    simp[h,h3,this]
  ·by_cases h2:y.1=j
   ·have:j≠k:=fun e=>h (h2.trans e)
    simp[h2,this]
   ·simp[h,h2]
theorem vC {β:Type} (k:κ) (f:α→α) (l:List (κ×α)) (g:κ→β):(aX k f l).map (fun q=>(q.1,g q.1))=l.map fun q=>(q.1,g q.1):=by
 unfold aX
 rw[List.map_map]
 apply List.map_congr_left
 intro q _
 by_cases h:q.1=k<;>simp[h]
theorem fT (k:κ) (f:α→α) (l:List (κ×α)):(aX k f l).length=l.length:=by simp[aX]
theorem jL {lt:κ→κ→Bool} (k:κ) (f:α→α) {l:List (κ×α)} (h:aI lt l):aI lt (aX k f l):=by
 unfold aI aX
 rw[List.pairwise_map]
 refine List.Pairwise.imp (fun{a b} hab=> ?_) h
 by_cases h1:a.1=k<;>by_cases h2:b.1=k<;>simp_all
theorem aL {lt:κ→κ→Bool} (L:mI lt) {l:List (κ×α)} (h:aI lt l) {q:κ×α} (hq:q∈l):ah q.1 l=some q.2:=h.get L hq
end
def bS (kind:Int):bA:=⟨kind,1,0,decide (kind=2),[],[]⟩
def nM:aF:=[(0,bS 2)]
def aA (T:aF):Int→List Nm→Int×Int
 |id,[]=>(id,0)
 |id,n::r=>match ah id T with
  |none=>(0,20)
  |some x=>if x.kind=2 then(match ah n x.names with
   |none=>(0,20)
   |some k=>aA T k r)else(0,23)
def bf (T:aF) (id:Int):Int:=match ah id T with|some x=>x.kind|none=>0
def aJ (T:aF) (id:Int):List (Nm×Int):=match ah id T with|some x=>x.names|none=>[]
def aC (T:aF) (p:List Nm):Int×Nm×Int:=
 if p=[]then(0,[],1)else
 if (aA T 0 p.dropLast).2≠0 then(0,[],(aA T 0 p.dropLast).2)else
 if bf T (aA T 0 p.dropLast).1=2 then((aA T 0 p.dropLast).1,p.getLastD [],0)else(0,[],23)
def xP (T:aF):Int:=(((List.range (T.length+1)).map fun n:Nat=>(n:Int)+1).find? fun n=>(ah n T).isNone).getD 0
def setName (T:aF) (d:Int) (n:Nm) (id:Int):aF:=aX d (fun x=>{x with names:=bZ bytesBefore n id x.names}) T
def ak (T:aF) (d:Int) (n:Nm):aF:=aX d (fun x=>{x with names:=bB n x.names}) T
def qz (T:aF) (p:List Nm) (kind:Int):aF:=setName (bZ gH (xP T) (bS kind) T) (aC T p).1 (aC T p).2.1 (xP T)
def jl (T:aF) (p:List Nm) (kind:Int):Int:=
 if bK p≠0 then bK p else
 if ¬(kind=1∨kind=2)then 30 else
 if (aC T p).2.2≠0 then(aC T p).2.2 else
 if (ah (aC T p).2.1 (aJ T (aC T p).1)).isSome then 21 else
 if 64≤T.length then 4 else 0
def dQ (T:aF) (p:List Nm) (kind:Int):(Int×Int)×aF:=
 if jl T p kind=0 then((xP T,0),qz T p kind)else((0,jl T p kind),T)
def bM (T:aF) (id:Int):Int:=match ah id T with|none=>20|some x=>if x.kind=2 then 22 else 0
def jF (T:aF) (id:Int) (b:List UInt8):Int:=match ah id T with
 |none=>20
 |some x=>if x.kind=2 then 22 else if x.closed then 27 else if 4096<x.b.length+b.length then 15 else 0
def dw (T:aF) (id:Int) (b:List UInt8):Int×aF:=(jF T id b,if jF T id b=0 then aX id (fun x=>{x with b:=x.b++b}) T else T)
def xQ (at_ n:Int):Int:=if at_<0∨n<0 then 1 else 0
def xR (b:List UInt8) (at_ n:Int):List UInt8:=if at_<0∨n<0 then[]else(b.drop at_.toNat).take n.toNat
def nN (T:aF) (id at_ n:Int):Int:=match ah id T with|none=>20|some x=>if x.kind=2 then 22 else xQ at_ n
def nO (T:aF) (id at_ n:Int):List UInt8:=match ah id T with|none=>[]|some x=>if x.kind=2 then[]else xR x.b at_ n
def eG (T:aF) (id:Int):aF:=match ah id T with
 |none=>T
 |some x=>if x.links=0∧x.closed=true then bB id T else T
def pX (T:aF) (id aO:Int):Int:=match ah id T with
 |none=>20
 |some x=>if x.kind=2 then 22 else if x.closed then 27 else if 1099511627776<aO then 1 else 0
def fU (T:aF) (id aO:Int):Int×aF:=(pX T id aO,if pX T id aO=0 then eG (aX id (fun x=>{x with closed:=true,aO:=aO}) T) id else T)
def pY (T:aF) (id aO:Int):Int:=match ah id T with
 |none=>20
 |some x=>if x.kind=2 then 22 else if x.closed=false then 25 else if aO<x.aO then 28 else if 1099511627776<aO then 1 else 0
def fG (T:aF) (id aO:Int):Int×aF:=(pY T id aO,if pY T id aO=0 then aX id (fun x=>{x with aO:=aO}) T else T)
def lV (T:aF) (id:Int):Int:=match ah id T with
 |none=>20
 |some x=>if x.kind=2 then 22 else if x.closed then 27 else 0
def K3 (T:aF) (id:Int):aF:=bB id (T.map fun q=>(q.1,{q.2 with names:=q.2.names.filter fun e=> !decide (e.2=id)}))
def eD (T:aF) (id:Int):Int×aF:=(lV T id,if lV T id=0 then K3 T id else T)
def iC (p to:List Nm):Int:=if bK p≠0 then bK p else bK to
def oL (T:aF) (id:Int):Int:=match ah id T with|some x=>x.links|none=>0
def jM (T:aF) (p to:List Nm):Int:=
 if iC p to≠0 then iC p to else
 if (aA T 0 p).2≠0 then(aA T 0 p).2 else
 if bf T (aA T 0 p).1=2 then 22 else
 if (aC T to).2.2≠0 then(aC T to).2.2 else
 if (ah (aC T to).2.1 (aJ T (aC T to).1)).isSome then 21 else
 if 64≤oL T (aA T 0 p).1 then 4 else 0
def xS (T:aF) (p to:List Nm):aF:=aX (aA T 0 p).1 (fun x=>{x with links:=x.links+1}) (setName T (aC T to).1 (aC T to).2.1 (aA T 0 p).1)
def dW (T:aF) (p to:List Nm):Int×aF:=(jM T p to,if jM T p to=0 then xS T p to else T)
def dY (T:aF) (p:List Nm):Int×Int:=if bK p≠0 then(0,bK p)else aA T 0 p
def gQ (T:aF) (p:List Nm):Int:=
 if (dY T p).2≠0 then(dY T p).2 else if bf T (aA T 0 p).1=2 then 22 else 0
def nP (T:aF) (p:List Nm):aF:=eG (aX (aA T 0 p).1 (fun x=>{x with links:=x.links-1}) (ak T (aC T p).1 (aC T p).2.1)) (aA T 0 p).1
def b_ (T:aF) (p:List Nm):Int×aF:=(gQ T p,if gQ T p=0 then nP T p else T)
def g_ (T:aF) (p:List Nm):Int:=
 if (dY T p).2≠0 then(dY T p).2 else if bf T (aA T 0 p).1≠2 then 23 else if (aA T 0 p).1=0 then 1 else if 0<(aJ T (aA T 0 p).1).length then 24 else 0
def tO (T:aF) (p:List Nm):aF:=bB (aA T 0 p).1 (ak T (aC T p).1 (aC T p).2.1)
def dF (T:aF) (p:List Nm):Int×aF:=(g_ T p,if g_ T p=0 then tO T p else T)
def cn (k:Int) (x:bA):Nat:=x.names.countP fun e=>decide (e.2=k)
def eB (T:aF) (k:Int):Nat:=(T.map fun q=>cn k q.2).sum
structure Fw (x:bA):Prop where
 kind:x.kind=1∨x.kind=2
 file:x.kind=1→x.names=[]
 dir:x.kind=2→x.links=1∧x.closed=true∧x.b=[]∧x.aO=0
 gone:x.links=0→x.closed=false
 sorted:aI bytesBefore x.names
 good:∀e∈x.names,bV e.1=true
 size:x.b.length≤4096
 links:0≤x.links∧x.links≤64
 aO:0≤x.aO∧x.aO≤1099511627776
structure rz (T:aF):Prop where
 sorted:aI gH T
 root:bf T 0=2
 each:∀k x,ah k T=some x→Fw x
 leads:∀k x,ah k T=some x→∀e∈x.names,(ah e.2 T).isSome=true∧e.2≠0
 len:T.length≤64
 ids:∀k x,ah k T=some x→0≤k∧k≤65535
structure fB (T:aF):Prop extends rz T where
 counts:∀k x,ah k T=some x→k≠0→(eB T k:Int)=x.links
structure Fx (x:bA):Prop where
 kind:x.kind=1∨x.kind=2
 file:x.kind=1→x.names=[]
 dir:x.kind=2→x.links=1∧x.closed=true∧x.b=[]∧x.aO=0
 gone:x.links=0→x.closed=false
 sorted:aI bytesBefore x.names
 good:∀e∈x.names,bV e.1=true
 size:x.b.length≤4096
 links:0≤x.links∧x.links≤65535
 aO:0≤x.aO∧x.aO≤1099511627776
structure xU (T:aF):Prop where
 sorted:aI gH T
 root:bf T 0=2
 each:∀k x,ah k T=some x→Fx x
 leads:∀k x,ah k T=some x→∀e∈x.names,(ah e.2 T).isSome=true∧e.2≠0
 len:T.length≤64
 ids:∀k x,ah k T=some x→0≤k∧k≤65535
structure OkW (T:aF):Prop extends xU T where
 counts:∀k x,ah k T=some x→k≠0→(eB T k:Int)=x.links
theorem Fw.w {x:bA} (h:Fw x):Fx x:=⟨h.kind,h.file,h.dir,h.gone,h.sorted,h.good,h.size,⟨h.links.1,by have:=h.links.2;omega⟩,h.aO⟩
theorem rz.w {T:aF} (h:rz T):xU T:=⟨h.sorted,h.root,fun k x hx=>(h.each k x hx).w,h.leads,h.len,h.ids⟩
theorem fB.w {T:aF} (h:fB T):OkW T:=⟨h.torz.w,h.counts⟩
instance {T:aF}:Coe (rz T) (xU T):=⟨rz.w⟩
theorem rz.Q8 {T:aF} (h:xU T) (hl:∀k x,ah k T=some x→x.links≤64):rz T:=
 ⟨h.sorted,h.root,fun k x hx=>have o:=h.each k x hx;⟨o.kind,o.file,o.dir,o.gone,o.sorted,o.good,o.size,⟨o.links.1,hl k x hx⟩,o.aO⟩,h.leads,h.len,h.ids⟩
instance {x:bA}:Coe (Fw x) (Fx x):=⟨Fw.w⟩
instance {T:aF}:Coe (fB T) (OkW T):=⟨fB.w⟩
theorem eX {T:aF} {id:Int} (h:bf T id=2):∃x,ah id T=some x∧x.kind=2:=by
 unfold bf at h
 cases hg:ah id T with
 |none=>rw[hg]at h;cases h
 |some x=>rw[hg]at h;exact⟨x,rfl,h⟩
theorem eF {T:aF} (hT:OkW T):∀(p:List Nm) (id:Int),(ah id T).isSome=true→(aA T id p).2=0→(ah (aA T id p).1 T).isSome=true
 |[],id,h,_=>h
 |n::r,id,h,he=>by
  obtain⟨x,hx⟩:=Option.isSome_iff_exists.1 h
  simp only[aA,hx]at he⊢
  split at he
  ·rename_i hk
   rw[if_pos hk]
   cases hn:ah n x.names with
   |none=>rw[hn]at he;cases he
   |some k=>
    rw[hn]at he
    exact eF hT r k (hT.leads _ _ hx _ (bq hn)).1 he
  ·cases he
theorem dH {T:aF} (hT:OkW T):(ah 0 T).isSome=true:=by
 obtain⟨x,h,_⟩:=eX hT.root
 simp[h]
def aV:vB Tryz.prog 3 Int where
 lit x:= .int .i64 x
 val x:= .int .i64 x
 ok x:=(Lit.int .i64 x).wf=true
 lt a b:=decide (a<b)
 law:=Go.Maps.int_keyed Tryz.underlying3
 of x h:=Go.Maps.keyOf_int_mk Tryz.underlying3 h
 inv v kl h:=by
  obtain⟨x,e1,e2,e3⟩:=Go.Maps.keyOf_int_inv Tryz.underlying3 h
  exact⟨x,e1,e2,e3⟩
 same a b:=by simp[Lit.sameKey]
 before a b:=by simp[Lit.before]
 isKey a:=by exact trivial
theorem TR:mI (fun a b:Int=>decide (a<b)):=⟨fun a=>by simp,fun a b c h1 h2=>by simp at*;omega,fun a b h=>by simp;omega⟩
inductive Own where
 |none
 |head
 |items
 |item (k:Int)
 |names (k:Int)
abbrev ptr (b:Nat):Value:= .pointer (some ⟨b,0,none⟩)
def fD (x:bA) (nb:Nat):Value:=if x.kind=2 then .map (some nb)else .map none
def iL (k:Int) (x:bA) (a:Option Addr) (c nb:Nat):Array Value:=
 #[.int .i64 k, .int .i64 x.kind, .int .i64 x.links, .int .i64 x.b.length, .int .u64 x.aO, .bool x.closed, .slice a x.b.length c,fD x nb]
def bL (x:bA):List (Nm×Value):=x.names.map fun e=>(e.1, .int .i64 e.2)
def lu (n c:Nat):Prop:=n≤c∧c≤maxLen
structure iN (D:Nat→Prop) (w:World) (k:Int) (ib nb:Nat) (x:bA):Prop where
 cells:∃a c,w.heap[ib]? =some (.cells (iL k x a c nb) 112 (0,0))∧lu x.b.length c∧aj D w a x.b.length (x.b.map bv)
 names:x.kind=2→MapAt cK w nb (bL x)
structure aH (g:Nat→Own) (D:Nat→Prop) (w:World) (p mb:Nat) (ib nb:Int→Nat) (T:aF):Prop where
 head:w.heap[p]? =some (.cells #[.map (some mb)] 106 (0,0))
 map:MapAt aV w mb (T.map fun q=>(q.1,ptr (ib q.1)))
 item:∀k x,ah k T=some x→iN D w k (ib k) (nb k) x
 oM:g p= .head
 je:g mb= .items
 mK:∀k x,ah k T=some x→g (ib k)= .item k
 kG:∀k x,ah k T=some x→x.kind=2→g (nb k)= .names k
 data:∀b,D b→g b= .none
 low:∀b,g b≠ .none→b<w.heap.size
 oO:∀b,D b→b<w.heap.size
theorem iN.move {D D':Nat→Prop} {w w':World} {k:Int} {ib nb:Nat} {x:bA} (h:iN D w k ib nb x) (hs:w.heap.size≤w'.heap.size) (hi:w'.heap[ib]? =w.heap[ib]?) (hn:x.kind=2→w'.heap[nb]? =w.heap[nb]?) (hD:∀b,D b→b<w.heap.size→D' b∧w'.heap[b]? =w.heap[b]?):iN D' w' k ib nb x:=by
 obtain⟨⟨a,c,h1,h2,h3⟩,h4⟩:=h
 exact⟨⟨a,c,hi.trans h1,h2,h3.move hs hD⟩,fun hk=>(h4 hk).kept (hn hk)⟩
theorem aH.keeps {g:Nat→Own} {D fp:Nat→Prop} {w w':World} {p mb:Nat} {ib nb:Int→Nat} {T:aF} (h:aH g D w p mb ib nb T) (hK:Keeps fp w w') (hn:∀b,g b≠ .none∨D b→¬fp b):aH g D w' p mb ib nb T:=by
 have hb:∀b,g b≠ .none→w'.heap[b]? =w.heap[b]? :=fun b hb=>hK.block b (h.low b hb) (hn b (.inl hb))
 refine⟨(hb p (by rw[h.oM];simp)).trans h.head,h.map.kept (hb mb (by rw[h.je];simp)),fun k x hx=>(h.item k x hx).move hK.size (hb _ (by rw[h.mK k x hx];simp)) (fun hk=>hb _ (by rw[h.kG k x hx hk];simp)) fun b hb hbw=>⟨hb,hK.block b hbw (hn b (.inr hb))⟩,
  h.oM,h.je,h.mK,h.kG,h.data,fun b hb=>Nat.lt_of_lt_of_le (h.low b hb) hK.size,fun b hb=>Nat.lt_of_lt_of_le (h.oO b hb) hK.size⟩
theorem aH.below {g:Nat→Own} {D:Nat→Prop} {w w':World} {B p mb:Nat} {ib nb:Int→Nat} {T:aF} (h:aH g D w p mb ib nb T) (hb:Below B w w') (hB:w.heap.size≤B):aH g D w' p mb ib nb T:=
 h.keeps (fp:=fun x=>B≤x) (Keeps.below hb) fun b hx hf=>by
  rcases hx with hx|hx
  ·have:=h.low b hx;omega
  ·have:=h.oO b hx;omega
theorem aH.aX {g:Nat→Own} {D D':Nat→Prop} {w w':World} {p mb:Nat} {ib nb:Int→Nat} {T:aF} (h:aH g D w p mb ib nb T) {k:Int} {x:bA} {f:bA→bA} (hx:ah k T=some x) (hfk:(f x).kind=x.kind)
  (hD:∀b,D b→D' b) (hD':∀b,D' b→g b= .none∧b<w'.heap.size) (hsz:w.heap.size≤w'.heap.size) (hb:∀b,b<w.heap.size→g b≠ .item k→g b≠ .names k→w'.heap[b]? =w.heap[b]?) (hi:iN D' w' k (ib k) (nb k) (f x)):
  aH g D' w' p mb ib nb (aX k f T):=by
 refine⟨(hb p (h.low p (by rw[h.oM];simp)) (by rw[h.oM];simp) (by rw[h.oM];simp)).trans h.head,?_,?_,h.oM,h.je,?_,?_,fun b hb=>(hD' b hb).1,fun b hb=>Nat.lt_of_lt_of_le (h.low b hb) hsz,fun b hb=>(hD' b hb).2⟩
 ·have:=h.map.kept (hb mb (h.low mb (by rw[h.je];simp)) (by rw[h.je];simp) (by rw[h.je];simp))
  rw[vC k f T (fun j=>ptr (ib j))]
  exact this
 ·intro j y hy
  rw[aS]at hy
  by_cases hj:j=k
  ·subst hj
   rw[if_pos rfl,hx]at hy
   simp only[Option.map_some,Option.some.injEq]at hy
   subst hy
   exact hi
  ·rw[if_neg hj]at hy
   refine(h.item j y hy).move hsz (hb _ (h.low _ (by rw[h.mK j y hy];simp)) (by rw[h.mK j y hy];simpa using hj) (by rw[h.mK j y hy];simp)) (fun hk=>hb _ (h.low _ (by rw[h.kG j y hy hk];simp)) (by rw[h.kG j y hy hk];simp) (by rw[h.kG j y hy hk];simpa using hj)) ?_
   intro b tQ hbw
   refine⟨hD b tQ,hb b hbw ?_ ?_⟩<;>rw[h.data b tQ]<;>simp
 ·intro j y hy
  rw[aS]at hy
  by_cases hj:j=k
  ·subst hj;exact h.mK j x hx
  ·rw[if_neg hj]at hy;exact h.mK j y hy
 ·intro j y hy hk
  rw[aS]at hy
  by_cases hj:j=k
  ·subst hj
   rw[if_pos rfl,hx]at hy
   simp only[Option.map_some,Option.some.injEq]at hy
   subst hy
   exact h.kG j x hx (hfk▸hk)
  ·rw[if_neg hj]at hy;exact h.kG j y hy hk
theorem Am {κ α β:Type} (lt:κ→κ→Bool) (f:κ→α→β) (x:κ×α):∀l:List (κ×α),(gK lt x l).map (fun p=>(p.1,f p.1 p.2))=gK lt (x.1,f x.1 x.2) (l.map fun p=>(p.1,f p.1 p.2))
 |[]=>rfl
 |y::r=>by
  unfold gK
  simp only[List.map_cons]
  split<;>simp[Am lt f x r]
theorem vD {κ α β:Type} [DecidableEq κ] (f:κ→α→β) (k:κ) (l:List (κ×α)):(bB k l).map (fun p=>(p.1,f p.1 p.2))=bB k (l.map fun p=>(p.1,f p.1 p.2)):=by
 simp[bB,List.filter_map,Function.comp_def]
theorem vE {κ α β:Type} [DecidableEq κ] (lt:κ→κ→Bool) (f:κ→α→β) (k:κ) (v:α) (l:List (κ×α)):(bZ lt k v l).map (fun p=>(p.1,f p.1 p.2))=bZ lt k (f k v) (l.map fun p=>(p.1,f p.1 p.2)):=by
 simp only[bZ,Am,vD]
theorem eY {κ α:Type} [DecidableEq κ] (lt:κ→κ→Bool) (k j:κ) (v:α) (l:List (κ×α)):ah j (bZ lt k v l)=if j=k then some v else ah j l:=by
 by_cases h:j=k
 ·subst h;rw[if_pos rfl,xO]
 ·rw[if_neg h,wZ lt h]
theorem dP {κ α:Type} [DecidableEq κ] (k j:κ) (l:List (κ×α)):ah j (bB k l)=if j=k then none else ah j l:=by
 by_cases h:j=k
 ·subst h;rw[if_pos rfl,mH]
 ·rw[if_neg h,lK h]
theorem aH.add {g:Nat→Own} {D:Nat→Prop} {w w':World} {p mb:Nat} {ib nb:Int→Nat} {T:aF} (h:aH g D w p mb ib nb T) {k:Int} {x:bA} {i n:Nat} (hi0:w.heap.size≤i) (hn0:w.heap.size≤n) (hin:i≠n) (hiw:i<w'.heap.size) (hnw:x.kind=2→n<w'.heap.size) (hx0:ah k T=none) (hxb:x.b=[])
  (hm:MapAt aV w' mb (bZ gH k (ptr i) (T.map fun q=>(q.1,ptr (ib q.1))))) (hsz:w.heap.size≤w'.heap.size) (hb:∀b,b<w.heap.size→b≠mb→w'.heap[b]? =w.heap[b]?) (hi:iN (fun _=>False) w' k i n x):
  aH (fun b=>if b=i then .item k else if b=n∧x.kind=2 then .names k else g b) D w' p mb (fun j=>if j=k then i else ib j) (fun j=>if j=k then n else nb j) (bZ gH k x T):=by
 have hgl:∀b,g b≠ .none→b≠i∧b≠n:=fun b hb=>by have:=h.low b hb;omega
 have hgg:∀b,g b≠ .none→(if b=i then Own.item k else if b=n∧x.kind=2 then .names k else g b)=g b:=fun b hb=>by
  obtain⟨h1,h2⟩:=hgl b hb
  rw[if_neg h1,if_neg (fun h=>h2 h.1)]
 have hp:g p≠ .none:=by rw[h.oM];simp
 have hmm:g mb≠ .none:=by rw[h.je];simp
 refine⟨(hb p (h.low p hp) (fun e=>by have:=h.oM;rw[e,h.je]at this;cases this)).trans h.head,?_,?_,(hgg p hp).trans h.oM,(hgg mb hmm).trans h.je,?_,?_,?_,?_,fun b hb=>Nat.lt_of_lt_of_le (h.oO b hb) hsz⟩
 ·have e1:(bZ gH k x T).map (fun q=>(q.1,ptr ((fun j=>if j=k then i else ib j) q.1)))=bZ gH k (ptr i) (T.map fun q=>(q.1,ptr (ib q.1))):=by
   rw[vE gH (fun j _=>ptr ((fun j=>if j=k then i else ib j) j))]
   simp only[if_pos]
   congr 1
   apply List.map_congr_left
   intro q hq
   have:q.1≠k:=iq.1 hx0 q hq
   rw[if_neg this]
  rw[e1]
  exact hm
 ·intro j y hy
  rw[eY]at hy
  by_cases hj:j=k
  ·subst hj
   rw[if_pos rfl]at hy
   cases hy
   simp only[if_pos]
   refine hi.move (Nat.le_refl _) rfl (fun _=>rfl) (fun b hb=>hb.elim)
  ·rw[if_neg hj]at hy
   simp only[if_neg hj]
   have t1:=h.mK j y hy
   refine(h.item j y hy).move hsz (hb _ (h.low _ (by rw[t1];simp)) (fun e=>by rw[e,h.je]at t1;cases t1)) (fun hk=>hb _ (h.low _ (by rw[h.kG j y hy hk];simp)) (fun e=>by have t2:=h.kG j y hy hk;rw[e,h.je]at t2;cases t2)) ?_
   intro b tQ hbw
   exact⟨tQ,hb b hbw (fun e=>by have:=h.data b tQ;rw[e,h.je]at this;cases this)⟩
 ·intro j y hy
  rw[eY]at hy
  by_cases hj:j=k
  ·subst hj;simp
  ·rw[if_neg hj]at hy
   have t1:=h.mK j y hy
   simp only[if_neg hj]
   rw[hgg _ (by rw[t1];simp)]
   exact t1
 ·intro j y hy hk
  rw[eY]at hy
  by_cases hj:j=k
  ·subst hj
   rw[if_pos rfl]at hy
   cases hy
   simp only[if_pos]
   rw[if_neg (Ne.symm hin),if_pos ⟨trivial,hk⟩]
  ·rw[if_neg hj]at hy
   have t1:=h.kG j y hy hk
   simp only[if_neg hj]
   rw[hgg _ (by rw[t1];simp)]
   exact t1
 ·intro b tQ
  have:=h.oO b tQ
  rw[if_neg (by omega),if_neg (by omega)]
  exact h.data b tQ
 ·intro b hbn
  by_cases h1:b=i
  ·omega
  ·by_cases h2:b=n∧x.kind=2
   ·have:=hnw h2.2;omega
   ·simp only[if_neg h1,if_neg h2]at hbn
    exact Nat.lt_of_lt_of_le (h.low b hbn) hsz
theorem aH.del {g:Nat→Own} {D:Nat→Prop} {w w':World} {p mb:Nat} {ib nb:Int→Nat} {T:aF} (h:aH g D w p mb ib nb T) {k:Int}
  (hm:MapAt aV w' mb (bB k (T.map fun q=>(q.1,ptr (ib q.1))))) (hsz:w.heap.size≤w'.heap.size) (hb:∀b,b<w.heap.size→b≠mb→w'.heap[b]? =w.heap[b]?):aH g D w' p mb ib nb (bB k T):=by
 have hp:g p≠ .none:=by rw[h.oM];simp
 have hget:∀j y,ah j (bB k T)=some y→ah j T=some y:=fun j y hy=>by
  rw[dP]at hy
  split at hy
  ·cases hy
  ·exact hy
 refine⟨(hb p (h.low p hp) (fun e=>by have:=h.oM;rw[e,h.je]at this;cases this)).trans h.head,?_,?_,h.oM,h.je,fun j y hy=>h.mK j y (hget j y hy),fun j y hy=>h.kG j y (hget j y hy),h.data,fun b hb=>Nat.lt_of_lt_of_le (h.low b hb) hsz,fun b hb=>Nat.lt_of_lt_of_le (h.oO b hb) hsz⟩
 ·rw[vD (fun j _=>ptr (ib j))];exact hm
 ·intro j y hy'
  have hy:=hget j y hy'
  have t1:=h.mK j y hy
  refine(h.item j y hy).move hsz (hb _ (h.low _ (by rw[t1];simp)) (fun e=>by rw[e,h.je]at t1;cases t1)) (fun hk=>hb _ (h.low _ (by rw[h.kG j y hy hk];simp)) (fun e=>by have t2:=h.kG j y hy hk;rw[e,h.je]at t2;cases t2)) ?_
  intro b tQ hbw
  exact⟨tQ,hb b hbw (fun e=>by have:=h.data b tQ;rw[e,h.je]at this;cases this)⟩
theorem vF {κ α β:Type} [DecidableEq κ] (f:κ→α→β) (k:κ) (l:List (κ×α)):ah k (l.map fun p=>(p.1,f p.1 p.2))=(ah k l).map (f k):=by
 induction l with
 |nil=>rfl
 |cons y r ih=>
  rw[List.map_cons,eU,eU,ih]
  by_cases h:y.1=k
  ·subst h;simp
  ·simp[h]
theorem dh (ib:Int→Nat) (T:aF) (k:Int):ah k (T.map fun q=>(q.1,ptr (ib q.1)))=(ah k T).map fun _=>ptr (ib k):=vF (fun j (_:bA)=>ptr (ib j)) k T
theorem dA (x:bA) (n:Nm):ah n (bL x)=(ah n x.names).map fun i=>(.int .i64 i:Value):=vF (fun(_:Nm) (i:Int)=>Value.int .i64 i) n x.names
theorem iN.cell {D:Nat→Prop} {w:World} {k:Int} {ib nb:Nat} {x:bA} (h:iN D w k ib nb x):
  w.cell? ⟨ib,0,none⟩=some (.int .i64 k)∧w.cell? ⟨ib,1,none⟩=some (.int .i64 x.kind)∧w.cell? ⟨ib,2,none⟩=some (.int .i64 x.links)∧w.cell? ⟨ib,3,none⟩=some (.int .i64 x.b.length)∧w.cell? ⟨ib,4,none⟩=some (.int .u64 x.aO)∧w.cell? ⟨ib,5,none⟩=some (.bool x.closed)∧w.cell? ⟨ib,7,none⟩=some (fD x nb)∧ib<w.heap.size:=by
 obtain⟨⟨a,c,h1,_⟩,_⟩:=h
 have:=(Array.getElem?_eq_some_iff.1 h1).1
 refine⟨?_,?_,?_,?_,?_,?_,?_,this⟩<;>(simp only[World.cell?,h1];rfl)
theorem aH.cell {g:Nat→Own} {D:Nat→Prop} {w:World} {p mb:Nat} {ib nb:Int→Nat} {T:aF} (h:aH g D w p mb ib nb T):w.cell? ⟨p,0,none⟩=some (.map (some mb))∧p<w.heap.size∧mb<w.heap.size:=by
 have:=(Array.getElem?_eq_some_iff.1 h.head).1
 exact⟨by simp[World.cell?,h.head],this,h.map.lt⟩
theorem bW:mI gH:=TR
theorem kH {T:aF} (hs:aI gH T) {d:Int} {x:bA} (f:bA→bA) (hx:ah d T=some x) (k:Int):eB (aX d f T) k+cn k x=eB T k+cn k (f x):=by
 induction T with
 |nil=>cases hx
 |cons y r ih=>
  have hp:=hs.apart bW
  obtain⟨h1,h2⟩:=List.pairwise_cons.1 hp
  rw[eU]at hx
  by_cases hy:y.1=d
  ·rw[if_pos hy]at hx
   cases hx
   have hr:aX d f r=r:=by
    unfold aX
    conv=>rhs;rw[←List.map_id r]
    apply List.map_congr_left
    intro q hq
    have:=h1 q hq
    rw[if_neg (fun e=>this (hy.trans e.symm))]
    rfl
   have e:aX d f (y::r)=(y.1,f y.2)::r:=by
    have:aX d f (y::r)=(if y.1=d then(y.1,f y.2)else y)::aX d f r:=rfl
    rw[this,hr,if_pos hy]
   rw[e]
   simp[eB]
   omega
  ·rw[if_neg hy]at hx
   have:=ih (List.pairwise_cons.1 hs).2 hx
   have e:aX d f (y::r)=y::aX d f r:=by
    have:aX d f (y::r)=(if y.1=d then(y.1,f y.2)else y)::aX d f r:=rfl
    rw[this,if_neg hy]
   rw[e]
   simp[eB]at this⊢
   omega
theorem Ao (x:Int×bA):∀(T:aF) (k:Int),eB (gK gH x T) k=eB T k+cn k x.2
 |[],k=>by simp[gK,eB]
 |y::r,k=>by
  unfold gK
  split
  ·simp[eB];omega
  ·have:=Ao x r k
   simp[eB]at this⊢
   omega
theorem vG {T:aF} (hs:aI gH T) {d:Int} {x:bA} (hx:ah d T=some x) (k:Int):eB (bB d T) k+cn k x=eB T k:=by
 induction T with
 |nil=>cases hx
 |cons y r ih=>
  have hp:=hs.apart bW
  obtain⟨h1,h2⟩:=List.pairwise_cons.1 hp
  rw[eU]at hx
  by_cases hy:y.1=d
  ·rw[if_pos hy]at hx
   cases hx
   have hr:bB d r=r:=by
    unfold bB
    rw[List.filter_eq_self]
    intro q hq
    have:=h1 q hq
    simp only[Bool.not_eq_true',decide_eq_false_iff_not]
    exact fun e=>this (hy.trans e.symm)
   have e:bB d (y::r)=r:=by
    have:bB d (y::r)=if (!decide (y.1=d))=true then y::bB d r else bB d r:=by simp[bB,List.filter_cons]
    rw[this,hr];simp[hy]
   rw[e]
   simp[eB]
   omega
  ·rw[if_neg hy]at hx
   have:=ih (List.pairwise_cons.1 hs).2 hx
   have e:bB d (y::r)=y::bB d r:=by
    have:bB d (y::r)=if (!decide (y.1=d))=true then y::bB d r else bB d r:=by simp[bB,List.filter_cons]
    rw[this];simp[hy]
   rw[e]
   simp[eB]at this⊢
   omega
theorem Qq {T:aF} {k j:Int} {x:bA} (hx:ah j T=some x):cn k x≤eB T k:=by
 have hm:=bq hx
 have:∀(l:aF),(j,x)∈l→cn k x≤(l.map fun q=>cn k q.2).sum:=by
  intro l
  induction l with
  |nil=>simp
  |cons y r ih=>
   intro h
   simp only[List.map_cons,List.sum_cons]
   rcases List.mem_cons.1 h with rfl|h
   ·exact Nat.le_add_right _ _
   ·have:=ih h;omega
 exact this T hm
theorem xw {T:aF} {k:Int} (h:eB T k=0) {j:Int} {x:bA} (hx:ah j T=some x):∀e∈x.names,e.2≠k:=by
 have h1:cn k x=0:=by have:=Qq (k:=k) hx;omega
 unfold cn at h1
 rw[List.countP_eq_zero]at h1
 intro e he
 have:=h1 e he
 simpa using this
theorem rz.aX {T:aF} (h:rz T) {k:Int} {x:bA} {f:bA→bA} (hx:ah k T=some x) (h1:Fw (f x)) (hk:(f x).kind=x.kind) (hn:∀e∈(f x).names,(ah e.2 T).isSome=true∧e.2≠0):rz (Go.Proofs.YtjnhnlabpccgjaaGreat.aX k f T):=by
 have hget:∀j y,ah j (Go.Proofs.YtjnhnlabpccgjaaGreat.aX k f T)=some y→(j=k∧y=f x)∨(j≠k∧ah j T=some y):=fun j y hy=>by
  rw[aS]at hy
  by_cases hj:j=k
  ·subst hj
   rw[if_pos rfl,hx]at hy
   simp only[Option.map_some,Option.some.injEq]at hy
   exact .inl ⟨rfl,hy.symm⟩
  ·rw[if_neg hj]at hy;exact .inr ⟨hj,hy⟩
 have hsome:∀j,(ah j T).isSome=true→(ah j (Go.Proofs.YtjnhnlabpccgjaaGreat.aX k f T)).isSome=true:=fun j hj=>by
  rw[aS];split<;>simp[hj]
 refine⟨jL k f h.sorted,?_,fun j y hy=> ?_,fun j y hy e he=> ?_,by rw[fT];exact h.len,fun j y hy=> ?_⟩
 ·have hr:=h.root
  unfold bf at hr⊢
  rw[aS]
  by_cases h0:(0:Int)=k
  ·subst h0
   rw[if_pos rfl,hx]
   rw[hx]at hr
   exact hk.trans hr
  ·rw[if_neg h0];exact hr
 ·rcases hget j y hy with⟨rfl,rfl⟩|⟨_,hy⟩
  ·exact h1
  ·exact h.each j y hy
 ·rcases hget j y hy with⟨rfl,rfl⟩|⟨_,hy⟩
  ·exact⟨hsome _ (hn e he).1,(hn e he).2⟩
  ·exact⟨hsome _ (h.leads j y hy e he).1,(h.leads j y hy e he).2⟩
 ·rcases hget j y hy with⟨rfl,rfl⟩|⟨_,hy⟩
  ·exact h.ids j x hx
  ·exact h.ids j y hy
theorem fB.aX {T:aF} (h:fB T) {k:Int} {x:bA} {f:bA→bA} (hx:ah k T=some x) (h1:Fw (f x)) (hk:(f x).kind=x.kind) (hn:∀e∈(f x).names,(ah e.2 T).isSome=true∧e.2≠0)
  (hc:∀j y,ah j (Go.Proofs.YtjnhnlabpccgjaaGreat.aX k f T)=some y→j≠0→(eB (Go.Proofs.YtjnhnlabpccgjaaGreat.aX k f T) j:Int)=y.links):fB (Go.Proofs.YtjnhnlabpccgjaaGreat.aX k f T):=⟨h.torz.aX hx h1 hk hn,hc⟩
theorem fB.vH {T:aF} (h:fB T) {k:Int} {x:bA} {f:bA→bA} (hx:ah k T=some x) (h1:Fw (f x)) (hk:(f x).kind=x.kind) (hn:(f x).names=x.names) (hl:(f x).links=x.links):fB (Go.Proofs.YtjnhnlabpccgjaaGreat.aX k f T):=by
 refine h.aX hx h1 hk (by rw[hn];exact h.leads k x hx) fun j y hy hj=> ?_
 have hcn:cn j (f x)=cn j x:=by unfold cn;rw[hn]
 have:=kH h.sorted f hx j
 rw[hcn]at this
 have e:eB (Go.Proofs.YtjnhnlabpccgjaaGreat.aX k f T) j=eB T j:=by omega
 rw[e]
 rw[aS]at hy
 by_cases hjk:j=k
 ·subst hjk
  rw[if_pos rfl,hx]at hy
  simp only[Option.map_some,Option.some.injEq]at hy
  rw[←hy,hl]
  exact h.counts j x hx hj
 ·rw[if_neg hjk]at hy
  exact h.counts j y hy hj
theorem K4:∀(m:Nat) (T:aF),aI gH T→(∀i:Nat,1≤i→i≤m→(ah (i:Int) T).isSome=true)→m≤T.length
 |0,_,_,_=>Nat.zero_le _
 |m+1,T,hs,h=>by
  obtain⟨x,hx⟩:=Option.isSome_iff_exists.1 (h (m+1) (by omega) (by omega))
  have h1:=qy bW hs hx
  have h2:=K4 m (bB ((m+1:Nat):Int) T) (hs.bB _) (fun i hi him=>by
   rw[dP,if_neg (by omega)]
   exact h i hi (by omega))
  omega
theorem Fy {T:aF} (hs:aI gH T):∃f:Nat,xP T=f∧1≤f∧f≤T.length+1∧ah (f:Int) T=none∧∀i:Nat,1≤i→i<f→(ah (i:Int) T).isSome=true:=by
 unfold xP
 cases hf:(((List.range (T.length+1)).map fun n:Nat=>(n:Int)+1).find? fun n=>(ah n T).isNone)with
 |none=>
  exfalso
  have h1:=List.find?_eq_none.1 hf
  have:=K4 (T.length+1) T hs (fun i hi him=>by
   have:=h1 (i:Int) (List.mem_map.2 ⟨i-1,by simp;omega,by omega⟩)
   cases hq:ah (i:Int) T with
   |none=>rw[hq]at this;simp at this
   |some v=>rfl)
  omega
 |some n=>
  rw[List.find?_eq_some_iff_append]at hf
  obtain⟨hn,xs,ys,hab,hpre⟩:=hf
  have hl:(xs++n::ys).length=T.length+1:=by rw[←hab];simp
  have hidx:∀i (hi:i<xs.length+1),(xs++n::ys)[i]? =some ((i:Int)+1):=fun i hi=>by
   rw[←hab]
   simp only[List.length_append,List.length_cons]at hl
   simp[List.getElem?_range (show i<T.length+1 by omega)]
  have hne:n=(xs.length:Int)+1:=by
   have:=hidx xs.length (by omega)
   simpa using this
  simp only[List.length_append,List.length_cons]at hl
  refine⟨xs.length+1,by simp[hne],by omega,by omega,?_,fun i hi hif=> ?_⟩
  ·have:((xs.length+1:Nat):Int)=n:=by omega
   rw[this]
   simpa using hn
  ·have h2:=hidx (i-1) (by omega)
   rw[List.getElem?_append_left (by omega)]at h2
   have h3:=hpre _ (List.mem_of_getElem? h2)
   have e:((i-1:Nat):Int)+1=i:=by omega
   rw[e]at h3
   cases hq:ah (i:Int) T with
   |none=>rw[hq]at h3;simp at h3
   |some v=>rfl
theorem fB.free {T:aF} (h:fB T):∃f:Nat,xP T=f∧1≤f∧f≤T.length+1∧ah (f:Int) T=none∧∀i:Nat,1≤i→i<f→(ah (i:Int) T).isSome=true:=Fy h.sorted
theorem wF {α:Type} {l:List (Int×α)} {k:Int} (v:α) (h:ah k l=none):(bZ gH k v l).length=l.length+1:=by
 unfold bZ
 rw[qw,jd h]
theorem Fz {α:Type} (t:α→Int) (m:Nat):∀(ks:List Int) (E:List α),(∀e∈E,t e∈ks)→(∀k∈ks,E.countP (fun e=>decide (t e=k))≤m)→E.length≤m*ks.length
 |[],E,h,_=>by
  cases E with
  |nil=>simp
  |cons e r=>have:=h e (by simp);simp at this
 |k::ks,E,h,hc=>by
  have h1:=Fz t m ks (E.filter fun e=> !decide (t e=k)) (fun e he=>by
   obtain⟨h1,h2⟩:=List.mem_filter.1 he
   rcases List.mem_cons.1 (h e h1)with h3|h3
   ·simp[h3]at h2
   ·exact h3) (fun j hj=>by
    rw[List.countP_filter]
    refine Nat.le_trans (List.countP_mono_left fun e _ he=> ?_) (hc j (by simp[hj]))
    simp at he⊢
    exact he.1)
  have h2:=hc k (by simp)
  have h3:E.length=E.countP (fun e=>decide (t e=k))+(E.filter fun e=> !decide (t e=k)).length:=by
   rw[←List.countP_eq_length_filter]
   exact(List.length_eq_countP_add_countP (fun e=>decide (t e=k))).trans (by
    have:List.countP (fun a=>decide (¬decide (t a=k)=true)) E=List.countP (fun e=> !decide (t e=k)) E:=List.countP_congr (fun e _=>by simp)
    rw[this])
  rw[List.length_cons,Nat.mul_succ]
  omega
theorem fB.few {T:aF} (h:fB T) {k:Int} {x:bA} (hx:ah k T=some x):x.names.length≤4096:=by
 have h1:=Fz (fun e:Nm×Int=>e.2) 64 (T.map (·.1)) x.names (fun e he=>by
  obtain⟨y,hy⟩:=Option.isSome_iff_exists.1 (h.leads k x hx e he).1
  exact List.mem_map.2 ⟨_,bq hy,rfl⟩) (fun j hj=>by
   by_cases h0:j=0
   ·subst h0
    have:x.names.countP (fun e=>decide (e.2=0))=0:=by
     rw[List.countP_eq_zero]
     intro e he
     have:=(h.leads k x hx e he).2
     simpa using this
    omega
   ·obtain⟨q,hq,rfl⟩:=List.mem_map.1 hj
    have hy:=aL bW h.sorted hq
    have h2:=h.counts _ _ hy h0
    have h3:=(h.each _ _ hy).links
    have h4:=Qq (k:=q.1) hx
    unfold cn at h4
    omega)
 have:=h.len
 rw[List.length_map]at h1
 omega
theorem qA {T:aF} (hs:aI gH T) {k j:Int} {x y:bA} (h:ah j (bZ gH k x T)=some y):(j=k∧y=x)∨(j≠k∧ah j T=some y):=by
 rw[eY]at h
 by_cases hj:j=k
 ·rw[if_pos hj]at h
  exact .inl ⟨hj,by simpa using h.symm⟩
 ·rw[if_neg hj]at h
  exact .inr ⟨hj,h⟩
theorem Ap {kind:Int} (hk:kind=1∨kind=2):Fw (bS kind):=by
 refine⟨hk,fun _=>rfl,fun h=>⟨rfl,?_,rfl,rfl⟩,(fun h=>by cases h),by simp[bS,aI],by simp[bS],by simp[bS],by simp[bS],by simp[bS]⟩
 have:kind=2:=h
 simp[bS,this]
theorem rz.add {T:aF} (h:rz T) {f:Int} {kind:Int} (hk:kind=1∨kind=2) (hf:ah f T=none) (h1:0≤f) (h2:f≤65535) (hl:T.length<64):rz (bZ gH f (bS kind) T):=by
 refine⟨h.sorted.bZ bW _ _,?_,fun j y hy=> ?_,fun j y hy e he=> ?_,by rw[wF _ hf];omega,fun j y hy=> ?_⟩
 ·obtain⟨x,hx,hk0⟩:=eX h.root
  unfold bf
  rw[eY,if_neg (fun e=>by rw[e,hf]at hx;cases hx),hx]
  exact hk0
 ·rcases qA h.sorted hy with⟨rfl,rfl⟩|⟨_,hy⟩
  ·exact Ap hk
  ·exact h.each j y hy
 ·rcases qA h.sorted hy with⟨rfl,rfl⟩|⟨_,hy⟩
  ·cases he
  ·have:=h.leads j y hy e he
   refine⟨?_,this.2⟩
   rw[eY]
   split
   ·rfl
   ·exact this.1
 ·rcases qA h.sorted hy with⟨rfl,rfl⟩|⟨_,hy⟩
  ·exact⟨h1,h2⟩
  ·exact h.ids j y hy
theorem K5 {T:aF} {f kind:Int} (hf:ah f T=none) (k:Int):eB (bZ gH f (bS kind) T) k=eB T k:=by
 unfold bZ
 rw[jd hf,Ao]
 simp[cn,bS]
theorem Ht (n:Nm) (id k:Int):∀l:List (Nm×Int),(gK bytesBefore (n,id) l).countP (fun e=>decide (e.2=k))=l.countP (fun e=>decide (e.2=k))+if id=k then 1 else 0
 |[]=>by simp[gK,List.countP_cons]
 |y::r=>by
  unfold gK
  split
  ·simp[List.countP_cons]
  ·simp only[List.countP_cons,Ht n id k r]
   omega
theorem FB {x:bA} {n:Nm} {id:Int} (h:ah n x.names=none) (k:Int):cn k {x with names:=bZ bytesBefore n id x.names}=cn k x+if id=k then 1 else 0:=by
 unfold cn bZ
 simp only
 rw[jd h,Ht]
theorem IY {T:aF} (h:rz T) {f:Int} (hf:ah f T=none):eB T f=0:=by
 have:∀l:aF,(∀q∈l,cn f q.2=0)→eB l f=0:=by
  intro l
  induction l with
  |nil=>intro _;rfl
  |cons y r ih=>
   intro hh
   have h1:=ih (fun q hq=>hh q (by simp[hq]))
   have h2:=hh y (by simp)
   unfold eB at h1⊢
   simp only[List.map_cons,List.sum_cons]
   omega
 refine this T fun q hq=> ?_
 unfold cn
 rw[List.countP_eq_zero]
 intro e he hd
 have h1:=h.leads _ _ (aL bW h.sorted hq) e he
 simp only[decide_eq_true_eq]at hd
 rw[hd,hf]at h1
 cases h1.1
theorem Og {x:bA} (h:Fw x) (hk:x.kind=2) {n:Nm} (hn:bV n=true) (id:Int):Fw {x with names:=bZ bytesBefore n id x.names}:=by
 refine⟨h.kind,fun h1=> ?_,h.dir,h.gone,h.sorted.bZ nk _ _,fun e he=> ?_,h.size,h.links,h.aO⟩
 ·have:x.kind=1:=h1
  omega
 ·rcases (kZ bytesBefore).1 he with h1|h1
  ·rw[h1];exact hn
  ·exact h.good e (List.mem_filter.1 h1).1
theorem Aq {x:bA} {n:Nm} {id:Int} {P:Nm×Int→Prop} (h:∀e∈x.names,P e) (h1:P (n,id)):∀e∈bZ bytesBefore n id x.names,P e:=by
 intro e he
 rcases (kZ bytesBefore).1 he with h2|h2
 ·rw[h2];exact h1
 ·exact h e (List.mem_filter.1 h2).1
theorem rz.set {T:aF} (h:rz T) {d:Int} {x:bA} {n:Nm} {id:Int} (hx:ah d T=some x) (hk:x.kind=2) (hn:bV n=true) (hid:(ah id T).isSome=true∧id≠0):rz (setName T d n id):=
 h.aX hx (Og (h.each d x hx) hk hn id) rfl (Aq (h.leads d x hx) hid)
theorem fB.make {T:aF} (h:fB T) {d kind f:Int} {x:bA} {n:Nm} (hk:kind=1∨kind=2) (hf:ah f T=none) (h1:1≤f) (h2:f≤65535) (hl:T.length<64) (hx:ah d T=some x) (hxk:x.kind=2) (hn:bV n=true) (hnn:ah n x.names=none):
  fB (setName (bZ gH f (bS kind) T) d n f):=by
 have hP:=h.torz.add hk hf (by omega) h2 hl
 have hdf:d≠f:=fun e=>by rw[e,hf]at hx;cases hx
 have hx':ah d (bZ gH f (bS kind) T)=some x:=by rw[eY,if_neg hdf];exact hx
 have hff:ah f (bZ gH f (bS kind) T)=some (bS kind):=by rw[eY,if_pos rfl]
 refine⟨hP.set hx' hxk hn ⟨by rw[hff];rfl,by omega⟩,fun j y hy hj=> ?_⟩
 have h3:=kH hP.sorted (fun x=>{x with names:=bZ bytesBefore n f x.names}) hx' j
 have h4:=FB (id:=f) hnn j
 have h5:=K5 (kind:=kind) hf j
 have hgt:∀z,ah j (bZ gH f (bS kind) T)=some z→z.links=y.links→(eB (setName (bZ gH f (bS kind) T) d n f) j:Int)=y.links:=by
  intro z hz hzl
  unfold setName
  rcases qA h.sorted hz with⟨rfl,rfl⟩|⟨YX,hz⟩
  ·have:=IY h.torz hf
   rw[if_pos rfl]at h4
   have e:eB (Go.Proofs.YtjnhnlabpccgjaaGreat.aX d (fun x=>{x with names:=bZ bytesBefore n j x.names}) (bZ gH j (bS kind) T)) j=1:=by omega
   rw[e,←hzl]
   rfl
  ·rw[if_neg (Ne.symm YX)]at h4
   have:=h.counts j z hz hj
   have e:eB (Go.Proofs.YtjnhnlabpccgjaaGreat.aX d (fun x=>{x with names:=bZ bytesBefore n f x.names}) (bZ gH f (bS kind) T)) j=eB T j:=by omega
   rw[e,this,hzl]
 unfold setName at hy
 rw[aS]at hy
 by_cases hjd:j=d
 ·subst hjd
  rw[if_pos rfl,hx']at hy
  simp only[Option.map_some,Option.some.injEq]at hy
  exact hgt x hx' (by rw[←hy])
 ·rw[if_neg hjd]at hy
  exact hgt y hy rfl
end Go.Proofs.YtjnhnlabpccgjaaGreat
