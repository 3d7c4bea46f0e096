/- Plain laws of names and paths: lists of bytes alone. The tree, as plain data: what each call of package tree says, and what is behind it. Keys of kind int. A tree in memory; what turns it. What holds of each tree holds of it behind each call: counts, and the parts of it. -/
import Derived.Test.YtjnhnlabpccgjaaGreatM05
import Derived.Lib.Split
import Derived.Lib.SplitLaws
import Derived.Lib.Join
import Derived.Test.YtjnhnlabpccgjaaGreatM04
import Derived.Test.YtjnhnlabpccgjaaGreatM02
namespace Go.Proofs.YtjnhnlabpccgjaaGreat
set_option linter.unusedVariables false
open Go
def dA (ls:List (List UInt8)):Int:=if ls.any (fun x=> !bV x)then 12 else if 8<ls.length then 3 else 0
open Go.ChangeShapes Go.WideShapes Go.ChangeAt Go.RowKit
set_option linter.unusedSimpArgs false
abbrev Nm:=List UInt8
abbrev fQ (a b:Int):Bool:=decide (a<b)
structure bq where
 kind:Int
 links:Int
 aP:Int
 closed:Bool
 b:List UInt8
 names:List (Nm×Int)
abbrev aA:=List (Int×bq)
section
variable {κ α:Type} [DecidableEq κ]
def aX (k:κ) (f:α→α) (l:List (κ×α)):List (κ×α):=l.map fun q=>if q.1=k then(q.1,f q.2)else q
theorem dZ (k:κ) (y:κ×α) (r:List (κ×α)):aj k (y::r)=if y.1=k then some y.2 else aj k r:=by
 unfold aj
 by_cases h:y.1=k<;>simp[h]
theorem bg (k j:κ) (f:α→α) (l:List (κ×α)):aj j (aX k f l)=if j=k then(aj j l).map f else aj j l:=by
 induction l with
 |nil=>simp[aX,aj]
 |cons y r ih=>
  have ih':aj j (List.map (fun q:κ×α=>if q.1=k then(q.1,f q.2)else q) r)=if j=k then(aj j r).map f else aj j r:=ih
  unfold aX
  rw[List.map_cons,dZ,dZ,ih']
  by_cases h:y.1=k
  ·by_cases h2:y.1=j
   ·have:j=k:=h2▸h
    simp[h,this]
   ·have:j≠k:=fun e=>h2 (h.trans e.symm)
    have h3:¬k=j:=fun e=>this e.symm
    simp[h,h3,this]
  ·by_cases h2:y.1=j
   ·have:j≠k:=fun e=>h (h2.trans e)
    simp[h2,this]
   ·simp[h,h2]
theorem J4 {β:Type} (k:κ) (f:α→α) (l:List (κ×α)) (g:κ→β):(aX k f l).map (fun q=>(q.1,g q.1))=l.map fun q=>(q.1,g q.1):=by
 unfold aX
 rw[List.map_map]
 apply List.map_congr_left
 intro q _
 by_cases h:q.1=k<;>simp[h]
theorem fV (k:κ) (f:α→α) (l:List (κ×α)):(aX k f l).length=l.length:=by simp[aX]
theorem jX {lt:κ→κ→Bool} (k:κ) (f:α→α) {l:List (κ×α)} (h:aC lt l):aC lt (aX k f l):=by
 unfold aC aX
 rw[List.pairwise_map]
 refine List.Pairwise.imp (fun{a b} hab=> ?_) h
 by_cases h1:a.1=k<;>by_cases h2:b.1=k<;>simp_all
theorem aI {lt:κ→κ→Bool} (L:lZ lt) {l:List (κ×α)} (h:aC lt l) {q:κ×α} (hq:q∈l):aj q.1 l=some q.2:=h.get L hq
end
def bL (kind:Int):bq:=⟨kind,1,0,decide (kind=2),[],[]⟩
def ni:aA:=[(0,bL 2)]
def aL (T:aA):Int→List Nm→Int×Int
 |id,[]=>(id,0)
 |id,n::r=>match aj id T with
  |none=>(0,20)
  |some x=>if x.kind=2 then(match aj n x.names with
   |none=>(0,20)
   |some k=>aL T k r)else(0,23)
def bI (T:aA) (id:Int):Int:=match aj id T with|some x=>x.kind|none=>0
def aY (T:aA) (id:Int):List (Nm×Int):=match aj id T with|some x=>x.names|none=>[]
def aV (T:aA) (p:List Nm):Int×Nm×Int:=
 if p=[]then(0,[],1)else
 if (aL T 0 p.dropLast).2≠0 then(0,[],(aL T 0 p.dropLast).2)else
 if bI T (aL T 0 p.dropLast).1=2 then((aL T 0 p.dropLast).1,p.getLastD [],0)else(0,[],23)
def yH (T:aA):Int:=(((List.range (T.length+1)).map fun n:Nat=>(n:Int)+1).find? fun n=>(aj n T).isNone).getD 0
def setName (T:aA) (d:Int) (n:Nm) (id:Int):aA:=aX d (fun x=>{x with names:=bM bytesBefore n id x.names}) T
def aJ (T:aA) (d:Int) (n:Nm):aA:=aX d (fun x=>{x with names:=bF n x.names}) T
def qV (T:aA) (p:List Nm) (kind:Int):aA:=setName (bM fQ (yH T) (bL kind) T) (aV T p).1 (aV T p).2.1 (yH T)
def jw (T:aA) (p:List Nm) (kind:Int):Int:=
 if dA p≠0 then dA p else
 if ¬(kind=1∨kind=2)then 30 else
 if (aV T p).2.2≠0 then(aV T p).2.2 else
 if (aj (aV T p).2.1 (aY T (aV T p).1)).isSome then 21 else
 if 64≤T.length then 4 else 0
def dK (T:aA) (p:List Nm) (kind:Int):(Int×Int)×aA:=
 if jw T p kind=0 then((yH T,0),qV T p kind)else((0,jw T p kind),T)
def dG (T:aA) (id:Int):Int:=match aj id T with|none=>20|some x=>if x.kind=2 then 22 else 0
def jH (T:aA) (id:Int) (b:List UInt8):Int:=match aj id T with
 |none=>20
 |some x=>if x.kind=2 then 22 else if x.closed then 27 else if 4096<x.b.length+b.length then 15 else 0
def bT (T:aA) (id:Int) (b:List UInt8):Int×aA:=(jH T id b,if jH T id b=0 then aX id (fun x=>{x with b:=x.b++b}) T else T)
def fG (T:aA) (id:Int):aA:=match aj id T with
 |none=>T
 |some x=>if x.links=0∧x.closed=true then bF id T else T
def qB (T:aA) (id aP:Int):Int:=match aj id T with
 |none=>20
 |some x=>if x.kind=2 then 22 else if x.closed then 27 else if 1099511627776<aP then 1 else 0
def fC (T:aA) (id aP:Int):Int×aA:=(qB T id aP,if qB T id aP=0 then fG (aX id (fun x=>{x with closed:=true,aP:=aP}) T) id else T)
def gK (T:aA) (id:Int):Int:=match aj id T with
 |none=>20
 |some x=>if x.kind=2 then 22 else if x.closed then 27 else 0
def vw (T:aA) (id:Int):aA:=bF id (T.map fun q=>(q.1,{q.2 with names:=q.2.names.filter fun e=> !decide (e.2=id)}))
def cu (T:aA) (id:Int):Int×aA:=(gK T id,if gK T id=0 then vw T id else T)
def mH (T:aA) (p:List Nm):Int×Int:=if dA p≠0 then(0,dA p)else aL T 0 p
def gT (T:aA) (p:List Nm):Int:=
 if (mH T p).2≠0 then(mH T p).2 else if bI T (aL T 0 p).1=2 then 22 else 0
def oK (T:aA) (p:List Nm):aA:=fG (aX (aL T 0 p).1 (fun x=>{x with links:=x.links-1}) (aJ T (aV T p).1 (aV T p).2.1)) (aL T 0 p).1
def bJ (T:aA) (p:List Nm):Int×aA:=(gT T p,if gT T p=0 then oK T p else T)
def cn (k:Int) (x:bq):Nat:=x.names.countP fun e=>decide (e.2=k)
def eZ (T:aA) (k:Int):Nat:=(T.map fun q=>cn k q.2).sum
structure Gh (x:bq):Prop where
 kind:x.kind=1∨x.kind=2
 file:x.kind=1→x.names=[]
 dir:x.kind=2→x.links=1∧x.closed=true∧x.b=[]∧x.aP=0
 gone:x.links=0→x.closed=false
 sorted:aC bytesBefore x.names
 good:∀e∈x.names,bV e.1=true
 size:x.b.length≤4096
 links:0≤x.links∧x.links≤64
 aP:0≤x.aP∧x.aP≤1099511627776
structure sJ (T:aA):Prop where
 sorted:aC fQ T
 root:bI T 0=2
 each:∀k x,aj k T=some x→Gh x
 leads:∀k x,aj k T=some x→∀e∈x.names,(aj e.2 T).isSome=true∧e.2≠0
 len:T.length≤64
 ids:∀k x,aj k T=some x→0≤k∧k≤65535
structure eH (T:aA):Prop extends sJ T where
 counts:∀k x,aj k T=some x→k≠0→(eZ T k:Int)=x.links
structure Gi (x:bq):Prop where
 kind:x.kind=1∨x.kind=2
 file:x.kind=1→x.names=[]
 dir:x.kind=2→x.links=1∧x.closed=true∧x.b=[]∧x.aP=0
 gone:x.links=0→x.closed=false
 sorted:aC bytesBefore x.names
 good:∀e∈x.names,bV e.1=true
 size:x.b.length≤4096
 links:0≤x.links∧x.links≤65535
 aP:0≤x.aP∧x.aP≤1099511627776
structure yI (T:aA):Prop where
 sorted:aC fQ T
 root:bI T 0=2
 each:∀k x,aj k T=some x→Gi x
 leads:∀k x,aj k T=some x→∀e∈x.names,(aj e.2 T).isSome=true∧e.2≠0
 len:T.length≤64
 ids:∀k x,aj k T=some x→0≤k∧k≤65535
structure OkW (T:aA):Prop extends yI T where
 counts:∀k x,aj k T=some x→k≠0→(eZ T k:Int)=x.links
theorem Gh.w {x:bq} (h:Gh x):Gi x:=⟨h.kind,h.file,h.dir,h.gone,h.sorted,h.good,h.size,⟨h.links.1,by have:=h.links.2;omega⟩,h.aP⟩
theorem sJ.w {T:aA} (h:sJ T):yI T:=⟨h.sorted,h.root,fun k x hx=>(h.each k x hx).w,h.leads,h.len,h.ids⟩
theorem eH.w {T:aA} (h:eH T):OkW T:=⟨h.tosJ.w,h.counts⟩
instance {T:aA}:Coe (sJ T) (yI T):=⟨sJ.w⟩
theorem sJ.UU {T:aA} (h:yI T) (hl:∀k x,aj k T=some x→x.links≤64):sJ T:=
 ⟨h.sorted,h.root,fun k x hx=>have o:=h.each k x hx;⟨o.kind,o.file,o.dir,o.gone,o.sorted,o.good,o.size,⟨o.links.1,hl k x hx⟩,o.aP⟩,h.leads,h.len,h.ids⟩
instance {x:bq}:Coe (Gh x) (Gi x):=⟨Gh.w⟩
instance {T:aA}:Coe (eH T) (OkW T):=⟨eH.w⟩
theorem fu {T:aA} {id:Int} (h:bI T id=2):∃x,aj id T=some x∧x.kind=2:=by
 unfold bI at h
 cases hg:aj id T with
 |none=>rw[hg]at h;cases h
 |some x=>rw[hg]at h;exact⟨x,rfl,h⟩
theorem jZ {T:aA} (hT:OkW T):∀(p:List Nm) (id:Int),(aj id T).isSome=true→(aL T id p).2=0→(aj (aL T id p).1 T).isSome=true
 |[],id,h,_=>h
 |n::r,id,h,he=>by
  obtain⟨x,hx⟩:=Option.isSome_iff_exists.1 h
  simp only[aL,hx]at he⊢
  split at he
  ·rename_i hk
   rw[if_pos hk]
   cases hn:aj n x.names with
   |none=>rw[hn]at he;cases he
   |some k=>
    rw[hn]at he
    exact jZ hT r k (hT.leads _ _ hx _ (bC hn)).1 he
  ·cases he
theorem iG {T:aA} (hT:OkW T):(aj 0 T).isSome=true:=by
 obtain⟨x,h,_⟩:=fu hT.root
 simp[h]
def aW:vv Tryz.prog 3 Int where
 lit x:= .int .i64 x
 val x:= .int .i64 x
 ok x:=(Lit.int .i64 x).wf=true
 lt a b:=decide (a<b)
 law:=Go.Maps.int_keyed Tryz.underlying3
 of x h:=Go.Maps.keyOf_int_mk Tryz.underlying3 h
 inv v kl h:=by
  obtain⟨x,e1,e2,e3⟩:=Go.Maps.keyOf_int_inv Tryz.underlying3 h
  exact⟨x,e1,e2,e3⟩
 same a b:=by simp[Lit.sameKey]
 before a b:=by simp[Lit.before]
 isKey a:=by exact trivial
theorem XZ:lZ (fun a b:Int=>decide (a<b)):=⟨fun a=>by simp,fun a b c h1 h2=>by simp at*;omega,fun a b h=>by simp;omega⟩
inductive Own where
 |none
 |head
 |items
 |item (k:Int)
 |names (k:Int)
abbrev ptr (b:Nat):Value:= .pointer (some ⟨b,0,none⟩)
def dU (x:bq) (nb:Nat):Value:=if x.kind=2 then .map (some nb)else .map none
def gP (k:Int) (x:bq) (a:Option Addr) (c nb:Nat):Array Value:=
 #[.int .i64 k, .int .i64 x.kind, .int .i64 x.links, .int .i64 x.b.length, .int .u64 x.aP, .bool x.closed, .slice a x.b.length c,dU x nb]
def dV (x:bq):List (Nm×Value):=x.names.map fun e=>(e.1, .int .i64 e.2)
def kV (n c:Nat):Prop:=n≤c∧c≤maxLen
structure iq (D:Nat→Prop) (w:World) (k:Int) (ib nb:Nat) (x:bq):Prop where
 cells:∃a c,w.heap[ib]? =some (.cells (gP k x a c nb) 112 (0,0))∧kV x.b.length c∧ah D w a x.b.length (x.b.map bv)
 names:x.kind=2→MapAt fM w nb (dV x)
structure aH (g:Nat→Own) (D:Nat→Prop) (w:World) (p mb:Nat) (ib nb:Int→Nat) (T:aA):Prop where
 head:w.heap[p]? =some (.cells #[.map (some mb)] 106 (0,0))
 map:MapAt aW w mb (T.map fun q=>(q.1,ptr (ib q.1)))
 item:∀k x,aj k T=some x→iq D w k (ib k) (nb k) x
 nS:g p= .head
 iH:g mb= .items
 nk:∀k x,aj k T=some x→g (ib k)= .item k
 kZ:∀k x,aj k T=some x→x.kind=2→g (nb k)= .names k
 data:∀b,D b→g b= .none
 low:∀b,g b≠ .none→b<w.heap.size
 mh:∀b,D b→b<w.heap.size
theorem iq.move {D D':Nat→Prop} {w w':World} {k:Int} {ib nb:Nat} {x:bq} (h:iq D w k ib nb x) (hs:w.heap.size≤w'.heap.size) (hi:w'.heap[ib]? =w.heap[ib]?) (hn:x.kind=2→w'.heap[nb]? =w.heap[nb]?) (hD:∀b,D b→b<w.heap.size→D' b∧w'.heap[b]? =w.heap[b]?):iq D' w' k ib nb x:=by
 obtain⟨⟨a,c,h1,h2,h3⟩,h4⟩:=h
 exact⟨⟨a,c,hi.trans h1,h2,h3.move hs hD⟩,fun hk=>(h4 hk).kept (hn hk)⟩
theorem aH.keeps {g:Nat→Own} {D fp:Nat→Prop} {w w':World} {p mb:Nat} {ib nb:Int→Nat} {T:aA} (h:aH g D w p mb ib nb T) (hK:Keeps fp w w') (hn:∀b,g b≠ .none∨D b→¬fp b):aH g D w' p mb ib nb T:=by
 have hb:∀b,g b≠ .none→w'.heap[b]? =w.heap[b]? :=fun b hb=>hK.block b (h.low b hb) (hn b (.inl hb))
 refine⟨(hb p (by rw[h.nS];simp)).trans h.head,h.map.kept (hb mb (by rw[h.iH];simp)),fun k x hx=>(h.item k x hx).move hK.size (hb _ (by rw[h.nk k x hx];simp)) (fun hk=>hb _ (by rw[h.kZ k x hx hk];simp)) fun b hb hbw=>⟨hb,hK.block b hbw (hn b (.inr hb))⟩,
  h.nS,h.iH,h.nk,h.kZ,h.data,fun b hb=>Nat.lt_of_lt_of_le (h.low b hb) hK.size,fun b hb=>Nat.lt_of_lt_of_le (h.mh b hb) hK.size⟩
theorem aH.below {g:Nat→Own} {D:Nat→Prop} {w w':World} {B p mb:Nat} {ib nb:Int→Nat} {T:aA} (h:aH g D w p mb ib nb T) (hb:Below B w w') (hB:w.heap.size≤B):aH g D w' p mb ib nb T:=
 h.keeps (fp:=fun x=>B≤x) (Keeps.below hb) fun b hx hf=>by
  rcases hx with hx|hx
  ·have:=h.low b hx;omega
  ·have:=h.mh b hx;omega
theorem aH.aX {g:Nat→Own} {D D':Nat→Prop} {w w':World} {p mb:Nat} {ib nb:Int→Nat} {T:aA} (h:aH g D w p mb ib nb T) {k:Int} {x:bq} {f:bq→bq} (hx:aj k T=some x) (hfk:(f x).kind=x.kind)
  (hD:∀b,D b→D' b) (hD':∀b,D' b→g b= .none∧b<w'.heap.size) (hsz:w.heap.size≤w'.heap.size) (hb:∀b,b<w.heap.size→g b≠ .item k→g b≠ .names k→w'.heap[b]? =w.heap[b]?) (hi:iq D' w' k (ib k) (nb k) (f x)):
  aH g D' w' p mb ib nb (aX k f T):=by
 refine⟨(hb p (h.low p (by rw[h.nS];simp)) (by rw[h.nS];simp) (by rw[h.nS];simp)).trans h.head,?_,?_,h.nS,h.iH,?_,?_,fun b hb=>(hD' b hb).1,fun b hb=>Nat.lt_of_lt_of_le (h.low b hb) hsz,fun b hb=>(hD' b hb).2⟩
 ·have:=h.map.kept (hb mb (h.low mb (by rw[h.iH];simp)) (by rw[h.iH];simp) (by rw[h.iH];simp))
  rw[J4 k f T (fun j=>ptr (ib j))]
  exact this
 ·intro j y hy
  rw[bg]at hy
  by_cases hj:j=k
  ·subst hj
   rw[if_pos rfl,hx]at hy
   simp only[Option.map_some,Option.some.injEq]at hy
   subst hy
   exact hi
  ·rw[if_neg hj]at hy
   refine(h.item j y hy).move hsz (hb _ (h.low _ (by rw[h.nk j y hy];simp)) (by rw[h.nk j y hy];simpa using hj) (by rw[h.nk j y hy];simp)) (fun hk=>hb _ (h.low _ (by rw[h.kZ j y hy hk];simp)) (by rw[h.kZ j y hy hk];simp) (by rw[h.kZ j y hy hk];simpa using hj)) ?_
   intro b qW hbw
   refine⟨hD b qW,hb b hbw ?_ ?_⟩<;>rw[h.data b qW]<;>simp
 ·intro j y hy
  rw[bg]at hy
  by_cases hj:j=k
  ·subst hj;exact h.nk j x hx
  ·rw[if_neg hj]at hy;exact h.nk j y hy
 ·intro j y hy hk
  rw[bg]at hy
  by_cases hj:j=k
  ·subst hj
   rw[if_pos rfl,hx]at hy
   simp only[Option.map_some,Option.some.injEq]at hy
   subst hy
   exact h.kZ j x hx (hfk▸hk)
  ·rw[if_neg hj]at hy;exact h.kZ j y hy hk
theorem Bw {κ α β:Type} (lt:κ→κ→Bool) (f:κ→α→β) (x:κ×α):∀l:List (κ×α),(gL lt x l).map (fun p=>(p.1,f p.1 p.2))=gL lt (x.1,f x.1 x.2) (l.map fun p=>(p.1,f p.1 p.2))
 |[]=>rfl
 |y::r=>by
  unfold gL
  simp only[List.map_cons]
  split<;>simp[Bw lt f x r]
theorem vB {κ α β:Type} [DecidableEq κ] (f:κ→α→β) (k:κ) (l:List (κ×α)):(bF k l).map (fun p=>(p.1,f p.1 p.2))=bF k (l.map fun p=>(p.1,f p.1 p.2)):=by
 simp[bF,List.filter_map,Function.comp_def]
theorem rU {κ α β:Type} [DecidableEq κ] (lt:κ→κ→Bool) (f:κ→α→β) (k:κ) (v:α) (l:List (κ×α)):(bM lt k v l).map (fun p=>(p.1,f p.1 p.2))=bM lt k (f k v) (l.map fun p=>(p.1,f p.1 p.2)):=by
 simp only[bM,Bw,vB]
theorem dL {κ α:Type} [DecidableEq κ] (lt:κ→κ→Bool) (k j:κ) (v:α) (l:List (κ×α)):aj j (bM lt k v l)=if j=k then some v else aj j l:=by
 by_cases h:j=k
 ·subst h;rw[if_pos rfl,yG]
 ·rw[if_neg h,xE lt h]
theorem eu {κ α:Type} [DecidableEq κ] (k j:κ) (l:List (κ×α)):aj j (bF k l)=if j=k then none else aj j l:=by
 by_cases h:j=k
 ·subst h;rw[if_pos rfl,mZ]
 ·rw[if_neg h,lY h]
theorem aH.add {g:Nat→Own} {D:Nat→Prop} {w w':World} {p mb:Nat} {ib nb:Int→Nat} {T:aA} (h:aH g D w p mb ib nb T) {k:Int} {x:bq} {i n:Nat} (hi0:w.heap.size≤i) (hn0:w.heap.size≤n) (hin:i≠n) (hiw:i<w'.heap.size) (hnw:x.kind=2→n<w'.heap.size) (hx0:aj k T=none) (hxb:x.b=[])
  (hm:MapAt aW w' mb (bM fQ k (ptr i) (T.map fun q=>(q.1,ptr (ib q.1))))) (hsz:w.heap.size≤w'.heap.size) (hb:∀b,b<w.heap.size→b≠mb→w'.heap[b]? =w.heap[b]?) (hi:iq (fun _=>False) w' k i n x):
  aH (fun b=>if b=i then .item k else if b=n∧x.kind=2 then .names k else g b) D w' p mb (fun j=>if j=k then i else ib j) (fun j=>if j=k then n else nb j) (bM fQ k x T):=by
 have hgl:∀b,g b≠ .none→b≠i∧b≠n:=fun b hb=>by have:=h.low b hb;omega
 have hgg:∀b,g b≠ .none→(if b=i then Own.item k else if b=n∧x.kind=2 then .names k else g b)=g b:=fun b hb=>by
  obtain⟨h1,h2⟩:=hgl b hb
  rw[if_neg h1,if_neg (fun h=>h2 h.1)]
 have hp:g p≠ .none:=by rw[h.nS];simp
 have hmm:g mb≠ .none:=by rw[h.iH];simp
 refine⟨(hb p (h.low p hp) (fun e=>by have:=h.nS;rw[e,h.iH]at this;cases this)).trans h.head,?_,?_,(hgg p hp).trans h.nS,(hgg mb hmm).trans h.iH,?_,?_,?_,?_,fun b hb=>Nat.lt_of_lt_of_le (h.mh b hb) hsz⟩
 ·have e1:(bM fQ k x T).map (fun q=>(q.1,ptr ((fun j=>if j=k then i else ib j) q.1)))=bM fQ k (ptr i) (T.map fun q=>(q.1,ptr (ib q.1))):=by
   rw[rU fQ (fun j _=>ptr ((fun j=>if j=k then i else ib j) j))]
   simp only[if_pos]
   congr 1
   apply List.map_congr_left
   intro q hq
   have:q.1≠k:=f_.1 hx0 q hq
   rw[if_neg this]
  rw[e1]
  exact hm
 ·intro j y hy
  rw[dL]at hy
  by_cases hj:j=k
  ·subst hj
   rw[if_pos rfl]at hy
   cases hy
   simp only[if_pos]
   refine hi.move (Nat.le_refl _) rfl (fun _=>rfl) (fun b hb=>hb.elim)
  ·rw[if_neg hj]at hy
   simp only[if_neg hj]
   have t1:=h.nk j y hy
   refine(h.item j y hy).move hsz (hb _ (h.low _ (by rw[t1];simp)) (fun e=>by rw[e,h.iH]at t1;cases t1)) (fun hk=>hb _ (h.low _ (by rw[h.kZ j y hy hk];simp)) (fun e=>by have t2:=h.kZ j y hy hk;rw[e,h.iH]at t2;cases t2)) ?_
   intro b qW hbw
   exact⟨qW,hb b hbw (fun e=>by have:=h.data b qW;rw[e,h.iH]at this;cases this)⟩
 ·intro j y hy
  rw[dL]at hy
  by_cases hj:j=k
  ·subst hj;simp
  ·rw[if_neg hj]at hy
   have t1:=h.nk j y hy
   simp only[if_neg hj]
   rw[hgg _ (by rw[t1];simp)]
   exact t1
 ·intro j y hy hk
  rw[dL]at hy
  by_cases hj:j=k
  ·subst hj
   rw[if_pos rfl]at hy
   cases hy
   simp only[if_pos]
   rw[if_neg (Ne.symm hin),if_pos ⟨trivial,hk⟩]
  ·rw[if_neg hj]at hy
   have t1:=h.kZ j y hy hk
   simp only[if_neg hj]
   rw[hgg _ (by rw[t1];simp)]
   exact t1
 ·intro b qW
  have:=h.mh b qW
  rw[if_neg (by omega),if_neg (by omega)]
  exact h.data b qW
 ·intro b hbn
  by_cases h1:b=i
  ·omega
  ·by_cases h2:b=n∧x.kind=2
   ·have:=hnw h2.2;omega
   ·simp only[if_neg h1,if_neg h2]at hbn
    exact Nat.lt_of_lt_of_le (h.low b hbn) hsz
theorem aH.del {g:Nat→Own} {D:Nat→Prop} {w w':World} {p mb:Nat} {ib nb:Int→Nat} {T:aA} (h:aH g D w p mb ib nb T) {k:Int}
  (hm:MapAt aW w' mb (bF k (T.map fun q=>(q.1,ptr (ib q.1))))) (hsz:w.heap.size≤w'.heap.size) (hb:∀b,b<w.heap.size→b≠mb→w'.heap[b]? =w.heap[b]?):aH g D w' p mb ib nb (bF k T):=by
 have hp:g p≠ .none:=by rw[h.nS];simp
 have hget:∀j y,aj j (bF k T)=some y→aj j T=some y:=fun j y hy=>by
  rw[eu]at hy
  split at hy
  ·cases hy
  ·exact hy
 refine⟨(hb p (h.low p hp) (fun e=>by have:=h.nS;rw[e,h.iH]at this;cases this)).trans h.head,?_,?_,h.nS,h.iH,fun j y hy=>h.nk j y (hget j y hy),fun j y hy=>h.kZ j y (hget j y hy),h.data,fun b hb=>Nat.lt_of_lt_of_le (h.low b hb) hsz,fun b hb=>Nat.lt_of_lt_of_le (h.mh b hb) hsz⟩
 ·rw[vB (fun j _=>ptr (ib j))];exact hm
 ·intro j y hy'
  have hy:=hget j y hy'
  have t1:=h.nk j y hy
  refine(h.item j y hy).move hsz (hb _ (h.low _ (by rw[t1];simp)) (fun e=>by rw[e,h.iH]at t1;cases t1)) (fun hk=>hb _ (h.low _ (by rw[h.kZ j y hy hk];simp)) (fun e=>by have t2:=h.kZ j y hy hk;rw[e,h.iH]at t2;cases t2)) ?_
  intro b qW hbw
  exact⟨qW,hb b hbw (fun e=>by have:=h.data b qW;rw[e,h.iH]at this;cases this)⟩
theorem vC {κ α β:Type} [DecidableEq κ] (f:κ→α→β) (k:κ) (l:List (κ×α)):aj k (l.map fun p=>(p.1,f p.1 p.2))=(aj k l).map (f k):=by
 induction l with
 |nil=>rfl
 |cons y r ih=>
  rw[List.map_cons,dZ,dZ,ih]
  by_cases h:y.1=k
  ·subst h;simp
  ·simp[h]
theorem dN (ib:Int→Nat) (T:aA) (k:Int):aj k (T.map fun q=>(q.1,ptr (ib q.1)))=(aj k T).map fun _=>ptr (ib k):=vC (fun j (_:bq)=>ptr (ib j)) k T
theorem jM (x:bq) (n:Nm):aj n (dV x)=(aj n x.names).map fun i=>(.int .i64 i:Value):=vC (fun(_:Nm) (i:Int)=>Value.int .i64 i) n x.names
theorem iq.cell {D:Nat→Prop} {w:World} {k:Int} {ib nb:Nat} {x:bq} (h:iq D w k ib nb x):
  w.cell? ⟨ib,0,none⟩=some (.int .i64 k)∧w.cell? ⟨ib,1,none⟩=some (.int .i64 x.kind)∧w.cell? ⟨ib,2,none⟩=some (.int .i64 x.links)∧w.cell? ⟨ib,3,none⟩=some (.int .i64 x.b.length)∧w.cell? ⟨ib,4,none⟩=some (.int .u64 x.aP)∧w.cell? ⟨ib,5,none⟩=some (.bool x.closed)∧w.cell? ⟨ib,7,none⟩=some (dU x nb)∧ib<w.heap.size:=by
 obtain⟨⟨a,c,h1,_⟩,_⟩:=h
 have:=(Array.getElem?_eq_some_iff.1 h1).1
 refine⟨?_,?_,?_,?_,?_,?_,?_,this⟩<;>(simp only[World.cell?,h1];rfl)
theorem aH.cell {g:Nat→Own} {D:Nat→Prop} {w:World} {p mb:Nat} {ib nb:Int→Nat} {T:aA} (h:aH g D w p mb ib nb T):w.cell? ⟨p,0,none⟩=some (.map (some mb))∧p<w.heap.size∧mb<w.heap.size:=by
 have:=(Array.getElem?_eq_some_iff.1 h.head).1
 exact⟨by simp[World.cell?,h.head],this,h.map.lt⟩
theorem bH:lZ fQ:=XZ
theorem oL {T:aA} (hs:aC fQ T) {d:Int} {x:bq} (f:bq→bq) (hx:aj d T=some x) (k:Int):eZ (aX d f T) k+cn k x=eZ T k+cn k (f x):=by
 induction T with
 |nil=>cases hx
 |cons y r ih=>
  have hp:=hs.apart bH
  obtain⟨h1,h2⟩:=List.pairwise_cons.1 hp
  rw[dZ]at hx
  by_cases hy:y.1=d
  ·rw[if_pos hy]at hx
   cases hx
   have hr:aX d f r=r:=by
    unfold aX
    conv=>rhs;rw[←List.map_id r]
    apply List.map_congr_left
    intro q hq
    have:=h1 q hq
    rw[if_neg (fun e=>this (hy.trans e.symm))]
    rfl
   have e:aX d f (y::r)=(y.1,f y.2)::r:=by
    have:aX d f (y::r)=(if y.1=d then(y.1,f y.2)else y)::aX d f r:=rfl
    rw[this,hr,if_pos hy]
   rw[e]
   simp[eZ]
   omega
  ·rw[if_neg hy]at hx
   have:=ih (List.pairwise_cons.1 hs).2 hx
   have e:aX d f (y::r)=y::aX d f r:=by
    have:aX d f (y::r)=(if y.1=d then(y.1,f y.2)else y)::aX d f r:=rfl
    rw[this,if_neg hy]
   rw[e]
   simp[eZ]at this⊢
   omega
theorem Bz (x:Int×bq):∀(T:aA) (k:Int),eZ (gL fQ x T) k=eZ T k+cn k x.2
 |[],k=>by simp[gL,eZ]
 |y::r,k=>by
  unfold gL
  split
  ·simp[eZ];omega
  ·have:=Bz x r k
   simp[eZ]at this⊢
   omega
theorem vD {T:aA} (hs:aC fQ T) {d:Int} {x:bq} (hx:aj d T=some x) (k:Int):eZ (bF d T) k+cn k x=eZ T k:=by
 induction T with
 |nil=>cases hx
 |cons y r ih=>
  have hp:=hs.apart bH
  obtain⟨h1,h2⟩:=List.pairwise_cons.1 hp
  rw[dZ]at hx
  by_cases hy:y.1=d
  ·rw[if_pos hy]at hx
   cases hx
   have hr:bF d r=r:=by
    unfold bF
    rw[List.filter_eq_self]
    intro q hq
    have:=h1 q hq
    simp only[Bool.not_eq_true',decide_eq_false_iff_not]
    exact fun e=>this (hy.trans e.symm)
   have e:bF d (y::r)=r:=by
    have:bF d (y::r)=if (!decide (y.1=d))=true then y::bF d r else bF d r:=by simp[bF,List.filter_cons]
    rw[this,hr];simp[hy]
   rw[e]
   simp[eZ]
   omega
  ·rw[if_neg hy]at hx
   have:=ih (List.pairwise_cons.1 hs).2 hx
   have e:bF d (y::r)=y::bF d r:=by
    have:bF d (y::r)=if (!decide (y.1=d))=true then y::bF d r else bF d r:=by simp[bF,List.filter_cons]
    rw[this];simp[hy]
   rw[e]
   simp[eZ]at this⊢
   omega
theorem TH {T:aA} {k j:Int} {x:bq} (hx:aj j T=some x):cn k x≤eZ T k:=by
 have hm:=bC hx
 have:∀(l:aA),(j,x)∈l→cn k x≤(l.map fun q=>cn k q.2).sum:=by
  intro l
  induction l with
  |nil=>simp
  |cons y r ih=>
   intro h
   simp only[List.map_cons,List.sum_cons]
   rcases List.mem_cons.1 h with rfl|h
   ·exact Nat.le_add_right _ _
   ·have:=ih h;omega
 exact this T hm
theorem xS {T:aA} {k:Int} (h:eZ T k=0) {j:Int} {x:bq} (hx:aj j T=some x):∀e∈x.names,e.2≠k:=by
 have h1:cn k x=0:=by have:=TH (k:=k) hx;omega
 unfold cn at h1
 rw[List.countP_eq_zero]at h1
 intro e he
 have:=h1 e he
 simpa using this
theorem sJ.aX {T:aA} (h:sJ T) {k:Int} {x:bq} {f:bq→bq} (hx:aj k T=some x) (h1:Gh (f x)) (hk:(f x).kind=x.kind) (hn:∀e∈(f x).names,(aj e.2 T).isSome=true∧e.2≠0):sJ (Go.Proofs.YtjnhnlabpccgjaaGreat.aX k f T):=by
 have hget:∀j y,aj j (Go.Proofs.YtjnhnlabpccgjaaGreat.aX k f T)=some y→(j=k∧y=f x)∨(j≠k∧aj j T=some y):=fun j y hy=>by
  rw[bg]at hy
  by_cases hj:j=k
  ·subst hj
   rw[if_pos rfl,hx]at hy
   simp only[Option.map_some,Option.some.injEq]at hy
   exact .inl ⟨rfl,hy.symm⟩
  ·rw[if_neg hj]at hy;exact .inr ⟨hj,hy⟩
 have hsome:∀j,(aj j T).isSome=true→(aj j (Go.Proofs.YtjnhnlabpccgjaaGreat.aX k f T)).isSome=true:=fun j hj=>by
  rw[bg];split<;>simp[hj]
 refine⟨jX k f h.sorted,?_,fun j y hy=> ?_,fun j y hy e he=> ?_,by rw[fV];exact h.len,fun j y hy=> ?_⟩
 ·have hr:=h.root
  unfold bI at hr⊢
  rw[bg]
  by_cases h0:(0:Int)=k
  ·subst h0
   rw[if_pos rfl,hx]
   rw[hx]at hr
   exact hk.trans hr
  ·rw[if_neg h0];exact hr
 ·rcases hget j y hy with⟨rfl,rfl⟩|⟨_,hy⟩
  ·exact h1
  ·exact h.each j y hy
 ·rcases hget j y hy with⟨rfl,rfl⟩|⟨_,hy⟩
  ·exact⟨hsome _ (hn e he).1,(hn e he).2⟩
  ·exact⟨hsome _ (h.leads j y hy e he).1,(h.leads j y hy e he).2⟩
 ·rcases hget j y hy with⟨rfl,rfl⟩|⟨_,hy⟩
  ·exact h.ids j x hx
  ·exact h.ids j y hy
theorem eH.aX {T:aA} (h:eH T) {k:Int} {x:bq} {f:bq→bq} (hx:aj k T=some x) (h1:Gh (f x)) (hk:(f x).kind=x.kind) (hn:∀e∈(f x).names,(aj e.2 T).isSome=true∧e.2≠0)
  (hc:∀j y,aj j (Go.Proofs.YtjnhnlabpccgjaaGreat.aX k f T)=some y→j≠0→(eZ (Go.Proofs.YtjnhnlabpccgjaaGreat.aX k f T) j:Int)=y.links):eH (Go.Proofs.YtjnhnlabpccgjaaGreat.aX k f T):=⟨h.tosJ.aX hx h1 hk hn,hc⟩
theorem eH.BA {T:aA} (h:eH T) {k:Int} {x:bq} {f:bq→bq} (hx:aj k T=some x) (h1:Gh (f x)) (hk:(f x).kind=x.kind) (hn:(f x).names=x.names) (hl:(f x).links=x.links):eH (Go.Proofs.YtjnhnlabpccgjaaGreat.aX k f T):=by
 refine h.aX hx h1 hk (by rw[hn];exact h.leads k x hx) fun j y hy hj=> ?_
 have hcn:cn j (f x)=cn j x:=by unfold cn;rw[hn]
 have:=oL h.sorted f hx j
 rw[hcn]at this
 have e:eZ (Go.Proofs.YtjnhnlabpccgjaaGreat.aX k f T) j=eZ T j:=by omega
 rw[e]
 rw[bg]at hy
 by_cases hjk:j=k
 ·subst hjk
  rw[if_pos rfl,hx]at hy
  simp only[Option.map_some,Option.some.injEq]at hy
  rw[←hy,hl]
  exact h.counts j x hx hj
 ·rw[if_neg hjk]at hy
  exact h.counts j y hy hj
theorem M9:∀(m:Nat) (T:aA),aC fQ T→(∀i:Nat,1≤i→i≤m→(aj (i:Int) T).isSome=true)→m≤T.length
 |0,_,_,_=>Nat.zero_le _
 |m+1,T,hs,h=>by
  obtain⟨x,hx⟩:=Option.isSome_iff_exists.1 (h (m+1) (by omega) (by omega))
  have h1:=qU bH hs hx
  have h2:=M9 m (bF ((m+1:Nat):Int) T) (hs.bF _) (fun i hi him=>by
   rw[eu,if_neg (by omega)]
   exact h i hi (by omega))
  omega
theorem Gj {T:aA} (hs:aC fQ T):∃f:Nat,yH T=f∧1≤f∧f≤T.length+1∧aj (f:Int) T=none∧∀i:Nat,1≤i→i<f→(aj (i:Int) T).isSome=true:=by
 unfold yH
 cases hf:(((List.range (T.length+1)).map fun n:Nat=>(n:Int)+1).find? fun n=>(aj n T).isNone)with
 |none=>
  exfalso
  have h1:=List.find?_eq_none.1 hf
  have:=M9 (T.length+1) T hs (fun i hi him=>by
   have:=h1 (i:Int) (List.mem_map.2 ⟨i-1,by simp;omega,by omega⟩)
   cases hq:aj (i:Int) T with
   |none=>rw[hq]at this;simp at this
   |some v=>rfl)
  omega
 |some n=>
  rw[List.find?_eq_some_iff_append]at hf
  obtain⟨hn,xs,ys,hab,hpre⟩:=hf
  have hl:(xs++n::ys).length=T.length+1:=by rw[←hab];simp
  have hidx:∀i (hi:i<xs.length+1),(xs++n::ys)[i]? =some ((i:Int)+1):=fun i hi=>by
   rw[←hab]
   simp only[List.length_append,List.length_cons]at hl
   simp[List.getElem?_range (show i<T.length+1 by omega)]
  have hne:n=(xs.length:Int)+1:=by
   have:=hidx xs.length (by omega)
   simpa using this
  simp only[List.length_append,List.length_cons]at hl
  refine⟨xs.length+1,by simp[hne],by omega,by omega,?_,fun i hi hif=> ?_⟩
  ·have:((xs.length+1:Nat):Int)=n:=by omega
   rw[this]
   simpa using hn
  ·have h2:=hidx (i-1) (by omega)
   rw[List.getElem?_append_left (by omega)]at h2
   have h3:=hpre _ (List.mem_of_getElem? h2)
   have e:((i-1:Nat):Int)+1=i:=by omega
   rw[e]at h3
   cases hq:aj (i:Int) T with
   |none=>rw[hq]at h3;simp at h3
   |some v=>rfl
theorem eH.free {T:aA} (h:eH T):∃f:Nat,yH T=f∧1≤f∧f≤T.length+1∧aj (f:Int) T=none∧∀i:Nat,1≤i→i<f→(aj (i:Int) T).isSome=true:=Gj h.sorted
theorem wP {α:Type} {l:List (Int×α)} {k:Int} (v:α) (h:aj k l=none):(bM fQ k v l).length=l.length+1:=by
 unfold bM
 rw[qQ,jg h]
theorem Gl {α:Type} (t:α→Int) (m:Nat):∀(ks:List Int) (E:List α),(∀e∈E,t e∈ks)→(∀k∈ks,E.countP (fun e=>decide (t e=k))≤m)→E.length≤m*ks.length
 |[],E,h,_=>by
  cases E with
  |nil=>simp
  |cons e r=>have:=h e (by simp);simp at this
 |k::ks,E,h,hc=>by
  have h1:=Gl t m ks (E.filter fun e=> !decide (t e=k)) (fun e he=>by
   obtain⟨h1,h2⟩:=List.mem_filter.1 he
   rcases List.mem_cons.1 (h e h1)with h3|h3
   ·simp[h3]at h2
   ·exact h3) (fun j hj=>by
    rw[List.countP_filter]
    refine Nat.le_trans (List.countP_mono_left fun e _ he=> ?_) (hc j (by simp[hj]))
    simp at he⊢
    exact he.1)
  have h2:=hc k (by simp)
  have h3:E.length=E.countP (fun e=>decide (t e=k))+(E.filter fun e=> !decide (t e=k)).length:=by
   rw[←List.countP_eq_length_filter]
   exact(List.length_eq_countP_add_countP (fun e=>decide (t e=k))).trans (by
    have:List.countP (fun a=>decide (¬decide (t a=k)=true)) E=List.countP (fun e=> !decide (t e=k)) E:=List.countP_congr (fun e _=>by simp)
    rw[this])
  rw[List.length_cons,Nat.mul_succ]
  omega
theorem eH.few {T:aA} (h:eH T) {k:Int} {x:bq} (hx:aj k T=some x):x.names.length≤4096:=by
 have h1:=Gl (fun e:Nm×Int=>e.2) 64 (T.map (·.1)) x.names (fun e he=>by
  obtain⟨y,hy⟩:=Option.isSome_iff_exists.1 (h.leads k x hx e he).1
  exact List.mem_map.2 ⟨_,bC hy,rfl⟩) (fun j hj=>by
   by_cases h0:j=0
   ·subst h0
    have:x.names.countP (fun e=>decide (e.2=0))=0:=by
     rw[List.countP_eq_zero]
     intro e he
     have:=(h.leads k x hx e he).2
     simpa using this
    omega
   ·obtain⟨q,hq,rfl⟩:=List.mem_map.1 hj
    have hy:=aI bH h.sorted hq
    have h2:=h.counts _ _ hy h0
    have h3:=(h.each _ _ hy).links
    have h4:=TH (k:=q.1) hx
    unfold cn at h4
    omega)
 have:=h.len
 rw[List.length_map]at h1
 omega
theorem qX {T:aA} (hs:aC fQ T) {k j:Int} {x y:bq} (h:aj j (bM fQ k x T)=some y):(j=k∧y=x)∨(j≠k∧aj j T=some y):=by
 rw[dL]at h
 by_cases hj:j=k
 ·rw[if_pos hj]at h
  exact .inl ⟨hj,by simpa using h.symm⟩
 ·rw[if_neg hj]at h
  exact .inr ⟨hj,h⟩
theorem BD {kind:Int} (hk:kind=1∨kind=2):Gh (bL kind):=by
 refine⟨hk,fun _=>rfl,fun h=>⟨rfl,?_,rfl,rfl⟩,(fun h=>by cases h),by simp[bL,aC],by simp[bL],by simp[bL],by simp[bL],by simp[bL]⟩
 have:kind=2:=h
 simp[bL,this]
theorem sJ.add {T:aA} (h:sJ T) {f:Int} {kind:Int} (hk:kind=1∨kind=2) (hf:aj f T=none) (h1:0≤f) (h2:f≤65535) (hl:T.length<64):sJ (bM fQ f (bL kind) T):=by
 refine⟨h.sorted.bM bH _ _,?_,fun j y hy=> ?_,fun j y hy e he=> ?_,by rw[wP _ hf];omega,fun j y hy=> ?_⟩
 ·obtain⟨x,hx,hk0⟩:=fu h.root
  unfold bI
  rw[dL,if_neg (fun e=>by rw[e,hf]at hx;cases hx),hx]
  exact hk0
 ·rcases qX h.sorted hy with⟨rfl,rfl⟩|⟨_,hy⟩
  ·exact BD hk
  ·exact h.each j y hy
 ·rcases qX h.sorted hy with⟨rfl,rfl⟩|⟨_,hy⟩
  ·cases he
  ·have:=h.leads j y hy e he
   refine⟨?_,this.2⟩
   rw[dL]
   split
   ·rfl
   ·exact this.1
 ·rcases qX h.sorted hy with⟨rfl,rfl⟩|⟨_,hy⟩
  ·exact⟨h1,h2⟩
  ·exact h.ids j y hy
theorem M_ {T:aA} {f kind:Int} (hf:aj f T=none) (k:Int):eZ (bM fQ f (bL kind) T) k=eZ T k:=by
 unfold bM
 rw[jg hf,Bz]
 simp[cn,bL]
theorem I8 (n:Nm) (id k:Int):∀l:List (Nm×Int),(gL bytesBefore (n,id) l).countP (fun e=>decide (e.2=k))=l.countP (fun e=>decide (e.2=k))+if id=k then 1 else 0
 |[]=>by simp[gL,List.countP_cons]
 |y::r=>by
  unfold gL
  split
  ·simp[List.countP_cons]
  ·simp only[List.countP_cons,I8 n id k r]
   omega
theorem Na {x:bq} {n:Nm} {id:Int} (h:aj n x.names=none) (k:Int):cn k {x with names:=bM bytesBefore n id x.names}=cn k x+if id=k then 1 else 0:=by
 unfold cn bM
 simp only
 rw[jg h,I8]
theorem J5 {T:aA} (h:sJ T) {f:Int} (hf:aj f T=none):eZ T f=0:=by
 have:∀l:aA,(∀q∈l,cn f q.2=0)→eZ l f=0:=by
  intro l
  induction l with
  |nil=>intro _;rfl
  |cons y r ih=>
   intro hh
   have h1:=ih (fun q hq=>hh q (by simp[hq]))
   have h2:=hh y (by simp)
   unfold eZ at h1⊢
   simp only[List.map_cons,List.sum_cons]
   omega
 refine this T fun q hq=> ?_
 unfold cn
 rw[List.countP_eq_zero]
 intro e he hd
 have h1:=h.leads _ _ (aI bH h.sorted hq) e he
 simp only[decide_eq_true_eq]at hd
 rw[hd,hf]at h1
 cases h1.1
theorem QT {x:bq} (h:Gh x) (hk:x.kind=2) {n:Nm} (hn:bV n=true) (id:Int):Gh {x with names:=bM bytesBefore n id x.names}:=by
 refine⟨h.kind,fun h1=> ?_,h.dir,h.gone,h.sorted.bM qK _ _,fun e he=> ?_,h.size,h.links,h.aP⟩
 ·have:x.kind=1:=h1
  omega
 ·rcases (mY bytesBefore).1 he with h1|h1
  ·rw[h1];exact hn
  ·exact h.good e (List.mem_filter.1 h1).1
theorem J6 {x:bq} {n:Nm} {id:Int} {P:Nm×Int→Prop} (h:∀e∈x.names,P e) (h1:P (n,id)):∀e∈bM bytesBefore n id x.names,P e:=by
 intro e he
 rcases (mY bytesBefore).1 he with h2|h2
 ·rw[h2];exact h1
 ·exact h e (List.mem_filter.1 h2).1
theorem sJ.set {T:aA} (h:sJ T) {d:Int} {x:bq} {n:Nm} {id:Int} (hx:aj d T=some x) (hk:x.kind=2) (hn:bV n=true) (hid:(aj id T).isSome=true∧id≠0):sJ (setName T d n id):=
 h.aX hx (QT (h.each d x hx) hk hn id) rfl (J6 (h.leads d x hx) hid)
theorem eH.make {T:aA} (h:eH T) {d kind f:Int} {x:bq} {n:Nm} (hk:kind=1∨kind=2) (hf:aj f T=none) (h1:1≤f) (h2:f≤65535) (hl:T.length<64) (hx:aj d T=some x) (hxk:x.kind=2) (hn:bV n=true) (hnn:aj n x.names=none):
  eH (setName (bM fQ f (bL kind) T) d n f):=by
 have hP:=h.tosJ.add hk hf (by omega) h2 hl
 have hdf:d≠f:=fun e=>by rw[e,hf]at hx;cases hx
 have hx':aj d (bM fQ f (bL kind) T)=some x:=by rw[dL,if_neg hdf];exact hx
 have hff:aj f (bM fQ f (bL kind) T)=some (bL kind):=by rw[dL,if_pos rfl]
 refine⟨hP.set hx' hxk hn ⟨by rw[hff];rfl,by omega⟩,fun j y hy hj=> ?_⟩
 have h3:=oL hP.sorted (fun x=>{x with names:=bM bytesBefore n f x.names}) hx' j
 have h4:=Na (id:=f) hnn j
 have h5:=M_ (kind:=kind) hf j
 have hgt:∀z,aj j (bM fQ f (bL kind) T)=some z→z.links=y.links→(eZ (setName (bM fQ f (bL kind) T) d n f) j:Int)=y.links:=by
  intro z hz hzl
  unfold setName
  rcases qX h.sorted hz with⟨rfl,rfl⟩|⟨hjf,hz⟩
  ·have:=J5 h.tosJ hf
   rw[if_pos rfl]at h4
   have e:eZ (Go.Proofs.YtjnhnlabpccgjaaGreat.aX d (fun x=>{x with names:=bM bytesBefore n j x.names}) (bM fQ j (bL kind) T)) j=1:=by omega
   rw[e,←hzl]
   rfl
  ·rw[if_neg (Ne.symm hjf)]at h4
   have:=h.counts j z hz hj
   have e:eZ (Go.Proofs.YtjnhnlabpccgjaaGreat.aX d (fun x=>{x with names:=bM bytesBefore n f x.names}) (bM fQ f (bL kind) T)) j=eZ T j:=by omega
   rw[e,this,hzl]
 unfold setName at hy
 rw[bg]at hy
 by_cases hjd:j=d
 ·subst hjd
  rw[if_pos rfl,hx']at hy
  simp only[Option.map_some,Option.some.injEq]at hy
  exact hgt x hx' (by rw[←hy])
 ·rw[if_neg hjd]at hy
  exact hgt y hy rfl
end Go.Proofs.YtjnhnlabpccgjaaGreat
