/- Plain laws of names and paths: lists of bytes alone. The tree, as plain data: what each call of package tree says, and what is behind it. Keys of kind int. A tree in memory; what turns it. -/
import Derived.Test.YtmabllemjkcobaaGreatM06
import Derived.Lib.Split
import Derived.Lib.SplitLaws
import Derived.Lib.Join
import Derived.Test.YtmabllemjkcobaaGreatM05
import Derived.Test.YtmabllemjkcobaaGreatM04
namespace Go.Proofs.YtmabllemjkcobaaGreat
set_option linter.unusedVariables false
open Go
def mJ:List UInt8→List (List UInt8)
 |[]=>[[]]
 |c::r=>if c=47 then[]::mJ r else match mJ r with|[]=>[[c]]|x::xs=>(c::x)::xs
theorem ES (l:List UInt8) (h:∀c∈l,c≠47):mJ l=[l]:=by
 induction l with
 |nil=>rfl
 |cons c r ih=>
  have h1:=ih (fun x hx=>h x (List.mem_cons_of_mem _ hx))
  simp[mJ,h c (by simp),h1]
theorem KI (a r:List UInt8) (h:∀c∈a,c≠47):mJ (a++47::r)=a::mJ r:=by
 induction a with
 |nil=>simp[mJ]
 |cons c a ih=>
  have h1:=ih (fun x hx=>h x (List.mem_cons_of_mem _ hx))
  simp[mJ,h c (by simp),h1]
theorem Hw (ls:List (List UInt8)) (hne:ls≠[]) (h:∀x∈ls,∀c∈x,c≠47):mJ (Lib.join ls [47])=ls:=by
 induction ls with
 |nil=>exact absurd rfl hne
 |cons x r ih=>
  cases r with
  |nil=>rw[Lib.join_one];exact ES x (h x (by simp))
  |cons y r=>
   have h1:=ih (by simp) (fun z hz=>h z (List.mem_cons_of_mem _ hz))
   have e:Lib.join (x::y::r) [47]=x++47::Lib.join (y::r) [47]:=by
    rw[Lib.join_cons,Lib.join_cons];simp[Lib.joinTail]
   rw[e,KI x _ (h x (by simp)),h1]
theorem BI (l:List UInt8) (h:dw l=true):∀c∈l,c≠47:=by
 intro c hc e
 subst e
 simp only[dw,Bool.and_eq_true,List.all_eq_true]at h
 have:=h.1.1.1.1 47 hc
 exact absurd this (by decide)
def bS (ls:List (List UInt8)):Int:=if ls.any (fun x=> !dw x)then 12 else if 8<ls.length then 3 else 0
def Cj (l:List UInt8):List (List UInt8)×Int:=
 match l with
 |[]=>([],12)
 |c::r=>if c≠47 then([],12)else if r=[]then([],0)else if bS (mJ r)=0 then(mJ r,0)else([],bS (mJ r))
def bK (ls:List (List UInt8)):List UInt8:=47::Lib.join ls [47]
open Go.ChangeShapes Go.WideShapes Go.ChangeAt Go.RowKit
set_option linter.unusedSimpArgs false
abbrev Nm:=List UInt8
abbrev g_ (a b:Int):Bool:=decide (a<b)
structure bW where
 kind:Int
 links:Int
 aQ:Int
 closed:Bool
 b:List UInt8
 names:List (Nm×Int)
abbrev aG:=List (Int×bW)
section
variable {κ α:Type} [DecidableEq κ]
def bH (k:κ) (f:α→α) (l:List (κ×α)):List (κ×α):=l.map fun q=>if q.1=k then(q.1,f q.2)else q
theorem fZ (k:κ) (y:κ×α) (r:List (κ×α)):aj k (y::r)=if y.1=k then some y.2 else aj k r:=by
 unfold aj
 by_cases h:y.1=k<;>simp[h]
theorem bq (k j:κ) (f:α→α) (l:List (κ×α)):aj j (bH k f l)=if j=k then(aj j l).map f else aj j l:=by
 induction l with
 |nil=>simp[bH,aj]
 |cons y r ih=>
  have ih':aj j (List.map (fun q:κ×α=>if q.1=k then(q.1,f q.2)else q) r)=if j=k then(aj j r).map f else aj j r:=ih
  unfold bH
  rw[List.map_cons,fZ,fZ,ih']
  by_cases h:y.1=k
  ·by_cases h2:y.1=j
   ·have:j=k:=h2▸h
    simp[h,this]
   ·have:j≠k:=fun e=>h2 (h.trans e.symm)
    have h3:¬k=j:=fun e=>this e.symm
    simp[h,h3,this]
  ·by_cases h2:y.1=j
   ·have:j≠k:=fun e=>h (h2.trans e)
    simp[h2,this]
   ·simp[h,h2]
theorem wU {β:Type} (k:κ) (f:α→α) (l:List (κ×α)) (g:κ→β):(bH k f l).map (fun q=>(q.1,g q.1))=l.map fun q=>(q.1,g q.1):=by
 unfold bH
 rw[List.map_map]
 apply List.map_congr_left
 intro q _
 by_cases h:q.1=k<;>simp[h]
theorem h_ (k:κ) (f:α→α) (l:List (κ×α)):(bH k f l).length=l.length:=by simp[bH]
theorem kr {lt:κ→κ→Bool} (k:κ) (f:α→α) {l:List (κ×α)} (h:aS lt l):aS lt (bH k f l):=by
 unfold aS bH
 rw[List.pairwise_map]
 refine List.Pairwise.imp (fun{a b} hab=> ?_) h
 by_cases h1:a.1=k<;>by_cases h2:b.1=k<;>simp_all
theorem bf {lt:κ→κ→Bool} (L:nT lt) {l:List (κ×α)} (h:aS lt l) {q:κ×α} (hq:q∈l):aj q.1 l=some q.2:=h.get L hq
end
def bZ (kind:Int):bW:=⟨kind,1,0,decide (kind=2),[],[]⟩
def l9:aG:=[(0,bZ 2)]
def aH (T:aG):Int→List Nm→Int×Int
 |id,[]=>(id,0)
 |id,n::r=>match aj id T with
  |none=>(0,20)
  |some x=>if x.kind=2 then(match aj n x.names with
   |none=>(0,20)
   |some k=>aH T k r)else(0,23)
def bO (T:aG) (id:Int):Int:=match aj id T with|some x=>x.kind|none=>0
def aX (T:aG) (id:Int):List (Nm×Int):=match aj id T with|some x=>x.names|none=>[]
def aI (T:aG) (p:List Nm):Int×Nm×Int:=
 if p=[]then(0,[],1)else
 if (aH T 0 p.dropLast).2≠0 then(0,[],(aH T 0 p.dropLast).2)else
 if bO T (aH T 0 p.dropLast).1=2 then((aH T 0 p.dropLast).1,p.getLastD [],0)else(0,[],23)
def zq (T:aG):Int:=(((List.range (T.length+1)).map fun n:Nat=>(n:Int)+1).find? fun n=>(aj n T).isNone).getD 0
def setName (T:aG) (d:Int) (n:Nm) (id:Int):aG:=bH d (fun x=>{x with names:=dF bytesBefore n id x.names}) T
def aF (T:aG) (d:Int) (n:Nm):aG:=bH d (fun x=>{x with names:=bR n x.names}) T
def rW (T:aG) (p:List Nm) (kind:Int):aG:=setName (dF g_ (zq T) (bZ kind) T) (aI T p).1 (aI T p).2.1 (zq T)
def jP (T:aG) (p:List Nm) (kind:Int):Int:=
 if bS p≠0 then bS p else
 if ¬(kind=1∨kind=2)then 30 else
 if (aI T p).2.2≠0 then(aI T p).2.2 else
 if (aj (aI T p).2.1 (aX T (aI T p).1)).isSome then 21 else
 if 64≤T.length then 4 else 0
def dP (T:aG) (p:List Nm) (kind:Int):(Int×Int)×aG:=
 if jP T p kind=0 then((zq T,0),rW T p kind)else((0,jP T p kind),T)
def dx (T:aG) (id:Int):Int:=match aj id T with|none=>20|some x=>if x.kind=2 then 22 else 0
def j4 (T:aG) (id:Int) (b:List UInt8):Int:=match aj id T with
 |none=>20
 |some x=>if x.kind=2 then 22 else if x.closed then 27 else if 4096<x.b.length+b.length then 15 else 0
def dh (T:aG) (id:Int) (b:List UInt8):Int×aG:=(j4 T id b,if j4 T id b=0 then bH id (fun x=>{x with b:=x.b++b}) T else T)
def zu (at_ n:Int):Int:=if at_<0∨n<0 then 1 else 0
def zw (b:List UInt8) (at_ n:Int):List UInt8:=if at_<0∨n<0 then[]else(b.drop at_.toNat).take n.toNat
def nW (T:aG) (id at_ n:Int):Int:=match aj id T with|none=>20|some x=>if x.kind=2 then 22 else zu at_ n
def nX (T:aG) (id at_ n:Int):List UInt8:=match aj id T with|none=>[]|some x=>if x.kind=2 then[]else zw x.b at_ n
def fT (T:aG) (id:Int):aG:=match aj id T with
 |none=>T
 |some x=>if x.links=0∧x.closed=true then bR id T else T
def rz (T:aG) (id aQ:Int):Int:=match aj id T with
 |none=>20
 |some x=>if x.kind=2 then 22 else if x.closed then 27 else if 1099511627776<aQ then 1 else 0
def fA (T:aG) (id aQ:Int):Int×aG:=(rz T id aQ,if rz T id aQ=0 then fT (bH id (fun x=>{x with closed:=true,aQ:=aQ}) T) id else T)
def rA (T:aG) (id aQ:Int):Int:=match aj id T with
 |none=>20
 |some x=>if x.kind=2 then 22 else if x.closed=false then 25 else if aQ<x.aQ then 28 else if 1099511627776<aQ then 1 else 0
def eU (T:aG) (id aQ:Int):Int×aG:=(rA T id aQ,if rA T id aQ=0 then bH id (fun x=>{x with aQ:=aQ}) T else T)
def mW (T:aG) (id:Int):Int:=match aj id T with
 |none=>20
 |some x=>if x.kind=2 then 22 else if x.closed then 27 else 0
def MU (T:aG) (id:Int):aG:=bR id (T.map fun q=>(q.1,{q.2 with names:=q.2.names.filter fun e=> !decide (e.2=id)}))
def eX (T:aG) (id:Int):Int×aG:=(mW T id,if mW T id=0 then MU T id else T)
def je (p to:List Nm):Int:=if bS p≠0 then bS p else bS to
def qI (T:aG) (id:Int):Int:=match aj id T with|some x=>x.links|none=>0
def ku (T:aG) (p to:List Nm):Int:=
 if je p to≠0 then je p to else
 if (aH T 0 p).2≠0 then(aH T 0 p).2 else
 if bO T (aH T 0 p).1=2 then 22 else
 if (aI T to).2.2≠0 then(aI T to).2.2 else
 if (aj (aI T to).2.1 (aX T (aI T to).1)).isSome then 21 else
 if 64≤qI T (aH T 0 p).1 then 4 else 0
def zx (T:aG) (p to:List Nm):aG:=bH (aH T 0 p).1 (fun x=>{x with links:=x.links+1}) (setName T (aI T to).1 (aI T to).2.1 (aH T 0 p).1)
def eD (T:aG) (p to:List Nm):Int×aG:=(ku T p to,if ku T p to=0 then zx T p to else T)
def fE (T:aG) (p:List Nm):Int×Int:=if bS p≠0 then(0,bS p)else aH T 0 p
def iK (T:aG) (p:List Nm):Int:=
 if (fE T p).2≠0 then(fE T p).2 else if bO T (aH T 0 p).1=2 then 22 else 0
def pX (T:aG) (p:List Nm):aG:=fT (bH (aH T 0 p).1 (fun x=>{x with links:=x.links-1}) (aF T (aI T p).1 (aI T p).2.1)) (aH T 0 p).1
def bT (T:aG) (p:List Nm):Int×aG:=(iK T p,if iK T p=0 then pX T p else T)
def iQ (T:aG) (p:List Nm):Int:=
 if (fE T p).2≠0 then(fE T p).2 else if bO T (aH T 0 p).1≠2 then 23 else if (aH T 0 p).1=0 then 1 else if 0<(aX T (aH T 0 p).1).length then 24 else 0
def vv (T:aG) (p:List Nm):aG:=bR (aH T 0 p).1 (aF T (aI T p).1 (aI T p).2.1)
def dG (T:aG) (p:List Nm):Int×aG:=(iQ T p,if iQ T p=0 then vv T p else T)
def cn (k:Int) (x:bW):Nat:=x.names.countP fun e=>decide (e.2=k)
def gy (T:aG) (k:Int):Nat:=(T.map fun q=>cn k q.2).sum
structure JI (x:bW):Prop where
 kind:x.kind=1∨x.kind=2
 file:x.kind=1→x.names=[]
 dir:x.kind=2→x.links=1∧x.closed=true∧x.b=[]∧x.aQ=0
 gone:x.links=0→x.closed=false
 sorted:aS bytesBefore x.names
 good:∀e∈x.names,dw e.1=true
 size:x.b.length≤4096
 links:0≤x.links∧x.links≤64
 aQ:0≤x.aQ∧x.aQ≤1099511627776
structure yQ (T:aG):Prop where
 sorted:aS g_ T
 root:bO T 0=2
 each:∀k x,aj k T=some x→JI x
 leads:∀k x,aj k T=some x→∀e∈x.names,(aj e.2 T).isSome=true∧e.2≠0
 len:T.length≤64
 ids:∀k x,aj k T=some x→0≤k∧k≤65535
structure dX (T:aG):Prop extends yQ T where
 counts:∀k x,aj k T=some x→k≠0→(gy T k:Int)=x.links
theorem gM {T:aG} {id:Int} (h:bO T id=2):∃x,aj id T=some x∧x.kind=2:=by
 unfold bO at h
 cases hg:aj id T with
 |none=>rw[hg]at h;cases h
 |some x=>rw[hg]at h;exact⟨x,rfl,h⟩
theorem fP {T:aG} (hT:dX T):∀(p:List Nm) (id:Int),(aj id T).isSome=true→(aH T id p).2=0→(aj (aH T id p).1 T).isSome=true
 |[],id,h,_=>h
 |n::r,id,h,he=>by
  obtain⟨x,hx⟩:=Option.isSome_iff_exists.1 h
  simp only[aH,hx]at he⊢
  split at he
  ·rename_i hk
   rw[if_pos hk]
   cases hn:aj n x.names with
   |none=>rw[hn]at he;cases he
   |some k=>
    rw[hn]at he
    exact fP hT r k (hT.leads _ _ hx _ (bP hn)).1 he
  ·cases he
theorem eF {T:aG} (hT:dX T):(aj 0 T).isSome=true:=by
 obtain⟨x,h,_⟩:=gM hT.root
 simp[h]
def bC:wT Tryz.prog 3 Int where
 lit x:= .int .i64 x
 val x:= .int .i64 x
 ok x:=(Lit.int .i64 x).wf=true
 lt a b:=decide (a<b)
 law:=Go.Maps.int_keyed Tryz.underlying3
 of x h:=Go.Maps.keyOf_int_mk Tryz.underlying3 h
 inv v kl h:=by
  obtain⟨x,e1,e2,e3⟩:=Go.Maps.keyOf_int_inv Tryz.underlying3 h
  exact⟨x,e1,e2,e3⟩
 same a b:=by simp[Lit.sameKey]
 before a b:=by simp[Lit.before]
 isKey a:=by exact trivial
theorem WH:nT (fun a b:Int=>decide (a<b)):=⟨fun a=>by simp,fun a b c h1 h2=>by simp at*;omega,fun a b h=>by simp;omega⟩
inductive Own where
 |none
 |head
 |items
 |item (k:Int)
 |names (k:Int)
abbrev ptr (b:Nat):Value:= .pointer (some ⟨b,0,none⟩)
def gF (x:bW) (nb:Nat):Value:=if x.kind=2 then .map (some nb)else .map none
def jw (k:Int) (x:bW) (a:Option Addr) (c nb:Nat):Array Value:=
 #[.int .i64 k, .int .i64 x.kind, .int .i64 x.links, .int .i64 x.b.length, .int .u64 x.aQ, .bool x.closed, .slice a x.b.length c,gF x nb]
def cO (x:bW):List (Nm×Value):=x.names.map fun e=>(e.1, .int .i64 e.2)
def mg (n c:Nat):Prop:=n≤c∧c≤maxLen
structure jB (D:Nat→Prop) (w:World) (k:Int) (ib nb:Nat) (x:bW):Prop where
 cells:∃a c,w.heap[ib]? =some (.cells (jw k x a c nb) 114 (0,0))∧mg x.b.length c∧aC D w a x.b.length (x.b.map bv)
 names:x.kind=2→MapAt dN w nb (cO x)
structure aO (g:Nat→Own) (D:Nat→Prop) (w:World) (p mb:Nat) (ib nb:Int→Nat) (T:aG):Prop where
 head:w.heap[p]? =some (.cells #[.map (some mb)] 103 (0,0))
 map:MapAt bC w mb (T.map fun q=>(q.1,ptr (ib q.1)))
 item:∀k x,aj k T=some x→jB D w k (ib k) (nb k) x
 qJ:g p= .head
 jN:g mb= .items
 nY:∀k x,aj k T=some x→g (ib k)= .item k
 kZ:∀k x,aj k T=some x→x.kind=2→g (nb k)= .names k
 data:∀b,D b→g b= .none
 low:∀b,g b≠ .none→b<w.heap.size
 pY:∀b,D b→b<w.heap.size
theorem jB.move {D D':Nat→Prop} {w w':World} {k:Int} {ib nb:Nat} {x:bW} (h:jB D w k ib nb x) (hs:w.heap.size≤w'.heap.size) (hi:w'.heap[ib]? =w.heap[ib]?) (hn:x.kind=2→w'.heap[nb]? =w.heap[nb]?) (hD:∀b,D b→b<w.heap.size→D' b∧w'.heap[b]? =w.heap[b]?):jB D' w' k ib nb x:=by
 obtain⟨⟨a,c,h1,h2,h3⟩,h4⟩:=h
 exact⟨⟨a,c,hi.trans h1,h2,h3.move hs hD⟩,fun hk=>(h4 hk).kept (hn hk)⟩
theorem aO.keeps {g:Nat→Own} {D fp:Nat→Prop} {w w':World} {p mb:Nat} {ib nb:Int→Nat} {T:aG} (h:aO g D w p mb ib nb T) (hK:Keeps fp w w') (hn:∀b,g b≠ .none∨D b→¬fp b):aO g D w' p mb ib nb T:=by
 have hb:∀b,g b≠ .none→w'.heap[b]? =w.heap[b]? :=fun b hb=>hK.block b (h.low b hb) (hn b (.inl hb))
 refine⟨(hb p (by rw[h.qJ];simp)).trans h.head,h.map.kept (hb mb (by rw[h.jN];simp)),fun k x hx=>(h.item k x hx).move hK.size (hb _ (by rw[h.nY k x hx];simp)) (fun hk=>hb _ (by rw[h.kZ k x hx hk];simp)) fun b hb hbw=>⟨hb,hK.block b hbw (hn b (.inr hb))⟩,
  h.qJ,h.jN,h.nY,h.kZ,h.data,fun b hb=>Nat.lt_of_lt_of_le (h.low b hb) hK.size,fun b hb=>Nat.lt_of_lt_of_le (h.pY b hb) hK.size⟩
theorem aO.below {g:Nat→Own} {D:Nat→Prop} {w w':World} {B p mb:Nat} {ib nb:Int→Nat} {T:aG} (h:aO g D w p mb ib nb T) (hb:Below B w w') (hB:w.heap.size≤B):aO g D w' p mb ib nb T:=
 h.keeps (fp:=fun x=>B≤x) (Keeps.below hb) fun b hx hf=>by
  rcases hx with hx|hx
  ·have:=h.low b hx;omega
  ·have:=h.pY b hx;omega
theorem aO.bH {g:Nat→Own} {D D':Nat→Prop} {w w':World} {p mb:Nat} {ib nb:Int→Nat} {T:aG} (h:aO g D w p mb ib nb T) {k:Int} {x:bW} {f:bW→bW} (hx:aj k T=some x) (hfk:(f x).kind=x.kind)
  (hD:∀b,D b→D' b) (hD':∀b,D' b→g b= .none∧b<w'.heap.size) (hsz:w.heap.size≤w'.heap.size) (hb:∀b,b<w.heap.size→g b≠ .item k→g b≠ .names k→w'.heap[b]? =w.heap[b]?) (hi:jB D' w' k (ib k) (nb k) (f x)):
  aO g D' w' p mb ib nb (bH k f T):=by
 refine⟨(hb p (h.low p (by rw[h.qJ];simp)) (by rw[h.qJ];simp) (by rw[h.qJ];simp)).trans h.head,?_,?_,h.qJ,h.jN,?_,?_,fun b hb=>(hD' b hb).1,fun b hb=>Nat.lt_of_lt_of_le (h.low b hb) hsz,fun b hb=>(hD' b hb).2⟩
 ·have:=h.map.kept (hb mb (h.low mb (by rw[h.jN];simp)) (by rw[h.jN];simp) (by rw[h.jN];simp))
  rw[wU k f T (fun j=>ptr (ib j))]
  exact this
 ·intro j y hy
  rw[bq]at hy
  by_cases hj:j=k
  ·subst hj
   rw[if_pos rfl,hx]at hy
   simp only[Option.map_some,Option.some.injEq]at hy
   subst hy
   exact hi
  ·rw[if_neg hj]at hy
   refine(h.item j y hy).move hsz (hb _ (h.low _ (by rw[h.nY j y hy];simp)) (by rw[h.nY j y hy];simpa using hj) (by rw[h.nY j y hy];simp)) (fun hk=>hb _ (h.low _ (by rw[h.kZ j y hy hk];simp)) (by rw[h.kZ j y hy hk];simp) (by rw[h.kZ j y hy hk];simpa using hj)) ?_
   intro b vw hbw
   refine⟨hD b vw,hb b hbw ?_ ?_⟩<;>rw[h.data b vw]<;>simp
 ·intro j y hy
  rw[bq]at hy
  by_cases hj:j=k
  ·subst hj;exact h.nY j x hx
  ·rw[if_neg hj]at hy;exact h.nY j y hy
 ·intro j y hy hk
  rw[bq]at hy
  by_cases hj:j=k
  ·subst hj
   rw[if_pos rfl,hx]at hy
   simp only[Option.map_some,Option.some.injEq]at hy
   subst hy
   exact h.kZ j x hx (hfk▸hk)
  ·rw[if_neg hj]at hy;exact h.kZ j y hy hk
theorem Ck {κ α β:Type} (lt:κ→κ→Bool) (f:κ→α→β) (x:κ×α):∀l:List (κ×α),(iE lt x l).map (fun p=>(p.1,f p.1 p.2))=iE lt (x.1,f x.1 x.2) (l.map fun p=>(p.1,f p.1 p.2))
 |[]=>rfl
 |y::r=>by
  unfold iE
  simp only[List.map_cons]
  split<;>simp[Ck lt f x r]
theorem wV {κ α β:Type} [DecidableEq κ] (f:κ→α→β) (k:κ) (l:List (κ×α)):(bR k l).map (fun p=>(p.1,f p.1 p.2))=bR k (l.map fun p=>(p.1,f p.1 p.2)):=by
 simp[bR,List.filter_map,Function.comp_def]
theorem wW {κ α β:Type} [DecidableEq κ] (lt:κ→κ→Bool) (f:κ→α→β) (k:κ) (v:α) (l:List (κ×α)):(dF lt k v l).map (fun p=>(p.1,f p.1 p.2))=dF lt k (f k v) (l.map fun p=>(p.1,f p.1 p.2)):=by
 simp only[dF,Ck,wV]
theorem f_ {κ α:Type} [DecidableEq κ] (lt:κ→κ→Bool) (k j:κ) (v:α) (l:List (κ×α)):aj j (dF lt k v l)=if j=k then some v else aj j l:=by
 by_cases h:j=k
 ·subst h;rw[if_pos rfl,zo]
 ·rw[if_neg h,yP lt h]
theorem fO {κ α:Type} [DecidableEq κ] (k j:κ) (l:List (κ×α)):aj j (bR k l)=if j=k then none else aj j l:=by
 by_cases h:j=k
 ·subst h;rw[if_pos rfl,nS]
 ·rw[if_neg h,mH h]
theorem aO.add {g:Nat→Own} {D:Nat→Prop} {w w':World} {p mb:Nat} {ib nb:Int→Nat} {T:aG} (h:aO g D w p mb ib nb T) {k:Int} {x:bW} {i n:Nat} (hi0:w.heap.size≤i) (hn0:w.heap.size≤n) (hin:i≠n) (hiw:i<w'.heap.size) (hnw:x.kind=2→n<w'.heap.size) (hx0:aj k T=none) (hxb:x.b=[])
  (hm:MapAt bC w' mb (dF g_ k (ptr i) (T.map fun q=>(q.1,ptr (ib q.1))))) (hsz:w.heap.size≤w'.heap.size) (hb:∀b,b<w.heap.size→b≠mb→w'.heap[b]? =w.heap[b]?) (hi:jB (fun _=>False) w' k i n x):
  aO (fun b=>if b=i then .item k else if b=n∧x.kind=2 then .names k else g b) D w' p mb (fun j=>if j=k then i else ib j) (fun j=>if j=k then n else nb j) (dF g_ k x T):=by
 have hgl:∀b,g b≠ .none→b≠i∧b≠n:=fun b hb=>by have:=h.low b hb;omega
 have hgg:∀b,g b≠ .none→(if b=i then Own.item k else if b=n∧x.kind=2 then .names k else g b)=g b:=fun b hb=>by
  obtain⟨h1,h2⟩:=hgl b hb
  rw[if_neg h1,if_neg (fun h=>h2 h.1)]
 have hp:g p≠ .none:=by rw[h.qJ];simp
 have hmm:g mb≠ .none:=by rw[h.jN];simp
 refine⟨(hb p (h.low p hp) (fun e=>by have:=h.qJ;rw[e,h.jN]at this;cases this)).trans h.head,?_,?_,(hgg p hp).trans h.qJ,(hgg mb hmm).trans h.jN,?_,?_,?_,?_,fun b hb=>Nat.lt_of_lt_of_le (h.pY b hb) hsz⟩
 ·have e1:(dF g_ k x T).map (fun q=>(q.1,ptr ((fun j=>if j=k then i else ib j) q.1)))=dF g_ k (ptr i) (T.map fun q=>(q.1,ptr (ib q.1))):=by
   rw[wW g_ (fun j _=>ptr ((fun j=>if j=k then i else ib j) j))]
   simp only[if_pos]
   congr 1
   apply List.map_congr_left
   intro q hq
   have:q.1≠k:=iX.1 hx0 q hq
   rw[if_neg this]
  rw[e1]
  exact hm
 ·intro j y hy
  rw[f_]at hy
  by_cases hj:j=k
  ·subst hj
   rw[if_pos rfl]at hy
   cases hy
   simp only[if_pos]
   refine hi.move (Nat.le_refl _) rfl (fun _=>rfl) (fun b hb=>hb.elim)
  ·rw[if_neg hj]at hy
   simp only[if_neg hj]
   have t1:=h.nY j y hy
   refine(h.item j y hy).move hsz (hb _ (h.low _ (by rw[t1];simp)) (fun e=>by rw[e,h.jN]at t1;cases t1)) (fun hk=>hb _ (h.low _ (by rw[h.kZ j y hy hk];simp)) (fun e=>by have t2:=h.kZ j y hy hk;rw[e,h.jN]at t2;cases t2)) ?_
   intro b vw hbw
   exact⟨vw,hb b hbw (fun e=>by have:=h.data b vw;rw[e,h.jN]at this;cases this)⟩
 ·intro j y hy
  rw[f_]at hy
  by_cases hj:j=k
  ·subst hj;simp
  ·rw[if_neg hj]at hy
   have t1:=h.nY j y hy
   simp only[if_neg hj]
   rw[hgg _ (by rw[t1];simp)]
   exact t1
 ·intro j y hy hk
  rw[f_]at hy
  by_cases hj:j=k
  ·subst hj
   rw[if_pos rfl]at hy
   cases hy
   simp only[if_pos]
   rw[if_neg (Ne.symm hin),if_pos ⟨trivial,hk⟩]
  ·rw[if_neg hj]at hy
   have t1:=h.kZ j y hy hk
   simp only[if_neg hj]
   rw[hgg _ (by rw[t1];simp)]
   exact t1
 ·intro b vw
  have:=h.pY b vw
  rw[if_neg (by omega),if_neg (by omega)]
  exact h.data b vw
 ·intro b hbn
  by_cases h1:b=i
  ·omega
  ·by_cases h2:b=n∧x.kind=2
   ·have:=hnw h2.2;omega
   ·simp only[if_neg h1,if_neg h2]at hbn
    exact Nat.lt_of_lt_of_le (h.low b hbn) hsz
theorem aO.del {g:Nat→Own} {D:Nat→Prop} {w w':World} {p mb:Nat} {ib nb:Int→Nat} {T:aG} (h:aO g D w p mb ib nb T) {k:Int}
  (hm:MapAt bC w' mb (bR k (T.map fun q=>(q.1,ptr (ib q.1))))) (hsz:w.heap.size≤w'.heap.size) (hb:∀b,b<w.heap.size→b≠mb→w'.heap[b]? =w.heap[b]?):aO g D w' p mb ib nb (bR k T):=by
 have hp:g p≠ .none:=by rw[h.qJ];simp
 have hget:∀j y,aj j (bR k T)=some y→aj j T=some y:=fun j y hy=>by
  rw[fO]at hy
  split at hy
  ·cases hy
  ·exact hy
 refine⟨(hb p (h.low p hp) (fun e=>by have:=h.qJ;rw[e,h.jN]at this;cases this)).trans h.head,?_,?_,h.qJ,h.jN,fun j y hy=>h.nY j y (hget j y hy),fun j y hy=>h.kZ j y (hget j y hy),h.data,fun b hb=>Nat.lt_of_lt_of_le (h.low b hb) hsz,fun b hb=>Nat.lt_of_lt_of_le (h.pY b hb) hsz⟩
 ·rw[wV (fun j _=>ptr (ib j))];exact hm
 ·intro j y hy'
  have hy:=hget j y hy'
  have t1:=h.nY j y hy
  refine(h.item j y hy).move hsz (hb _ (h.low _ (by rw[t1];simp)) (fun e=>by rw[e,h.jN]at t1;cases t1)) (fun hk=>hb _ (h.low _ (by rw[h.kZ j y hy hk];simp)) (fun e=>by have t2:=h.kZ j y hy hk;rw[e,h.jN]at t2;cases t2)) ?_
  intro b vw hbw
  exact⟨vw,hb b hbw (fun e=>by have:=h.data b vw;rw[e,h.jN]at this;cases this)⟩
theorem wX {κ α β:Type} [DecidableEq κ] (f:κ→α→β) (k:κ) (l:List (κ×α)):aj k (l.map fun p=>(p.1,f p.1 p.2))=(aj k l).map (f k):=by
 induction l with
 |nil=>rfl
 |cons y r ih=>
  rw[List.map_cons,fZ,fZ,ih]
  by_cases h:y.1=k
  ·subst h;simp
  ·simp[h]
theorem dR (ib:Int→Nat) (T:aG) (k:Int):aj k (T.map fun q=>(q.1,ptr (ib q.1)))=(aj k T).map fun _=>ptr (ib k):=wX (fun j (_:bW)=>ptr (ib j)) k T
theorem eB (x:bW) (n:Nm):aj n (cO x)=(aj n x.names).map fun i=>(.int .i64 i:Value):=wX (fun(_:Nm) (i:Int)=>Value.int .i64 i) n x.names
theorem jB.cell {D:Nat→Prop} {w:World} {k:Int} {ib nb:Nat} {x:bW} (h:jB D w k ib nb x):
  w.cell? ⟨ib,0,none⟩=some (.int .i64 k)∧w.cell? ⟨ib,1,none⟩=some (.int .i64 x.kind)∧w.cell? ⟨ib,2,none⟩=some (.int .i64 x.links)∧w.cell? ⟨ib,3,none⟩=some (.int .i64 x.b.length)∧w.cell? ⟨ib,4,none⟩=some (.int .u64 x.aQ)∧w.cell? ⟨ib,5,none⟩=some (.bool x.closed)∧w.cell? ⟨ib,7,none⟩=some (gF x nb)∧ib<w.heap.size:=by
 obtain⟨⟨a,c,h1,_⟩,_⟩:=h
 have:=(Array.getElem?_eq_some_iff.1 h1).1
 refine⟨?_,?_,?_,?_,?_,?_,?_,this⟩<;>(simp only[World.cell?,h1];rfl)
theorem aO.cell {g:Nat→Own} {D:Nat→Prop} {w:World} {p mb:Nat} {ib nb:Int→Nat} {T:aG} (h:aO g D w p mb ib nb T):w.cell? ⟨p,0,none⟩=some (.map (some mb))∧p<w.heap.size∧mb<w.heap.size:=by
 have:=(Array.getElem?_eq_some_iff.1 h.head).1
 exact⟨by simp[World.cell?,h.head],this,h.map.lt⟩
end Go.Proofs.YtmabllemjkcobaaGreat
