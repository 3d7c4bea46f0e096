/- Plain laws of names and paths: lists of bytes alone. The tree, as plain data: what each call of package tree says, and what is behind it. Keys of kind int. A tree in memory; what turns it. -/
import Derived.Test.YtmabllemjkcobaaGreatDoorM05
import Derived.Lib.Split
import Derived.Lib.SplitLaws
import Derived.Lib.Join
import Derived.Test.YtmabllemjkcobaaGreatDoorM04
import Derived.Test.YtmabllemjkcobaaGreatDoorM02
namespace Go.Proofs.YtmabllemjkcobaaGreatDoor
set_option linter.unusedVariables false
open Go
def dA:List UInt8→List (List UInt8)
 |[]=>[[]]
 |c::r=>if c=47 then[]::dA r else match dA r with|[]=>[[c]]|x::xs=>(c::x)::xs
theorem IV (l:List UInt8):dA l≠[]:=by
 induction l with
 |nil=>simp[dA]
 |cons c r ih=>unfold dA;split<;>(try split)<;>simp
theorem kC (c:UInt8) (r:List UInt8) (h:c≠47):∃x xs,dA r=x::xs∧dA (c::r)=(c::x)::xs:=by
 cases hr:dA r with
 |nil=>exact absurd hr (IV r)
 |cons x xs=>exact⟨x,xs,rfl,by simp[dA,h,hr]⟩
theorem Cv (l:List UInt8) (h:∀c∈l,c≠47):dA l=[l]:=by
 induction l with
 |nil=>rfl
 |cons c r ih=>
  have h1:=ih (fun x hx=>h x (List.mem_cons_of_mem _ hx))
  simp[dA,h c (by simp),h1]
theorem O5 (l:List UInt8):∀x∈dA l,∀c∈x,c≠47:=by
 induction l with
 |nil=>intro x hx c hc;simp[dA]at hx;subst hx;cases hc
 |cons c r ih=>
  by_cases h:c=47
  ·intro x hx d hd
   simp only[dA,h,if_true,List.mem_cons]at hx
   rcases hx with rfl|hx
   ·cases hd
   ·exact ih x hx d hd
  ·obtain⟨y,ys,e1,e2⟩:=kC c r h
   intro x hx d hd
   rw[e2]at hx
   rw[e1]at ih
   rcases List.mem_cons.1 hx with rfl|hx
   ·rcases List.mem_cons.1 hd with rfl|hd
    ·exact h
    ·exact ih y (by simp) d hd
   ·exact ih x (by simp[hx]) d hd
theorem IW (l:List UInt8):∀x∈dA l,x.length≤l.length:=by
 induction l with
 |nil=>intro x hx;simp[dA]at hx;subst hx;simp
 |cons c r ih=>
  by_cases h:c=47
  ·intro x hx
   simp only[dA,h,if_true,List.mem_cons]at hx
   rcases hx with rfl|hx
   ·simp
   ·have:=ih x hx;simp;omega
  ·obtain⟨y,ys,e1,e2⟩:=kC c r h
   intro x hx
   rw[e2]at hx
   rw[e1]at ih
   rcases List.mem_cons.1 hx with rfl|hx
   ·have:=ih y (by simp);simp;omega
   ·have:=ih x (by simp[hx]);simp;omega
theorem zi (l:List UInt8):(dA l).length=l.count 47+1:=by
 induction l with
 |nil=>rfl
 |cons c r ih=>
  by_cases h:c=47
  ·subst h;simp[dA,ih]
  ·obtain⟨y,ys,e1,e2⟩:=kC c r h
   rw[e2,List.count_cons_of_ne h]
   rw[e1]at ih
   simpa using ih
theorem IX (l:List UInt8):∀k,l.count 47≤k→Lib.splitK [47] 0 k l=dA l:=by
 induction l with
 |nil=>
  intro k _
  cases k<;>simp[Lib.splitK,dA,Lib.index]
 |cons c r ih=>
  intro k hk
  cases k with
  |zero=>
   have:∀x∈c::r,x≠47:=by
    intro x hx e
    subst e
    have:=List.count_pos_iff.2 hx
    omega
   rw[Cv _ this]
   rfl
  |succ k=>
   by_cases h:c=47
   ·subst h
    have e:Lib.index (47::r) [47]=0:=by simp[Lib.index]
    have hk':r.count 47≤k:=by simp at hk;omega
    simp only[Lib.splitK,e,dA,if_true]
    have h1:((0:Int)== -1)=false:=by decide
    rw[h1]
    simp[ih k hk']
   ·have hpre:([47]:List UInt8).isPrefixOf (c::r)=false:=by
     simp[List.isPrefixOf]
     exact fun e=>h e.symm
    have hk':r.count 47≤k+1:=by
     rw[List.count_cons_of_ne h]at hk
     omega
    have h2:=ih (k+1) hk'
    obtain⟨x,xs,e1,e2⟩:=kC c r h
    rw[e2]
    rw[e1]at h2
    simp only[Lib.splitK,Lib.index,hpre]at h2⊢
    by_cases hi:Lib.index r [47]= -1
    ·simp only[hi]at h2⊢
     simp at h2⊢
     rw[h2.1,h2.2]
     simp
    ·have hge:=Lib.index_ge r [47]
     have b1:(Lib.index r [47]== -1)=false:=by simpa using hi
     have b2:(Lib.index r [47]+1== -1)=false:=by simp;omega
     rw[b1]at h2
     simp only[b1,Bool.false_eq_true,if_false,b2]at h2⊢
     obtain⟨i,hi2⟩:∃i:Nat,Lib.index r [47]=i:=⟨(Lib.index r [47]).toNat,by omega⟩
     rw[hi2]at h2⊢
     have t1:((i:Int)+1).toNat=i+1:=by omega
     rw[t1]
     simp only[Int.toNat_natCast,Nat.add_zero,List.cons.injEq,List.length_singleton]at h2⊢
     obtain⟨g1,g2⟩:=h2
     refine⟨by simp[←g1],?_⟩
     rw[←g2]
     simp
def bG (ls:List (List UInt8)):Int:=if ls.any (fun x=> !dM x)then 12 else if 8<ls.length then 3 else 0
def av (l:List UInt8):List (List UInt8)×Int:=
 match l with
 |[]=>([],12)
 |c::r=>if c≠47 then([],12)else if r=[]then([],0)else if bG (dA r)=0 then(dA r,0)else([],bG (dA r))
theorem Cw (s:ByteArray):(Lib.splitB ⟨#[47]⟩ 0 (Lib.countB s ⟨#[47]⟩) s).map (fun x=>x.data.toList)=dA s.data.toList∧Lib.countB s ⟨#[47]⟩=s.data.toList.count 47:=by
 have hc:Lib.countB s ⟨#[47]⟩=s.data.toList.count 47:=Lib.count_one 47 _
 refine⟨?_,hc⟩
 have:=Lib.splitB_data ⟨#[47]⟩ 0 (Lib.countB s ⟨#[47]⟩) s
 exact this.trans (IX _ _ (by rw[hc];exact Nat.le_refl _))
open Go.ChangeShapes Go.WideShapes Go.ChangeAt Go.RowKit
set_option linter.unusedSimpArgs false
abbrev Nm:=List UInt8
abbrev jw (a b:Int):Bool:=decide (a<b)
structure eB where
 kind:Int
 links:Int
 au:Int
 closed:Bool
 b:List UInt8
 names:List (Nm×Int)
abbrev aK:=List (Int×eB)
section
variable {κ α:Type} [DecidableEq κ]
def bX (k:κ) (f:α→α) (l:List (κ×α)):List (κ×α):=l.map fun q=>if q.1=k then(q.1,f q.2)else q
theorem fB (k:κ) (y:κ×α) (r:List (κ×α)):ah k (y::r)=if y.1=k then some y.2 else ah k r:=by
 unfold ah
 by_cases h:y.1=k<;>simp[h]
theorem aV (k j:κ) (f:α→α) (l:List (κ×α)):ah j (bX k f l)=if j=k then(ah j l).map f else ah j l:=by
 induction l with
 |nil=>simp[bX,ah]
 |cons y r ih=>
  have ih':ah j (List.map (fun q:κ×α=>if q.1=k then(q.1,f q.2)else q) r)=if j=k then(ah j r).map f else ah j r:=ih
  unfold bX
  rw[List.map_cons,fB,fB,ih']
  by_cases h:y.1=k
  ·by_cases h2:y.1=j
   ·have:j=k:=h2▸h
    simp[h,this]
   ·have:j≠k:=fun e=>h2 (h.trans e.symm)
    have h3:¬k=j:=fun e=>this e.symm
    simp[h,h3,this]
  ·by_cases h2:y.1=j
   ·have:j≠k:=fun e=>h (h2.trans e)
    simp[h2,this]
   ·simp[h,h2]
theorem uE {β:Type} (k:κ) (f:α→α) (l:List (κ×α)) (g:κ→β):(bX k f l).map (fun q=>(q.1,g q.1))=l.map fun q=>(q.1,g q.1):=by
 unfold bX
 rw[List.map_map]
 apply List.map_congr_left
 intro q _
 by_cases h:q.1=k<;>simp[h]
theorem Cx (k:κ) (f:α→α) (l:List (κ×α)):(bX k f l).length=l.length:=by simp[bX]
theorem Cy {lt:κ→κ→Bool} (k:κ) (f:α→α) {l:List (κ×α)} (h:aN lt l):aN lt (bX k f l):=by
 unfold aN bX
 rw[List.pairwise_map]
 refine List.Pairwise.imp (fun{a b} hab=> ?_) h
 by_cases h1:a.1=k<;>by_cases h2:b.1=k<;>simp_all
theorem aY {lt:κ→κ→Bool} (L:mJ lt) {l:List (κ×α)} (h:aN lt l) {q:κ×α} (hq:q∈l):ah q.1 l=some q.2:=h.get L hq
end
def dO (kind:Int):eB:=⟨kind,1,0,decide (kind=2),[],[]⟩
def uF:aK:=[(0,dO 2)]
def aD (T:aK):Int→List Nm→Int×Int
 |id,[]=>(id,0)
 |id,n::r=>match ah id T with
  |none=>(0,20)
  |some x=>if x.kind=2 then(match ah n x.names with
   |none=>(0,20)
   |some k=>aD T k r)else(0,23)
def bB (T:aK) (id:Int):Int:=match ah id T with|some x=>x.kind|none=>0
def aM (T:aK) (id:Int):List (Nm×Int):=match ah id T with|some x=>x.names|none=>[]
def aF (T:aK) (p:List Nm):Int×Nm×Int:=
 if p=[]then(0,[],1)else
 if (aD T 0 p.dropLast).2≠0 then(0,[],(aD T 0 p.dropLast).2)else
 if bB T (aD T 0 p.dropLast).1=2 then((aD T 0 p.dropLast).1,p.getLastD [],0)else(0,[],23)
def xB (T:aK):Int:=(((List.range (T.length+1)).map fun n:Nat=>(n:Int)+1).find? fun n=>(ah n T).isNone).getD 0
def setName (T:aK) (d:Int) (n:Nm) (id:Int):aK:=bX d (fun x=>{x with names:=cO bytesBefore n id x.names}) T
def aL (T:aK) (d:Int) (n:Nm):aK:=bX d (fun x=>{x with names:=bI n x.names}) T
def rX (T:aK) (p:List Nm) (kind:Int):aK:=setName (cO jw (xB T) (dO kind) T) (aF T p).1 (aF T p).2.1 (xB T)
def lQ (T:aK) (p:List Nm) (kind:Int):Int:=
 if bG p≠0 then bG p else
 if ¬(kind=1∨kind=2)then 30 else
 if (aF T p).2.2≠0 then(aF T p).2.2 else
 if (ah (aF T p).2.1 (aM T (aF T p).1)).isSome then 21 else
 if 64≤T.length then 4 else 0
def cZ (T:aK) (p:List Nm) (kind:Int):(Int×Int)×aK:=
 if lQ T p kind=0 then((xB T,0),rX T p kind)else((0,lQ T p kind),T)
def fA (T:aK) (id:Int):Int:=match ah id T with|none=>20|some x=>if x.kind=2 then 22 else 0
def nH (T:aK) (id:Int) (b:List UInt8):Int:=match ah id T with
 |none=>20
 |some x=>if x.kind=2 then 22 else if x.closed then 27 else if 4096<x.b.length+b.length then 15 else 0
def dF (T:aK) (id:Int) (b:List UInt8):Int×aK:=(nH T id b,if nH T id b=0 then bX id (fun x=>{x with b:=x.b++b}) T else T)
def qE (at_ n:Int):Int:=if at_<0∨n<0 then 1 else 0
def nI (b:List UInt8) (at_ n:Int):List UInt8:=if at_<0∨n<0 then[]else(b.drop at_.toNat).take n.toNat
def zL (T:aK) (id at_ n:Int):Int:=match ah id T with|none=>20|some x=>if x.kind=2 then 22 else qE at_ n
def nJ (T:aK) (id at_ n:Int):List UInt8:=match ah id T with|none=>[]|some x=>if x.kind=2 then[]else nI x.b at_ n
def gI (T:aK) (id:Int):aK:=match ah id T with
 |none=>T
 |some x=>if x.links=0∧x.closed=true then bI id T else T
def vK (T:aK) (id au:Int):Int:=match ah id T with
 |none=>20
 |some x=>if x.kind=2 then 22 else if x.closed then 27 else if 1099511627776<au then 1 else 0
def fE (T:aK) (id au:Int):Int×aK:=(vK T id au,if vK T id au=0 then gI (bX id (fun x=>{x with closed:=true,au:=au}) T) id else T)
def vL (T:aK) (id au:Int):Int:=match ah id T with
 |none=>20
 |some x=>if x.kind=2 then 22 else if x.closed=false then 25 else if au<x.au then 28 else if 1099511627776<au then 1 else 0
def gU (T:aK) (id au:Int):Int×aK:=(vL T id au,if vL T id au=0 then bX id (fun x=>{x with au:=au}) T else T)
def jy (T:aK) (id:Int):Int:=match ah id T with
 |none=>20
 |some x=>if x.kind=2 then 22 else if x.closed then 27 else 0
def uG (T:aK) (id:Int):aK:=bI id (T.map fun q=>(q.1,{q.2 with names:=q.2.names.filter fun e=> !decide (e.2=id)}))
def fO (T:aK) (id:Int):Int×aK:=(jy T id,if jy T id=0 then uG T id else T)
def jX (p to:List Nm):Int:=if bG p≠0 then bG p else bG to
def rY (T:aK) (id:Int):Int:=match ah id T with|some x=>x.links|none=>0
def l9 (T:aK) (p to:List Nm):Int:=
 if jX p to≠0 then jX p to else
 if (aD T 0 p).2≠0 then(aD T 0 p).2 else
 if bB T (aD T 0 p).1=2 then 22 else
 if (aF T to).2.2≠0 then(aF T to).2.2 else
 if (ah (aF T to).2.1 (aM T (aF T to).1)).isSome then 21 else
 if 64≤rY T (aD T 0 p).1 then 4 else 0
def EK (T:aK) (p to:List Nm):aK:=bX (aD T 0 p).1 (fun x=>{x with links:=x.links+1}) (setName T (aF T to).1 (aF T to).2.1 (aD T 0 p).1)
def gy (T:aK) (p to:List Nm):Int×aK:=(l9 T p to,if l9 T p to=0 then EK T p to else T)
def bq (T:aK) (p:List Nm):Int×Int:=if bG p≠0 then(0,bG p)else aD T 0 p
def jk (T:aK) (p:List Nm):Int:=
 if (bq T p).2≠0 then(bq T p).2 else if bB T (aD T 0 p).1=2 then 22 else 0
def sN (T:aK) (p:List Nm):aK:=gI (bX (aD T 0 p).1 (fun x=>{x with links:=x.links-1}) (aL T (aF T p).1 (aF T p).2.1)) (aD T 0 p).1
def dP (T:aK) (p:List Nm):Int×aK:=(jk T p,if jk T p=0 then sN T p else T)
def iX (T:aK) (p:List Nm):Int:=
 if (bq T p).2≠0 then(bq T p).2 else if bB T (aD T 0 p).1≠2 then 23 else if (aD T 0 p).1=0 then 1 else if 0<(aM T (aD T 0 p).1).length then 24 else 0
def wL (T:aK) (p:List Nm):aK:=bI (aD T 0 p).1 (aL T (aF T p).1 (aF T p).2.1)
def eT (T:aK) (p:List Nm):Int×aK:=(iX T p,if iX T p=0 then wL T p else T)
def cn (k:Int) (x:eB):Nat:=x.names.countP fun e=>decide (e.2=k)
def fK (T:aK) (k:Int):Nat:=(T.map fun q=>cn k q.2).sum
structure IY (x:eB):Prop where
 kind:x.kind=1∨x.kind=2
 file:x.kind=1→x.names=[]
 dir:x.kind=2→x.links=1∧x.closed=true∧x.b=[]∧x.au=0
 gone:x.links=0→x.closed=false
 sorted:aN bytesBefore x.names
 good:∀e∈x.names,dM e.1=true
 size:x.b.length≤4096
 links:0≤x.links∧x.links≤64
 au:0≤x.au∧x.au≤1099511627776
structure zl (T:aK):Prop where
 sorted:aN jw T
 root:bB T 0=2
 each:∀k x,ah k T=some x→IY x
 leads:∀k x,ah k T=some x→∀e∈x.names,(ah e.2 T).isSome=true∧e.2≠0
 len:T.length≤64
 ids:∀k x,ah k T=some x→0≤k∧k≤65535
structure dI (T:aK):Prop extends zl T where
 counts:∀k x,ah k T=some x→k≠0→(fK T k:Int)=x.links
theorem gG {T:aK} {id:Int} (h:bB T id=2):∃x,ah id T=some x∧x.kind=2:=by
 unfold bB at h
 cases hg:ah id T with
 |none=>rw[hg]at h;cases h
 |some x=>rw[hg]at h;exact⟨x,rfl,h⟩
theorem jY {T:aK} (hT:dI T):∀(p:List Nm) (id:Int),(ah id T).isSome=true→(aD T id p).2=0→(ah (aD T id p).1 T).isSome=true
 |[],id,h,_=>h
 |n::r,id,h,he=>by
  obtain⟨x,hx⟩:=Option.isSome_iff_exists.1 h
  simp only[aD,hx]at he⊢
  split at he
  ·rename_i hk
   rw[if_pos hk]
   cases hn:ah n x.names with
   |none=>rw[hn]at he;cases he
   |some k=>
    rw[hn]at he
    exact jY hT r k (hT.leads _ _ hx _ (dB hn)).1 he
  ·cases he
theorem jT {T:aK} (hT:dI T):(ah 0 T).isSome=true:=by
 obtain⟨x,h,_⟩:=gG hT.root
 simp[h]
def aP:uz Tryz.prog 3 Int where
 lit x:= .int .i64 x
 val x:= .int .i64 x
 ok x:=(Lit.int .i64 x).wf=true
 lt a b:=decide (a<b)
 law:=Go.Maps.int_keyed Tryz.underlying3
 of x h:=Go.Maps.keyOf_int_mk Tryz.underlying3 h
 inv v kl h:=by
  obtain⟨x,e1,e2,e3⟩:=Go.Maps.keyOf_int_inv Tryz.underlying3 h
  exact⟨x,e1,e2,e3⟩
 same a b:=by simp[Lit.sameKey]
 before a b:=by simp[Lit.before]
 isKey a:=by exact trivial
theorem VH:mJ (fun a b:Int=>decide (a<b)):=⟨fun a=>by simp,fun a b c h1 h2=>by simp at*;omega,fun a b h=>by simp;omega⟩
inductive Own where
 |none
 |head
 |items
 |item (k:Int)
 |names (k:Int)
abbrev ptr (b:Nat):Value:= .pointer (some ⟨b,0,none⟩)
def dH (x:eB) (nb:Nat):Value:=if x.kind=2 then .map (some nb)else .map none
def gL (k:Int) (x:eB) (a:Option Addr) (c nb:Nat):Array Value:=
 #[.int .i64 k, .int .i64 x.kind, .int .i64 x.links, .int .i64 x.b.length, .int .u64 x.au, .bool x.closed, .slice a x.b.length c,dH x nb]
def bC (x:eB):List (Nm×Value):=x.names.map fun e=>(e.1, .int .i64 e.2)
def nK (n c:Nat):Prop:=n≤c∧c≤maxLen
structure iA (D:Nat→Prop) (w:World) (k:Int) (ib nb:Nat) (x:eB):Prop where
 cells:∃a c,w.heap[ib]? =some (.cells (gL k x a c nb) 94 (0,0))∧nK x.b.length c∧aj D w a x.b.length (x.b.map bv)
 names:x.kind=2→MapAt bV w nb (bC x)
structure aC (g:Nat→Own) (D:Nat→Prop) (w:World) (p mb:Nat) (ib nb:Int→Nat) (T:aK):Prop where
 head:w.heap[p]? =some (.cells #[.map (some mb)] 97 (0,0))
 map:MapAt aP w mb (T.map fun q=>(q.1,ptr (ib q.1)))
 item:∀k x,ah k T=some x→iA D w k (ib k) (nb k) x
 nC:g p= .head
 iG:g mb= .items
 lZ:∀k x,ah k T=some x→g (ib k)= .item k
 kD:∀k x,ah k T=some x→x.kind=2→g (nb k)= .names k
 data:∀b,D b→g b= .none
 low:∀b,g b≠ .none→b<w.heap.size
 l5:∀b,D b→b<w.heap.size
theorem iA.move {D D':Nat→Prop} {w w':World} {k:Int} {ib nb:Nat} {x:eB} (h:iA D w k ib nb x) (hs:w.heap.size≤w'.heap.size) (hi:w'.heap[ib]? =w.heap[ib]?) (hn:x.kind=2→w'.heap[nb]? =w.heap[nb]?) (hD:∀b,D b→b<w.heap.size→D' b∧w'.heap[b]? =w.heap[b]?):iA D' w' k ib nb x:=by
 obtain⟨⟨a,c,h1,h2,h3⟩,h4⟩:=h
 exact⟨⟨a,c,hi.trans h1,h2,h3.move hs hD⟩,fun hk=>(h4 hk).kept (hn hk)⟩
theorem aC.keeps {g:Nat→Own} {D fp:Nat→Prop} {w w':World} {p mb:Nat} {ib nb:Int→Nat} {T:aK} (h:aC g D w p mb ib nb T) (hK:Keeps fp w w') (hn:∀b,g b≠ .none∨D b→¬fp b):aC g D w' p mb ib nb T:=by
 have hb:∀b,g b≠ .none→w'.heap[b]? =w.heap[b]? :=fun b hb=>hK.block b (h.low b hb) (hn b (.inl hb))
 refine⟨(hb p (by rw[h.nC];simp)).trans h.head,h.map.kept (hb mb (by rw[h.iG];simp)),fun k x hx=>(h.item k x hx).move hK.size (hb _ (by rw[h.lZ k x hx];simp)) (fun hk=>hb _ (by rw[h.kD k x hx hk];simp)) fun b hb hbw=>⟨hb,hK.block b hbw (hn b (.inr hb))⟩,
  h.nC,h.iG,h.lZ,h.kD,h.data,fun b hb=>Nat.lt_of_lt_of_le (h.low b hb) hK.size,fun b hb=>Nat.lt_of_lt_of_le (h.l5 b hb) hK.size⟩
theorem aC.below {g:Nat→Own} {D:Nat→Prop} {w w':World} {B p mb:Nat} {ib nb:Int→Nat} {T:aK} (h:aC g D w p mb ib nb T) (hb:Below B w w') (hB:w.heap.size≤B):aC g D w' p mb ib nb T:=
 h.keeps (fp:=fun x=>B≤x) (Keeps.below hb) fun b hx hf=>by
  rcases hx with hx|hx
  ·have:=h.low b hx;omega
  ·have:=h.l5 b hx;omega
theorem aC.bX {g:Nat→Own} {D D':Nat→Prop} {w w':World} {p mb:Nat} {ib nb:Int→Nat} {T:aK} (h:aC g D w p mb ib nb T) {k:Int} {x:eB} {f:eB→eB} (hx:ah k T=some x) (hfk:(f x).kind=x.kind)
  (hD:∀b,D b→D' b) (hD':∀b,D' b→g b= .none∧b<w'.heap.size) (hsz:w.heap.size≤w'.heap.size) (hb:∀b,b<w.heap.size→g b≠ .item k→g b≠ .names k→w'.heap[b]? =w.heap[b]?) (hi:iA D' w' k (ib k) (nb k) (f x)):
  aC g D' w' p mb ib nb (bX k f T):=by
 refine⟨(hb p (h.low p (by rw[h.nC];simp)) (by rw[h.nC];simp) (by rw[h.nC];simp)).trans h.head,?_,?_,h.nC,h.iG,?_,?_,fun b hb=>(hD' b hb).1,fun b hb=>Nat.lt_of_lt_of_le (h.low b hb) hsz,fun b hb=>(hD' b hb).2⟩
 ·have:=h.map.kept (hb mb (h.low mb (by rw[h.iG];simp)) (by rw[h.iG];simp) (by rw[h.iG];simp))
  rw[uE k f T (fun j=>ptr (ib j))]
  exact this
 ·intro j y hy
  rw[aV]at hy
  by_cases hj:j=k
  ·subst hj
   rw[if_pos rfl,hx]at hy
   simp only[Option.map_some,Option.some.injEq]at hy
   subst hy
   exact hi
  ·rw[if_neg hj]at hy
   refine(h.item j y hy).move hsz (hb _ (h.low _ (by rw[h.lZ j y hy];simp)) (by rw[h.lZ j y hy];simpa using hj) (by rw[h.lZ j y hy];simp)) (fun hk=>hb _ (h.low _ (by rw[h.kD j y hy hk];simp)) (by rw[h.kD j y hy hk];simp) (by rw[h.kD j y hy hk];simpa using hj)) ?_
   intro b qF hbw
   refine⟨hD b qF,hb b hbw ?_ ?_⟩<;>rw[h.data b qF]<;>simp
 ·intro j y hy
  rw[aV]at hy
  by_cases hj:j=k
  ·subst hj;exact h.lZ j x hx
  ·rw[if_neg hj]at hy;exact h.lZ j y hy
 ·intro j y hy hk
  rw[aV]at hy
  by_cases hj:j=k
  ·subst hj
   rw[if_pos rfl,hx]at hy
   simp only[Option.map_some,Option.some.injEq]at hy
   subst hy
   exact h.kD j x hx (hfk▸hk)
  ·rw[if_neg hj]at hy;exact h.kD j y hy hk
theorem zM {κ α β:Type} (lt:κ→κ→Bool) (f:κ→α→β) (x:κ×α):∀l:List (κ×α),(iL lt x l).map (fun p=>(p.1,f p.1 p.2))=iL lt (x.1,f x.1 x.2) (l.map fun p=>(p.1,f p.1 p.2))
 |[]=>rfl
 |y::r=>by
  unfold iL
  simp only[List.map_cons]
  split<;>simp[zM lt f x r]
theorem uH {κ α β:Type} [DecidableEq κ] (f:κ→α→β) (k:κ) (l:List (κ×α)):(bI k l).map (fun p=>(p.1,f p.1 p.2))=bI k (l.map fun p=>(p.1,f p.1 p.2)):=by
 simp[bI,List.filter_map,Function.comp_def]
theorem rz {κ α β:Type} [DecidableEq κ] (lt:κ→κ→Bool) (f:κ→α→β) (k:κ) (v:α) (l:List (κ×α)):(cO lt k v l).map (fun p=>(p.1,f p.1 p.2))=cO lt k (f k v) (l.map fun p=>(p.1,f p.1 p.2)):=by
 simp only[cO,zM,uH]
theorem dW {κ α:Type} [DecidableEq κ] (lt:κ→κ→Bool) (k j:κ) (v:α) (l:List (κ×α)):ah j (cO lt k v l)=if j=k then some v else ah j l:=by
 by_cases h:j=k
 ·subst h;rw[if_pos rfl,xw]
 ·rw[if_neg h,wF lt h]
theorem eZ {κ α:Type} [DecidableEq κ] (k j:κ) (l:List (κ×α)):ah j (bI k l)=if j=k then none else ah j l:=by
 by_cases h:j=k
 ·subst h;rw[if_pos rfl,mI]
 ·rw[if_neg h,lY h]
theorem aC.add {g:Nat→Own} {D:Nat→Prop} {w w':World} {p mb:Nat} {ib nb:Int→Nat} {T:aK} (h:aC g D w p mb ib nb T) {k:Int} {x:eB} {i n:Nat} (hi0:w.heap.size≤i) (hn0:w.heap.size≤n) (hin:i≠n) (hiw:i<w'.heap.size) (hnw:x.kind=2→n<w'.heap.size) (hx0:ah k T=none) (hxb:x.b=[])
  (hm:MapAt aP w' mb (cO jw k (ptr i) (T.map fun q=>(q.1,ptr (ib q.1))))) (hsz:w.heap.size≤w'.heap.size) (hb:∀b,b<w.heap.size→b≠mb→w'.heap[b]? =w.heap[b]?) (hi:iA (fun _=>False) w' k i n x):
  aC (fun b=>if b=i then .item k else if b=n∧x.kind=2 then .names k else g b) D w' p mb (fun j=>if j=k then i else ib j) (fun j=>if j=k then n else nb j) (cO jw k x T):=by
 have hgl:∀b,g b≠ .none→b≠i∧b≠n:=fun b hb=>by have:=h.low b hb;omega
 have hgg:∀b,g b≠ .none→(if b=i then Own.item k else if b=n∧x.kind=2 then .names k else g b)=g b:=fun b hb=>by
  obtain⟨h1,h2⟩:=hgl b hb
  rw[if_neg h1,if_neg (fun h=>h2 h.1)]
 have hp:g p≠ .none:=by rw[h.nC];simp
 have hmm:g mb≠ .none:=by rw[h.iG];simp
 refine⟨(hb p (h.low p hp) (fun e=>by have:=h.nC;rw[e,h.iG]at this;cases this)).trans h.head,?_,?_,(hgg p hp).trans h.nC,(hgg mb hmm).trans h.iG,?_,?_,?_,?_,fun b hb=>Nat.lt_of_lt_of_le (h.l5 b hb) hsz⟩
 ·have e1:(cO jw k x T).map (fun q=>(q.1,ptr ((fun j=>if j=k then i else ib j) q.1)))=cO jw k (ptr i) (T.map fun q=>(q.1,ptr (ib q.1))):=by
   rw[rz jw (fun j _=>ptr ((fun j=>if j=k then i else ib j) j))]
   simp only[if_pos]
   congr 1
   apply List.map_congr_left
   intro q hq
   have:q.1≠k:=ji.1 hx0 q hq
   rw[if_neg this]
  rw[e1]
  exact hm
 ·intro j y hy
  rw[dW]at hy
  by_cases hj:j=k
  ·subst hj
   rw[if_pos rfl]at hy
   cases hy
   simp only[if_pos]
   refine hi.move (Nat.le_refl _) rfl (fun _=>rfl) (fun b hb=>hb.elim)
  ·rw[if_neg hj]at hy
   simp only[if_neg hj]
   have t1:=h.lZ j y hy
   refine(h.item j y hy).move hsz (hb _ (h.low _ (by rw[t1];simp)) (fun e=>by rw[e,h.iG]at t1;cases t1)) (fun hk=>hb _ (h.low _ (by rw[h.kD j y hy hk];simp)) (fun e=>by have t2:=h.kD j y hy hk;rw[e,h.iG]at t2;cases t2)) ?_
   intro b qF hbw
   exact⟨qF,hb b hbw (fun e=>by have:=h.data b qF;rw[e,h.iG]at this;cases this)⟩
 ·intro j y hy
  rw[dW]at hy
  by_cases hj:j=k
  ·subst hj;simp
  ·rw[if_neg hj]at hy
   have t1:=h.lZ j y hy
   simp only[if_neg hj]
   rw[hgg _ (by rw[t1];simp)]
   exact t1
 ·intro j y hy hk
  rw[dW]at hy
  by_cases hj:j=k
  ·subst hj
   rw[if_pos rfl]at hy
   cases hy
   simp only[if_pos]
   rw[if_neg (Ne.symm hin),if_pos ⟨trivial,hk⟩]
  ·rw[if_neg hj]at hy
   have t1:=h.kD j y hy hk
   simp only[if_neg hj]
   rw[hgg _ (by rw[t1];simp)]
   exact t1
 ·intro b qF
  have:=h.l5 b qF
  rw[if_neg (by omega),if_neg (by omega)]
  exact h.data b qF
 ·intro b hbn
  by_cases h1:b=i
  ·omega
  ·by_cases h2:b=n∧x.kind=2
   ·have:=hnw h2.2;omega
   ·simp only[if_neg h1,if_neg h2]at hbn
    exact Nat.lt_of_lt_of_le (h.low b hbn) hsz
theorem aC.del {g:Nat→Own} {D:Nat→Prop} {w w':World} {p mb:Nat} {ib nb:Int→Nat} {T:aK} (h:aC g D w p mb ib nb T) {k:Int}
  (hm:MapAt aP w' mb (bI k (T.map fun q=>(q.1,ptr (ib q.1))))) (hsz:w.heap.size≤w'.heap.size) (hb:∀b,b<w.heap.size→b≠mb→w'.heap[b]? =w.heap[b]?):aC g D w' p mb ib nb (bI k T):=by
 have hp:g p≠ .none:=by rw[h.nC];simp
 have hget:∀j y,ah j (bI k T)=some y→ah j T=some y:=fun j y hy=>by
  rw[eZ]at hy
  split at hy
  ·cases hy
  ·exact hy
 refine⟨(hb p (h.low p hp) (fun e=>by have:=h.nC;rw[e,h.iG]at this;cases this)).trans h.head,?_,?_,h.nC,h.iG,fun j y hy=>h.lZ j y (hget j y hy),fun j y hy=>h.kD j y (hget j y hy),h.data,fun b hb=>Nat.lt_of_lt_of_le (h.low b hb) hsz,fun b hb=>Nat.lt_of_lt_of_le (h.l5 b hb) hsz⟩
 ·rw[uH (fun j _=>ptr (ib j))];exact hm
 ·intro j y hy'
  have hy:=hget j y hy'
  have t1:=h.lZ j y hy
  refine(h.item j y hy).move hsz (hb _ (h.low _ (by rw[t1];simp)) (fun e=>by rw[e,h.iG]at t1;cases t1)) (fun hk=>hb _ (h.low _ (by rw[h.kD j y hy hk];simp)) (fun e=>by have t2:=h.kD j y hy hk;rw[e,h.iG]at t2;cases t2)) ?_
  intro b qF hbw
  exact⟨qF,hb b hbw (fun e=>by have:=h.data b qF;rw[e,h.iG]at this;cases this)⟩
theorem uI {κ α β:Type} [DecidableEq κ] (f:κ→α→β) (k:κ) (l:List (κ×α)):ah k (l.map fun p=>(p.1,f p.1 p.2))=(ah k l).map (f k):=by
 induction l with
 |nil=>rfl
 |cons y r ih=>
  rw[List.map_cons,fB,fB,ih]
  by_cases h:y.1=k
  ·subst h;simp
  ·simp[h]
theorem bZ (ib:Int→Nat) (T:aK) (k:Int):ah k (T.map fun q=>(q.1,ptr (ib q.1)))=(ah k T).map fun _=>ptr (ib k):=uI (fun j (_:eB)=>ptr (ib j)) k T
theorem dK (x:eB) (n:Nm):ah n (bC x)=(ah n x.names).map fun i=>(.int .i64 i:Value):=uI (fun(_:Nm) (i:Int)=>Value.int .i64 i) n x.names
theorem iA.cell {D:Nat→Prop} {w:World} {k:Int} {ib nb:Nat} {x:eB} (h:iA D w k ib nb x):
  w.cell? ⟨ib,0,none⟩=some (.int .i64 k)∧w.cell? ⟨ib,1,none⟩=some (.int .i64 x.kind)∧w.cell? ⟨ib,2,none⟩=some (.int .i64 x.links)∧w.cell? ⟨ib,3,none⟩=some (.int .i64 x.b.length)∧w.cell? ⟨ib,4,none⟩=some (.int .u64 x.au)∧w.cell? ⟨ib,5,none⟩=some (.bool x.closed)∧w.cell? ⟨ib,7,none⟩=some (dH x nb)∧ib<w.heap.size:=by
 obtain⟨⟨a,c,h1,_⟩,_⟩:=h
 have:=(Array.getElem?_eq_some_iff.1 h1).1
 refine⟨?_,?_,?_,?_,?_,?_,?_,this⟩<;>(simp only[World.cell?,h1];rfl)
theorem aC.cell {g:Nat→Own} {D:Nat→Prop} {w:World} {p mb:Nat} {ib nb:Int→Nat} {T:aK} (h:aC g D w p mb ib nb T):w.cell? ⟨p,0,none⟩=some (.map (some mb))∧p<w.heap.size∧mb<w.heap.size:=by
 have:=(Array.getElem?_eq_some_iff.1 h.head).1
 exact⟨by simp[World.cell?,h.head],this,h.map.lt⟩
end Go.Proofs.YtmabllemjkcobaaGreatDoor
