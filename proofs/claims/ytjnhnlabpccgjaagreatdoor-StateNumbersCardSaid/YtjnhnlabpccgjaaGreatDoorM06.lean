/- Plain -/
import Derived.Test.YtjnhnlabpccgjaaGreatDoorM05
import Derived.Lib.Split
import Derived.Lib.SplitLaws
import Derived.Lib.Join
import Derived.Test.YtjnhnlabpccgjaaGreatDoorM04
import Derived.Test.YtjnhnlabpccgjaaGreatDoorM02
set_option maxRecDepth 100000
set_option maxHeartbeats 64000000
set_option linter.all false
namespace Go.Proofs.YtjnhnlabpccgjaaGreatDoor
open Go
def bM:List UInt8→List (List UInt8)
 |[]=>[[]]
 |c::r=>if c=47 then[]::bM r else match bM r with|[]=>[[c]]|x::xs=>(c::x)::xs
theorem OE(l:List UInt8):bM l≠[]:=by
 induction l with
 |nil=>simp[bM]
 |cons c r ih=>unfold bM;split<;>(try split)<;>simp
theorem nG(c:UInt8)(r:List UInt8)(h:c≠47):∃x xs,bM r=x::xs∧bM (c::r)=(c::x)::xs:=by
 cases hr:bM r with
 |nil=>exact absurd hr (OE r)
 |cons x xs=>exact⟨x,xs,rfl,by simp[bM,h,hr]⟩
theorem AZ(l:List UInt8)(h:∀c∈l,c≠47):bM l=[l]:=by
 induction l with
 |nil=>rfl
 |cons c r ih=>
  have h1:=ih (fun x hx=>h x (acd _ hx));simp[bM,h c (by simp),h1]
theorem OG(a r:List UInt8)(h:∀c∈a,c≠47):bM (a++47::r)=a::bM r:=by
 induction a with
 |nil=>simp[bM]
 |cons c a ih=>
  have h1:=ih (fun x hx=>h x (acd _ hx));simp[bM,h c (by simp),h1]
theorem V7(l:List UInt8):∀x∈bM l,∀c∈x,c≠47:=by
 induction l with
 |nil=>intro x hx c hc;simp[bM]at hx;subst hx;cases hc
 |cons c r ih=>
  by_cases h:c=47
  ·intro x hx d hd;simp only[bM,h,if_true,aay]at hx;rcases hx with rfl|hx
   ·cases hd
   ·exact ih x hx d hd
  ·obtain⟨y,ys,e1,e2⟩:=nG c r h;intro x hx d hd;rw[e2]at hx;rw[e1]at ih;rcases aay.1 hx with rfl|hx
   ·rcases aay.1 hd with rfl|hd
    ·exact h
    ·exact ih y (by simp) d hd
   ·exact ih x (by simp[hx]) d hd
theorem OH(l:List UInt8):∀x∈bM l,x.length≤l.length:=by
 induction l with
 |nil=>intro x hx;simp[bM]at hx;subst hx;simp
 |cons c r ih=>
  by_cases h:c=47
  ·intro x hx;simp only[bM,h,if_true,aay]at hx;rcases hx with rfl|hx
   ·simp
   ·have:=ih x hx;simp;omega
  ·obtain⟨y,ys,e1,e2⟩:=nG c r h;intro x hx;rw[e2]at hx;rw[e1]at ih;rcases aay.1 hx with rfl|hx
   ·have:=ih y (by simp);simp;omega
   ·have:=ih x (by simp[hx]);simp;omega
theorem ED(l:List UInt8):(bM l).length=l.count 47+1:=by
 induction l with
 |nil=>rfl
 |cons c r ih=>
  by_cases h:c=47
  ·subst h;simp[bM,ih]
  ·obtain⟨y,ys,e1,e2⟩:=nG c r h;rw[e2,List.count_cons_of_ne h];rw[e1]at ih;simpa using ih
theorem OI(l:List UInt8):∀k,l.count 47≤k→Lib.splitK [47] 0 k l=bM l:=by
 induction l with
 |nil=>
  intro k _;cases k<;>simp[Lib.splitK,bM,Lib.index]
 |cons c r ih=>
  intro k hk;cases k with
  |zero=>
   have:∀x∈c::r,x≠47:=by
    intro x hx e;subst e;have:=List.count_pos_iff.2 hx;omega
   rw[AZ _ this];rfl
  |succ k=>
   by_cases h:c=47
   ·subst h;have e:Lib.index (47::r) [47]=0:=by simp[Lib.index]
    have hk':r.count 47≤k:=by simp at hk;omega
    simp only[Lib.splitK,e,bM,if_true];have h1:((0:Int)== -1)=false:=by decide
    rw[h1];simp[ih k hk']
   ·have hpre:([47]:List UInt8).isPrefixOf (c::r)=false:=by
     simp[List.isPrefixOf];exact fun e=>h e.symm
    have hk':r.count 47≤k+1:=by
     rw[List.count_cons_of_ne h]at hk;omega
    have h2:=ih (k+1) hk';obtain⟨x,xs,e1,e2⟩:=nG c r h;rw[e2];rw[e1]at h2;simp only[Lib.splitK,Lib.index,hpre]at h2⊢;by_cases hi:Lib.index r [47]= -1
    ·simp only[hi]at h2⊢;simp at h2⊢;rw[h2.1,h2.2];simp
    ·have hge:=Lib.index_ge r [47];have b1:(Lib.index r [47]== -1)=false:=by simpa using hi
     have b2:(Lib.index r [47]+1== -1)=false:=by simp;omega
     rw[b1]at h2;simp only[b1,Bool.false_eq_true,if_false,b2]at h2⊢;obtain⟨i,hi2⟩:∃i:Nat,Lib.index r [47]=i:=⟨(Lib.index r [47]).toNat,by omega⟩;rw[hi2]at h2⊢;have t1:((i:Int)+1).toNat=i+1:=by omega
     rw[t1];simp only[abK,Nat.add_zero,aa6,List.length_singleton]at h2⊢;obtain⟨g1,g2⟩:=h2;refine⟨by simp[←g1],?_⟩;rw[←g2];simp
def bg(ls:List (List UInt8)):Int:=if ls.any (fun x=> !dO x)then 12 else if 8<ls.length then 3 else 0
def aC(l:List UInt8):List (List UInt8)×Int:=
 match l with
 |[]=>([],12)
 |c::r=>if c≠47 then([],12)else if r=[]then([],0)else if bg (bM r)=0 then(bM r,0)else([],bg (bM r))
theorem IZ(s:ByteArray):(Lib.splitB ⟨#[47]⟩ 0 (Lib.countB s ⟨#[47]⟩) s).map (fun x=>x.data.toList)=bM s.data.toList∧Lib.countB s ⟨#[47]⟩=s.data.toList.count 47:=by
 have hc:Lib.countB s ⟨#[47]⟩=s.data.toList.count 47:=Lib.count_one 47 _;refine⟨?_,hc⟩;have:=Lib.splitB_data ⟨#[47]⟩ 0 (Lib.countB s ⟨#[47]⟩) s;exact this.trans (OI _ _ (by rw[hc];exact Nat.le_refl _))
open Go.ChangeShapes Go.WideShapes Go.ChangeAt Go.RowKit
abbrev Nm:=List UInt8
abbrev lI(a b:Int):Bool:=decide (a<b)
structure bP where
 kind:Int
 links:Int
 aA:Int
 closed:Bool
 b:List UInt8
 names:List (Nm×Int)
abbrev aL:=List (Int×bP)
section
variable{κ α:Type}[DecidableEq κ]
def bq(k:κ)(f:α→α)(l:List (κ×α)):List (κ×α):=l.map fun q=>if q.1=k then(q.1,f q.2)else q
theorem iQ(k:κ)(y:κ×α)(r:List (κ×α)):aj k (y::r)=if y.1=k then some y.2 else aj k r:=by
 unfold aj;by_cases h:y.1=k<;>simp[h]
theorem aW(k j:κ)(f:α→α)(l:List (κ×α)):aj j (bq k f l)=if j=k then(aj j l).map f else aj j l:=by
 induction l with
 |nil=>simp[bq,aj]
 |cons y r ih=>
  have ih':aj j (List.map (fun q:κ×α=>if q.1=k then(q.1,f q.2)else q) r)=if j=k then(aj j r).map f else aj j r:=ih;unfold bq;rw[aaA,iQ,iQ,ih'];by_cases h:y.1=k
  ·by_cases h2:y.1=j
   ·have:j=k:=h2▸h;simp[h,this]
   ·have:j≠k:=fun e=>h2 (h.trans e.symm);have h3:¬k=j:=fun e=>this e.symm;simp[h,h3,this]
  ·by_cases h2:y.1=j
   ·have:j≠k:=fun e=>h (h2.trans e);simp[h2,this]
   ·simp[h,h2]
theorem zQ{β:Type}(k:κ)(f:α→α)(l:List (κ×α))(g:κ→β):(bq k f l).map (fun q=>(q.1,g q.1))=l.map fun q=>(q.1,g q.1):=by
 unfold bq;rw[List.map_map];apply aaJ;intro q _;by_cases h:q.1=k<;>simp[h]
theorem jd(k:κ)(f:α→α)(l:List (κ×α)):(bq k f l).length=l.length:=by simp[bq]
theorem ng{lt:κ→κ→Bool}(k:κ)(f:α→α){l:List (κ×α)}(h:aT lt l):aT lt (bq k f l):=by
 unfold aT bq;rw[abJ];refine abI (fun{a b} hab=> ?_) h;by_cases h1:a.1=k<;>by_cases h2:b.1=k<;>simp_all
theorem cK{lt:κ→κ→Bool}(L:pF lt){l:List (κ×α)}(h:aT lt l){q:κ×α}(hq:q∈l):aj q.1 l=some q.2:=h.get L hq
end
def dh(kind:Int):bP:=⟨kind,1,0,decide (kind=2),[],[]⟩
def wX:aL:=[(0,dh 2)]
def aJ(T:aL):Int→List Nm→Int×Int
 |id,[]=>(id,0)
 |id,n::r=>match aj id T with
  |none=>(0,20)
  |some x=>if x.kind=2 then(match aj n x.names with
   |none=>(0,20)
   |some k=>aJ T k r)else(0,23)
def dL(T:aL)(id:Int):Int:=match aj id T with|some x=>x.kind|none=>0
def bJ(T:aL)(id:Int):List (Nm×Int):=match aj id T with|some x=>x.names|none=>[]
def aH(T:aL)(p:List Nm):Int×Nm×Int:=
 if p=[]then(0,[],1)else
 if (aJ T 0 p.dropLast).2≠0 then(0,[],(aJ T 0 p.dropLast).2)else
 if dL T (aJ T 0 p.dropLast).1=2 then((aJ T 0 p.dropLast).1,p.getLastD [],0)else(0,[],23)
def CJ(T:aL):Int:=(((List.range (T.length+1)).map fun n:Nat=>(n:Int)+1).find? fun n=>(aj n T).isNone).getD 0
def setName(T:aL)(d:Int)(n:Nm)(id:Int):aL:=bq d (fun x=>{x with names:=dW bytesBefore n id x.names}) T
def aG(T:aL)(d:Int)(n:Nm):aL:=bq d (fun x=>{x with names:=bS n x.names}) T
def vD(T:aL)(p:List Nm)(kind:Int):aL:=setName (dW lI (CJ T) (dh kind) T) (aH T p).1 (aH T p).2.1 (CJ T)
def lU(T:aL)(p:List Nm)(kind:Int):Int:=
 if bg p≠0 then bg p else
 if ¬(kind=1∨kind=2)then 30 else
 if (aH T p).2.2≠0 then(aH T p).2.2 else
 if (aj (aH T p).2.1 (bJ T (aH T p).1)).isSome then 21 else
 if 64≤T.length then 4 else 0
def b_(T:aL)(p:List Nm)(kind:Int):(Int×Int)×aL:=
 if lU T p kind=0 then((CJ T,0),vD T p kind)else((0,lU T p kind),T)
def bV(T:aL)(id:Int):Int:=match aj id T with|none=>20|some x=>if x.kind=2 then 22 else 0
def mK(T:aL)(id:Int)(b:List UInt8):Int:=match aj id T with
 |none=>20
 |some x=>if x.kind=2 then 22 else if x.closed then 27 else if 4096<x.b.length+b.length then 15 else 0
def dw(T:aL)(id:Int)(b:List UInt8):Int×aL:=(mK T id b,if mK T id b=0 then bq id (fun x=>{x with b:=x.b++b}) T else T)
def oP(at_ n:Int):Int:=if at_<0∨n<0 then 1 else 0
def kU(b:List UInt8)(at_ n:Int):List UInt8:=if at_<0∨n<0 then[]else(b.drop at_.toNat).take n.toNat
def uJ(T:aL)(id at_ n:Int):Int:=match aj id T with|none=>20|some x=>if x.kind=2 then 22 else oP at_ n
def jZ(T:aL)(id at_ n:Int):List UInt8:=match aj id T with|none=>[]|some x=>if x.kind=2 then[]else kU x.b at_ n
def iR(T:aL)(id:Int):aL:=match aj id T with
 |none=>T
 |some x=>if x.links=0∧x.closed=true then bS id T else T
def uK(T:aL)(id aA:Int):Int:=match aj id T with
 |none=>20
 |some x=>if x.kind=2 then 22 else if x.closed then 27 else if 1099511627776<aA then 1 else 0
def eF(T:aL)(id aA:Int):Int×aL:=(uK T id aA,if uK T id aA=0 then iR (bq id (fun x=>{x with closed:=true,aA:=aA}) T) id else T)
def rM(T:aL)(id aA:Int):Int:=match aj id T with
 |none=>20
 |some x=>if x.kind=2 then 22 else if x.closed=false then 25 else if aA<x.aA then 28 else if 1099511627776<aA then 1 else 0
def eX(T:aL)(id aA:Int):Int×aL:=(rM T id aA,if rM T id aA=0 then bq id (fun x=>{x with aA:=aA}) T else T)
def jG(T:aL)(id:Int):Int:=match aj id T with
 |none=>20
 |some x=>if x.kind=2 then 22 else if x.closed then 27 else 0
def zR(T:aL)(id:Int):aL:=bS id (T.map fun q=>(q.1,{q.2 with names:=q.2.names.filter fun e=> !decide (e.2=id)}))
def fB(T:aL)(id:Int):Int×aL:=(jG T id,if jG T id=0 then zR T id else T)
def kE(p to:List Nm):Int:=if bg p≠0 then bg p else bg to
def tO(T:aL)(id:Int):Int:=match aj id T with|some x=>x.links|none=>0
def ni(T:aL)(p to:List Nm):Int:=
 if kE p to≠0 then kE p to else
 if (aJ T 0 p).2≠0 then(aJ T 0 p).2 else
 if dL T (aJ T 0 p).1=2 then 22 else
 if (aH T to).2.2≠0 then(aH T to).2.2 else
 if (aj (aH T to).2.1 (bJ T (aH T to).1)).isSome then 21 else
 if 64≤tO T (aJ T 0 p).1 then 4 else 0
def CK(T:aL)(p to:List Nm):aL:=bq (aJ T 0 p).1 (fun x=>{x with links:=x.links+1}) (setName T (aH T to).1 (aH T to).2.1 (aJ T 0 p).1)
def fM(T:aL)(p to:List Nm):Int×aL:=(ni T p to,if ni T p to=0 then CK T p to else T)
def aQ(T:aL)(p:List Nm):Int×Int:=if bg p≠0 then(0,bg p)else aJ T 0 p
def jL(T:aL)(p:List Nm):Int:=
 if (aQ T p).2≠0 then(aQ T p).2 else if dL T (aJ T 0 p).1=2 then 22 else 0
def sD(T:aL)(p:List Nm):aL:=iR (bq (aJ T 0 p).1 (fun x=>{x with links:=x.links-1}) (aG T (aH T p).1 (aH T p).2.1)) (aJ T 0 p).1
def bC(T:aL)(p:List Nm):Int×aL:=(jL T p,if jL T p=0 then sD T p else T)
def jR(T:aL)(p:List Nm):Int:=
 if (aQ T p).2≠0 then(aQ T p).2 else if dL T (aJ T 0 p).1≠2 then 23 else if (aJ T 0 p).1=0 then 1 else if 0<(bJ T (aJ T 0 p).1).length then 24 else 0
def yI(T:aL)(p:List Nm):aL:=bS (aJ T 0 p).1 (aG T (aH T p).1 (aH T p).2.1)
def dP(T:aL)(p:List Nm):Int×aL:=(jR T p,if jR T p=0 then yI T p else T)
def cn(k:Int)(x:bP):Nat:=x.names.countP fun e=>decide (e.2=k)
def jh(T:aL)(k:Int):Nat:=(T.map fun q=>cn k q.2).sum
structure NC(x:bP):Prop where
 kind:x.kind=1∨x.kind=2
 file:x.kind=1→x.names=[]
 dir:x.kind=2→x.links=1∧x.closed=true∧x.b=[]∧x.aA=0
 gone:x.links=0→x.closed=false
 sorted:aT bytesBefore x.names
 good:∀e∈x.names,dO e.1=true
 size:x.b.length≤4096
 links:0≤x.links∧x.links≤64
 aA:0≤x.aA∧x.aA≤1099511627776
structure BJ(T:aL):Prop where
 sorted:aT lI T
 root:dL T 0=2
 each:∀k x,aj k T=some x→NC x
 leads:∀k x,aj k T=some x→∀e∈x.names,(aj e.2 T).isSome=true∧e.2≠0
 len:T.length≤64
 ids:∀k x,aj k T=some x→0≤k∧k≤65535
structure dG(T:aL):Prop extends BJ T where
 counts:∀k x,aj k T=some x→k≠0→(jh T k:Int)=x.links
theorem mR{T:aL}{id:Int}(h:dL T id=2):∃x,aj id T=some x∧x.kind=2:=by
 unfold dL at h;cases hg:aj id T with
 |none=>rw[hg]at h;cases h
 |some x=>rw[hg]at h;exact⟨x,rfl,h⟩
theorem gL{T:aL}(hT:dG T):∀(p:List Nm) (id:Int),(aj id T).isSome=true→(aJ T id p).2=0→(aj (aJ T id p).1 T).isSome=true
 |[],id,h,_=>h
 |n::r,id,h,he=>by
  obtain⟨x,hx⟩:=aaf.1 h;simp only[aJ,hx]at he⊢;split at he
  ·rename_i hk;rw[if_pos hk];cases hn:aj n x.names with
   |none=>rw[hn]at he;cases he
   |some k=>
    rw[hn]at he;exact gL hT r k (hT.leads _ _ hx _ (dU hn)).1 he
  ·cases he
theorem gu{T:aL}(hT:dG T):(aj 0 T).isSome=true:=by
 obtain⟨x,h,_⟩:=mR hT.root;simp[h]
def bY:Cz Tryz.prog 3 Int where
 lit x:= .int .i64 x
 val x:= .int .i64 x
 ok x:=(Lit.int .i64 x).wf=true
 lt a b:=decide (a<b)
 law:=Go.Maps.int_keyed aa8
 of x h:=Go.Maps.keyOf_int_mk aa8 h
 inv v kl h:=by
  obtain⟨x,e1,e2,e3⟩:=Go.Maps.keyOf_int_inv aa8 h;exact⟨x,e1,e2,e3⟩
 same a b:=by simp[Lit.sameKey]
 before a b:=by simp[Lit.before]
 isKey a:=by exact trivial
theorem intLt:pF (fun a b:Int=>decide (a<b)):=⟨fun a=>by simp,fun a b c h1 h2=>by simp at*;omega,fun a b h=>by simp;omega⟩
inductive Own where
 |none
 |head
 |items
 |item (k:Int)
 |names (k:Int)
abbrev ptr(b:Nat):Value:= .pointer (some ⟨b,0,none⟩)
def eY(x:bP)(nb:Nat):Value:=if x.kind=2 then .map (some nb)else .map none
def kP(k:Int)(x:bP)(a:Option Addr)(c nb:Nat):Array Value:=
 #[.int .i64 k,.int .i64 x.kind,.int .i64 x.links,.int .i64 x.b.length,.int .u64 x.aA,.bool x.closed,.slice a x.b.length c,eY x nb]
def bW(x:bP):List (Nm×Value):=x.names.map fun e=>(e.1,.int .i64 e.2)
def xq(n c:Nat):Prop:=n≤c∧c≤maxLen
structure kZ(D:Nat→Prop)(w:World)(k:Int)(ib nb:Nat)(x:bP):Prop where
 cells:∃a c,w.heap[ib]? =some (.cells (kP k x a c nb) 138 (0,0))∧xq x.b.length c∧ah D w a x.b.length (x.b.map bv)
 names:x.kind=2→MapAt dZ w nb (bW x)
structure aO(g:Nat→Own)(D:Nat→Prop)(w:World)(p mb:Nat)(ib nb:Int→Nat)(T:aL):Prop where
 head:w.heap[p]? =some (.cells #[.map (some mb)] 106 (0,0))
 map:MapAt bY w mb (T.map fun q=>(q.1,ptr (ib q.1)))
 item:∀k x,aj k T=some x→kZ D w k (ib k) (nb k) x
 uR:g p= .head
 lW:g mb= .items
 rG:∀k x,aj k T=some x→g (ib k)= .item k
 pI:∀k x,aj k T=some x→x.kind=2→g (nb k)= .names k
 data:∀b,D b→g b= .none
 low:∀b,g b≠ .none→b<w.heap.size
 rX:∀b,D b→b<w.heap.size
theorem kZ.move{D D':Nat→Prop}{w w':World}{k:Int}{ib nb:Nat}{x:bP}(h:kZ D w k ib nb x)(hs:w.heap.size≤w'.heap.size)(hi:w'.heap[ib]? =w.heap[ib]?)(hn:x.kind=2→w'.heap[nb]? =w.heap[nb]?)(hD:∀b,D b→b<w.heap.size→D' b∧w'.heap[b]? =w.heap[b]?):kZ D' w' k ib nb x:=by
 obtain⟨⟨a,c,h1,h2,h3⟩,h4⟩:=h;exact⟨⟨a,c,hi.trans h1,h2,h3.move hs hD⟩,fun hk=>(h4 hk).kept (hn hk)⟩
theorem aO.keeps{g:Nat→Own}{D fp:Nat→Prop}{w w':World}{p mb:Nat}{ib nb:Int→Nat}{T:aL}(h:aO g D w p mb ib nb T)(hK:Keeps fp w w')(hn:∀b,g b≠ .none∨D b→¬fp b):aO g D w' p mb ib nb T:=by
 have hb:∀b,g b≠ .none→w'.heap[b]? =w.heap[b]? :=fun b hb=>hK.block b (h.low b hb) (hn b (.inl hb))
 refine⟨(hb p (by rw[h.uR];simp)).trans h.head,h.map.kept (hb mb (by rw[h.lW];simp)),fun k x hx=>(h.item k x hx).move hK.size (hb _ (by rw[h.rG k x hx];simp)) (fun hk=>hb _ (by rw[h.pI k x hx hk];simp)) fun b hb hbw=>⟨hb,hK.block b hbw (hn b (.inr hb))⟩,
  h.uR,h.lW,h.rG,h.pI,h.data,fun b hb=>Pd (h.low b hb) hK.size,fun b hb=>Pd (h.rX b hb) hK.size⟩
theorem aO.below{g:Nat→Own}{D:Nat→Prop}{w w':World}{B p mb:Nat}{ib nb:Int→Nat}{T:aL}(h:aO g D w p mb ib nb T)(hb:Below B w w')(hB:w.heap.size≤B):aO g D w' p mb ib nb T:=
 h.keeps (fp:=fun x=>B≤x) (Keeps.below hb) fun b hx hf=>by
  rcases hx with hx|hx
  ·have:=h.low b hx;omega
  ·have:=h.rX b hx;omega
theorem aO.bq{g:Nat→Own}{D D':Nat→Prop}{w w':World}{p mb:Nat}{ib nb:Int→Nat}{T:aL}(h:aO g D w p mb ib nb T){k:Int}{x:bP}{f:bP→bP}(hx:aj k T=some x)(YT:(f x).kind=x.kind)
  (hD:∀b,D b→D' b)(hD':∀b,D' b→g b= .none∧b<w'.heap.size)(hsz:w.heap.size≤w'.heap.size)(hb:∀b,b<w.heap.size→g b≠ .item k→g b≠ .names k→w'.heap[b]? =w.heap[b]?)(hi:kZ D' w' k (ib k) (nb k) (f x)):
  aO g D' w' p mb ib nb (bq k f T):=by
 refine⟨(hb p (h.low p (by rw[h.uR];simp)) (by rw[h.uR];simp) (by rw[h.uR];simp)).trans h.head,?_,?_,h.uR,h.lW,?_,?_,fun b hb=>(hD' b hb).1,fun b hb=>Pd (h.low b hb) hsz,fun b hb=>(hD' b hb).2⟩
 ·have:=h.map.kept (hb mb (h.low mb (by rw[h.lW];simp)) (by rw[h.lW];simp) (by rw[h.lW];simp));rw[zQ k f T (fun j=>ptr (ib j))];exact this
 ·intro j y hy;rw[aW]at hy;by_cases hj:j=k
  ·subst hj;rw[if_pos rfl,hx]at hy;simp only[aat,aac]at hy;subst hy;exact hi
  ·rw[if_neg hj]at hy;refine(h.item j y hy).move hsz (hb _ (h.low _ (by rw[h.rG j y hy];simp)) (by rw[h.rG j y hy];simpa using hj) (by rw[h.rG j y hy];simp)) (fun hk=>hb _ (h.low _ (by rw[h.pI j y hy hk];simp)) (by rw[h.pI j y hy hk];simp) (by rw[h.pI j y hy hk];simpa using hj)) ?_;intro b I4 hbw;refine⟨hD b I4,hb b hbw ?_ ?_⟩<;>rw[h.data b I4]<;>simp
 ·intro j y hy;rw[aW]at hy;by_cases hj:j=k
  ·subst hj;exact h.rG j x hx
  ·rw[if_neg hj]at hy;exact h.rG j y hy
 ·intro j y hy hk;rw[aW]at hy;by_cases hj:j=k
  ·subst hj;rw[if_pos rfl,hx]at hy;simp only[aat,aac]at hy;subst hy;exact h.pI j x hx (YT▸hk)
  ·rw[if_neg hj]at hy;exact h.pI j y hy hk
theorem E5{κ α β:Type}(lt:κ→κ→Bool)(f:κ→α→β)(x:κ×α):∀l:List (κ×α),(kC lt x l).map (fun p=>(p.1,f p.1 p.2))=kC lt (x.1,f x.1 x.2) (l.map fun p=>(p.1,f p.1 p.2))
 |[]=>rfl
 |y::r=>by
  unfold kC;simp only[aaA];split<;>simp[E5 lt f x r]
theorem zS{κ α β:Type}[DecidableEq κ](f:κ→α→β)(k:κ)(l:List (κ×α)):(bS k l).map (fun p=>(p.1,f p.1 p.2))=bS k (l.map fun p=>(p.1,f p.1 p.2)):=by
 simp[bS,abY,Function.comp_def]
theorem zT{κ α β:Type}[DecidableEq κ](lt:κ→κ→Bool)(f:κ→α→β)(k:κ)(v:α)(l:List (κ×α)):(dW lt k v l).map (fun p=>(p.1,f p.1 p.2))=dW lt k (f k v) (l.map fun p=>(p.1,f p.1 p.2)):=by
 simp only[dW,E5,zS]
theorem h_{κ α:Type}[DecidableEq κ](lt:κ→κ→Bool)(k j:κ)(v:α)(l:List (κ×α)):aj j (dW lt k v l)=if j=k then some v else aj j l:=by
 by_cases h:j=k
 ·subst h;rw[if_pos rfl,CB]
 ·rw[if_neg h,BI lt h]
theorem fF{κ α:Type}[DecidableEq κ](k j:κ)(l:List (κ×α)):aj j (bS k l)=if j=k then none else aj j l:=by
 by_cases h:j=k
 ·subst h;rw[if_pos rfl,qI]
 ·rw[if_neg h,pE h]
theorem aO.add{g:Nat→Own}{D:Nat→Prop}{w w':World}{p mb:Nat}{ib nb:Int→Nat}{T:aL}(h:aO g D w p mb ib nb T){k:Int}{x:bP}{i n:Nat}(hi0:w.heap.size≤i)(hn0:w.heap.size≤n)(hin:i≠n)(hiw:i<w'.heap.size)(hnw:x.kind=2→n<w'.heap.size)(hx0:aj k T=none)(hxb:x.b=[])
  (hm:MapAt bY w' mb (dW lI k (ptr i) (T.map fun q=>(q.1,ptr (ib q.1)))))(hsz:w.heap.size≤w'.heap.size)(hb:∀b,b<w.heap.size→b≠mb→w'.heap[b]? =w.heap[b]?)(hi:kZ (fun _=>False) w' k i n x):
  aO (fun b=>if b=i then .item k else if b=n∧x.kind=2 then .names k else g b) D w' p mb (fun j=>if j=k then i else ib j) (fun j=>if j=k then n else nb j) (dW lI k x T):=by
 have hgl:∀b,g b≠ .none→b≠i∧b≠n:=fun b hb=>by have:=h.low b hb;omega
 have hgg:∀b,g b≠ .none→(if b=i then Own.item k else if b=n∧x.kind=2 then .names k else g b)=g b:=fun b hb=>by
  obtain⟨h1,h2⟩:=hgl b hb;rw[if_neg h1,if_neg (fun h=>h2 h.1)]
 have hp:g p≠ .none:=by rw[h.uR];simp
 have hmm:g mb≠ .none:=by rw[h.lW];simp
 refine⟨(hb p (h.low p hp) (fun e=>by have:=h.uR;rw[e,h.lW]at this;cases this)).trans h.head,?_,?_,(hgg p hp).trans h.uR,(hgg mb hmm).trans h.lW,?_,?_,?_,?_,fun b hb=>Pd (h.rX b hb) hsz⟩
 ·have e1:(dW lI k x T).map (fun q=>(q.1,ptr ((fun j=>if j=k then i else ib j) q.1)))=dW lI k (ptr i) (T.map fun q=>(q.1,ptr (ib q.1))):=by
   rw[zT lI (fun j _=>ptr ((fun j=>if j=k then i else ib j) j))];simp only[if_pos];congr 1;apply aaJ;intro q hq;have:q.1≠k:=lH.1 hx0 q hq;rw[if_neg this]
  rw[e1];exact hm
 ·intro j y hy;rw[h_]at hy;by_cases hj:j=k
  ·subst hj;rw[if_pos rfl]at hy;cases hy;simp only[if_pos];refine hi.move acC rfl (fun _=>rfl) (fun b hb=>hb.elim)
  ·rw[if_neg hj]at hy;simp only[if_neg hj];have t1:=h.rG j y hy;refine(h.item j y hy).move hsz (hb _ (h.low _ (by rw[t1];simp)) (fun e=>by rw[e,h.lW]at t1;cases t1)) (fun hk=>hb _ (h.low _ (by rw[h.pI j y hy hk];simp)) (fun e=>by have t2:=h.pI j y hy hk;rw[e,h.lW]at t2;cases t2)) ?_;intro b I4 hbw;exact⟨I4,hb b hbw (fun e=>by have:=h.data b I4;rw[e,h.lW]at this;cases this)⟩
 ·intro j y hy;rw[h_]at hy;by_cases hj:j=k
  ·subst hj;simp
  ·rw[if_neg hj]at hy;have t1:=h.rG j y hy;simp only[if_neg hj];rw[hgg _ (by rw[t1];simp)];exact t1
 ·intro j y hy hk;rw[h_]at hy;by_cases hj:j=k
  ·subst hj;rw[if_pos rfl]at hy;cases hy;simp only[if_pos];rw[if_neg (abw hin),if_pos ⟨trivial,hk⟩]
  ·rw[if_neg hj]at hy;have t1:=h.pI j y hy hk;simp only[if_neg hj];rw[hgg _ (by rw[t1];simp)];exact t1
 ·intro b I4;have:=h.rX b I4;rw[if_neg (by omega),if_neg (by omega)];exact h.data b I4
 ·intro b hbn;by_cases h1:b=i
  ·omega
  ·by_cases h2:b=n∧x.kind=2
   ·have:=hnw h2.2;omega
   ·simp only[if_neg h1,if_neg h2]at hbn;exact Pd (h.low b hbn) hsz
theorem aO.del{g:Nat→Own}{D:Nat→Prop}{w w':World}{p mb:Nat}{ib nb:Int→Nat}{T:aL}(h:aO g D w p mb ib nb T){k:Int}
  (hm:MapAt bY w' mb (bS k (T.map fun q=>(q.1,ptr (ib q.1)))))(hsz:w.heap.size≤w'.heap.size)(hb:∀b,b<w.heap.size→b≠mb→w'.heap[b]? =w.heap[b]?):aO g D w' p mb ib nb (bS k T):=by
 have hp:g p≠ .none:=by rw[h.uR];simp
 have hget:∀j y,aj j (bS k T)=some y→aj j T=some y:=fun j y hy=>by
  rw[fF]at hy;split at hy
  ·cases hy
  ·exact hy
 refine⟨(hb p (h.low p hp) (fun e=>by have:=h.uR;rw[e,h.lW]at this;cases this)).trans h.head,?_,?_,h.uR,h.lW,fun j y hy=>h.rG j y (hget j y hy),fun j y hy=>h.pI j y (hget j y hy),h.data,fun b hb=>Pd (h.low b hb) hsz,fun b hb=>Pd (h.rX b hb) hsz⟩
 ·rw[zS (fun j _=>ptr (ib j))];exact hm
 ·intro j y hy';have hy:=hget j y hy';have t1:=h.rG j y hy;refine(h.item j y hy).move hsz (hb _ (h.low _ (by rw[t1];simp)) (fun e=>by rw[e,h.lW]at t1;cases t1)) (fun hk=>hb _ (h.low _ (by rw[h.pI j y hy hk];simp)) (fun e=>by have t2:=h.pI j y hy hk;rw[e,h.lW]at t2;cases t2)) ?_;intro b I4 hbw;exact⟨I4,hb b hbw (fun e=>by have:=h.data b I4;rw[e,h.lW]at this;cases this)⟩
theorem zU{κ α β:Type}[DecidableEq κ](f:κ→α→β)(k:κ)(l:List (κ×α)):aj k (l.map fun p=>(p.1,f p.1 p.2))=(aj k l).map (f k):=by
 induction l with
 |nil=>rfl
 |cons y r ih=>
  rw[aaA,iQ,iQ,ih];by_cases h:y.1=k
  ·subst h;simp
  ·simp[h]
theorem fG(ib:Int→Nat)(T:aL)(k:Int):aj k (T.map fun q=>(q.1,ptr (ib q.1)))=(aj k T).map fun _=>ptr (ib k):=zU (fun j (_:bP)=>ptr (ib j)) k T
theorem fP(x:bP)(n:Nm):aj n (bW x)=(aj n x.names).map fun i=>(.int .i64 i:Value):=zU (fun(_:Nm) (i:Int)=>Value.int .i64 i) n x.names
theorem kZ.cell{D:Nat→Prop}{w:World}{k:Int}{ib nb:Nat}{x:bP}(h:kZ D w k ib nb x):
  w.cell? ⟨ib,0,none⟩=some (.int .i64 k)∧w.cell? ⟨ib,1,none⟩=some (.int .i64 x.kind)∧w.cell? ⟨ib,2,none⟩=some (.int .i64 x.links)∧w.cell? ⟨ib,3,none⟩=some (.int .i64 x.b.length)∧w.cell? ⟨ib,4,none⟩=some (.int .u64 x.aA)∧w.cell? ⟨ib,5,none⟩=some (.bool x.closed)∧w.cell? ⟨ib,7,none⟩=some (eY x nb)∧ib<w.heap.size:=by
 obtain⟨⟨a,c,h1,_⟩,_⟩:=h;have:=(iA.1 h1).1;refine⟨?_,?_,?_,?_,?_,?_,?_,this⟩<;>(simp only[World.cell?,h1];rfl)
theorem aO.cell{g:Nat→Own}{D:Nat→Prop}{w:World}{p mb:Nat}{ib nb:Int→Nat}{T:aL}(h:aO g D w p mb ib nb T):w.cell? ⟨p,0,none⟩=some (.map (some mb))∧p<w.heap.size∧mb<w.heap.size:=by
 have:=(iA.1 h.head).1;exact⟨by simp[World.cell?,h.head],this,h.map.lt⟩
theorem fC:pF lI:=intLt
theorem nX{T:aL}(hs:aT lI T){d:Int}{x:bP}(f:bP→bP)(hx:aj d T=some x)(k:Int):jh (bq d f T) k+cn k x=jh T k+cn k (f x):=by
 induction T with
 |nil=>cases hx
 |cons y r ih=>
  have hp:=hs.apart fC;obtain⟨h1,h2⟩:=aaw.1 hp;rw[iQ]at hx;by_cases hy:y.1=d
  ·rw[if_pos hy]at hx;cases hx;have hr:bq d f r=r:=by
    unfold bq
    conv=>rhs;rw[←List.map_id r]
    apply aaJ;intro q hq;have:=h1 q hq;rw[if_neg (fun e=>this (hy.trans e.symm))];rfl
   have e:bq d f (y::r)=(y.1,f y.2)::r:=by
    have:bq d f (y::r)=(if y.1=d then(y.1,f y.2)else y)::bq d f r:=rfl;rw[this,hr,if_pos hy]
   rw[e];simp[jh];omega
  ·rw[if_neg hy]at hx;have:=ih (aaw.1 hs).2 hx;have e:bq d f (y::r)=y::bq d f r:=by
    have:bq d f (y::r)=(if y.1=d then(y.1,f y.2)else y)::bq d f r:=rfl;rw[this,if_neg hy]
   rw[e];simp[jh]at this⊢;omega
theorem E8(x:Int×bP):∀(T:aL) (k:Int),jh (kC lI x T) k=jh T k+cn k x.2
 |[],k=>by simp[kC,jh]
 |y::r,k=>by
  unfold kC;split
  ·simp[jh];omega
  ·have:=E8 x r k;simp[jh]at this⊢;omega
theorem zV{T:aL}(hs:aT lI T){d:Int}{x:bP}(hx:aj d T=some x)(k:Int):jh (bS d T) k+cn k x=jh T k:=by
 induction T with
 |nil=>cases hx
 |cons y r ih=>
  have hp:=hs.apart fC;obtain⟨h1,h2⟩:=aaw.1 hp;rw[iQ]at hx;by_cases hy:y.1=d
  ·rw[if_pos hy]at hx;cases hx;have hr:bS d r=r:=by
    unfold bS;rw[abe];intro q hq;have:=h1 q hq;simp only[Bool.not_eq_true',aaF];exact fun e=>this (hy.trans e.symm)
   have e:bS d (y::r)=r:=by
    have:bS d (y::r)=if (!decide (y.1=d))=true then y::bS d r else bS d r:=by simp[bS,aaR]
    rw[this,hr];simp[hy]
   rw[e];simp[jh];omega
  ·rw[if_neg hy]at hx;have:=ih (aaw.1 hs).2 hx;have e:bS d (y::r)=y::bS d r:=by
    have:bS d (y::r)=if (!decide (y.1=d))=true then y::bS d r else bS d r:=by simp[bS,aaR]
    rw[this];simp[hy]
   rw[e];simp[jh]at this⊢;omega
theorem YU{T:aL}{k j:Int}{x:bP}(hx:aj j T=some x):cn k x≤jh T k:=by
 have hm:=dU hx;have:∀(l:aL),(j,x)∈l→cn k x≤(l.map fun q=>cn k q.2).sum:=by
  intro l
  induction l with
  |nil=>simp
  |cons y r ih=>
   intro h;simp only[aaA,List.sum_cons];rcases aay.1 h with rfl|h
   ·exact Nat.le_add_right _ _
   ·have:=ih h;omega
 exact this T hm
theorem B_{T:aL}{k:Int}(h:jh T k=0){j:Int}{x:bP}(hx:aj j T=some x):∀e∈x.names,e.2≠k:=by
 have h1:cn k x=0:=by have:=YU (k:=k) hx;omega
 unfold cn at h1;rw[abW]at h1;intro e he;have:=h1 e he;simpa using this
theorem BJ.bq{T:aL}(h:BJ T){k:Int}{x:bP}{f:bP→bP}(hx:aj k T=some x)(h1:NC (f x))(hk:(f x).kind=x.kind)(hn:∀e∈(f x).names,(aj e.2 T).isSome=true∧e.2≠0):BJ (Go.Proofs.YtjnhnlabpccgjaaGreatDoor.bq k f T):=by
 have hget:∀j y,aj j (Go.Proofs.YtjnhnlabpccgjaaGreatDoor.bq k f T)=some y→(j=k∧y=f x)∨(j≠k∧aj j T=some y):=fun j y hy=>by
  rw[aW]at hy;by_cases hj:j=k
  ·subst hj;rw[if_pos rfl,hx]at hy;simp only[aat,aac]at hy;exact .inl ⟨rfl,hy.symm⟩
  ·rw[if_neg hj]at hy;exact .inr ⟨hj,hy⟩
 have hsome:∀j,(aj j T).isSome=true→(aj j (Go.Proofs.YtjnhnlabpccgjaaGreatDoor.bq k f T)).isSome=true:=fun j hj=>by
  rw[aW];split<;>simp[hj]
 refine⟨ng k f h.sorted,?_,fun j y hy=> ?_,fun j y hy e he=> ?_,by rw[jd];exact h.len,fun j y hy=> ?_⟩
 ·have hr:=h.root;unfold dL at hr⊢;rw[aW];by_cases h0:(0:Int)=k
  ·subst h0;rw[if_pos rfl,hx];rw[hx]at hr;exact hk.trans hr
  ·rw[if_neg h0];exact hr
 ·rcases hget j y hy with⟨rfl,rfl⟩|⟨_,hy⟩
  ·exact h1
  ·exact h.each j y hy
 ·rcases hget j y hy with⟨rfl,rfl⟩|⟨_,hy⟩
  ·exact⟨hsome _ (hn e he).1,(hn e he).2⟩
  ·exact⟨hsome _ (h.leads j y hy e he).1,(h.leads j y hy e he).2⟩
 ·rcases hget j y hy with⟨rfl,rfl⟩|⟨_,hy⟩
  ·exact h.ids j x hx
  ·exact h.ids j y hy
theorem dG.bq{T:aL}(h:dG T){k:Int}{x:bP}{f:bP→bP}(hx:aj k T=some x)(h1:NC (f x))(hk:(f x).kind=x.kind)(hn:∀e∈(f x).names,(aj e.2 T).isSome=true∧e.2≠0)
  (hc:∀j y,aj j (Go.Proofs.YtjnhnlabpccgjaaGreatDoor.bq k f T)=some y→j≠0→(jh (Go.Proofs.YtjnhnlabpccgjaaGreatDoor.bq k f T) j:Int)=y.links):dG (Go.Proofs.YtjnhnlabpccgjaaGreatDoor.bq k f T):=⟨h.toBJ.bq hx h1 hk hn,hc⟩
theorem dG.zW{T:aL}(h:dG T){k:Int}{x:bP}{f:bP→bP}(hx:aj k T=some x)(h1:NC (f x))(hk:(f x).kind=x.kind)(hn:(f x).names=x.names)(hl:(f x).links=x.links):dG (Go.Proofs.YtjnhnlabpccgjaaGreatDoor.bq k f T):=by
 refine h.bq hx h1 hk (by rw[hn];exact h.leads k x hx) fun j y hy hj=> ?_;have hcn:cn j (f x)=cn j x:=by unfold cn;rw[hn]
 have:=nX h.sorted f hx j;rw[hcn]at this;have e:jh (Go.Proofs.YtjnhnlabpccgjaaGreatDoor.bq k f T) j=jh T j:=by omega
 rw[e];rw[aW]at hy;by_cases hjk:j=k
 ·subst hjk;rw[if_pos rfl,hx]at hy;simp only[aat,aac]at hy;rw[←hy,hl];exact h.counts j x hx hj
 ·rw[if_neg hjk]at hy;exact h.counts j y hy hj
theorem R3:∀(m:Nat) (T:aL),aT lI T→(∀i:Nat,1≤i→i≤m→(aj (i:Int) T).isSome=true)→m≤T.length
 |0,_,_,_=>Nat.zero_le _
 |m+1,T,hs,h=>by
  obtain⟨x,hx⟩:=aaf.1 (h (m+1) (by omega) (by omega));have h1:=vB fC hs hx;have h2:=R3 m (bS ((m+1:Nat):Int) T) (hs.bS _) (fun i hi him=>by
   rw[fF,if_neg (by omega)];exact h i hi (by omega))
  omega
theorem La{T:aL}(hs:aT lI T):∃f:Nat,CJ T=f∧1≤f∧f≤T.length+1∧aj (f:Int) T=none∧∀i:Nat,1≤i→i<f→(aj (i:Int) T).isSome=true:=by
 unfold CJ;cases hf:(((List.range (T.length+1)).map fun n:Nat=>(n:Int)+1).find? fun n=>(aj n T).isNone)with
 |none=>
  exfalso;have h1:=abC.1 hf;have:=R3 (T.length+1) T hs (fun i hi him=>by
   have:=h1 (i:Int) (List.mem_map.2 ⟨i-1,by simp;omega,by omega⟩);cases hq:aj (i:Int) T with
   |none=>rw[hq]at this;simp at this
   |some v=>rfl)
  omega
 |some n=>
  rw[List.find?_eq_some_iff_append]at hf;obtain⟨hn,xs,ys,hab,hpre⟩:=hf;have hl:(xs++n::ys).length=T.length+1:=by rw[←hab];simp
  have hidx:∀i (hi:i<xs.length+1),(xs++n::ys)[i]? =some ((i:Int)+1):=fun i hi=>by
   rw[←hab];simp only[List.length_append,List.length_cons]at hl;simp[List.getElem?_range (show i<T.length+1 by omega)]
  have hne:n=(xs.length:Int)+1:=by
   have:=hidx xs.length (by omega);simpa using this
  simp only[List.length_append,List.length_cons]at hl;refine⟨xs.length+1,by simp[hne],by omega,by omega,?_,fun i hi hif=> ?_⟩
  ·have:((xs.length+1:Nat):Int)=n:=by omega
   rw[this];simpa using hn
  ·have h2:=hidx (i-1) (by omega);rw[aaG (by omega)]at h2;have h3:=hpre _ (aax h2);have e:((i-1:Nat):Int)+1=i:=by omega
   rw[e]at h3;cases hq:aj (i:Int) T with
   |none=>rw[hq]at h3;simp at h3
   |some v=>rfl
theorem dG.free{T:aL}(h:dG T):∃f:Nat,CJ T=f∧1≤f∧f≤T.length+1∧aj (f:Int) T=none∧∀i:Nat,1≤i→i<f→(aj (i:Int) T).isSome=true:=La h.sorted
theorem A_{α:Type}{l:List (Int×α)}{k:Int}(v:α)(h:aj k l=none):(dW lI k v l).length=l.length+1:=by
 unfold dW;rw[AX,nV h]
theorem Lb{α:Type}(t:α→Int)(m:Nat):∀(ks:List Int) (E:List α),(∀e∈E,t e∈ks)→(∀k∈ks,E.countP (fun e=>decide (t e=k))≤m)→E.length≤m*ks.length
 |[],E,h,_=>by
  cases E with
  |nil=>simp
  |cons e r=>have:=h e (by simp);simp at this
 |k::ks,E,h,hc=>by
  have h1:=Lb t m ks (E.filter fun e=> !decide (t e=k)) (fun e he=>by
   obtain⟨h1,h2⟩:=aaH.1 he;rcases aay.1 (h e h1)with h3|h3
   ·simp[h3]at h2
   ·exact h3) (fun j hj=>by
    rw[List.countP_filter];refine Nat.le_trans (List.countP_mono_left fun e _ he=> ?_) (hc j (by simp[hj]));simp at he⊢;exact he.1)
  have h2:=hc k (by simp);have h3:E.length=E.countP (fun e=>decide (t e=k))+(E.filter fun e=> !decide (t e=k)).length:=by
   rw[←List.countP_eq_length_filter];exact(List.length_eq_countP_add_countP (fun e=>decide (t e=k))).trans (by
    have:List.countP (fun a=>decide (¬decide (t a=k)=true)) E=List.countP (fun e=> !decide (t e=k)) E:=List.countP_congr (fun e _=>by simp);rw[this])
  rw[List.length_cons,Nat.mul_succ];omega
theorem dG.few{T:aL}(h:dG T){k:Int}{x:bP}(hx:aj k T=some x):x.names.length≤4096:=by
 have h1:=Lb (fun e:Nm×Int=>e.2) 64 (T.map (·.1)) x.names (fun e he=>by
  obtain⟨y,hy⟩:=aaf.1 (h.leads k x hx e he).1;exact List.mem_map.2 ⟨_,dU hy,rfl⟩) (fun j hj=>by
   by_cases h0:j=0
   ·subst h0;have:x.names.countP (fun e=>decide (e.2=0))=0:=by
     rw[abW];intro e he;have:=(h.leads k x hx e he).2;simpa using this
    omega
   ·obtain⟨q,hq,rfl⟩:=List.mem_map.1 hj;have hy:=cK fC h.sorted hq;have h2:=h.counts _ _ hy h0;have h3:=(h.each _ _ hy).links;have h4:=YU (k:=q.1) hx;unfold cn at h4;omega)
 have:=h.len;rw[List.length_map]at h1;omega
theorem vE{T:aL}(hs:aT lI T){k j:Int}{x y:bP}(h:aj j (dW lI k x T)=some y):(j=k∧y=x)∨(j≠k∧aj j T=some y):=by
 rw[h_]at h;by_cases hj:j=k
 ·rw[if_pos hj]at h;exact .inl ⟨hj,by simpa using h.symm⟩
 ·rw[if_neg hj]at h;exact .inr ⟨hj,h⟩
theorem E9{kind:Int}(hk:kind=1∨kind=2):NC (dh kind):=by
 refine⟨hk,fun _=>rfl,fun h=>⟨rfl,?_,rfl,rfl⟩,(fun h=>by cases h),by simp[dh,aT],by simp[dh],by simp[dh],by simp[dh],by simp[dh]⟩;have:kind=2:=h;simp[dh,this]
theorem BJ.add{T:aL}(h:BJ T){f:Int}{kind:Int}(hk:kind=1∨kind=2)(hf:aj f T=none)(h1:0≤f)(h2:f≤65535)(hl:T.length<64):BJ (dW lI f (dh kind) T):=by
 refine⟨h.sorted.dW fC _ _,?_,fun j y hy=> ?_,fun j y hy e he=> ?_,by rw[A_ _ hf];omega,fun j y hy=> ?_⟩
 ·obtain⟨x,hx,hk0⟩:=mR h.root;unfold dL;rw[h_,if_neg (fun e=>by rw[e,hf]at hx;cases hx),hx];exact hk0
 ·rcases vE h.sorted hy with⟨rfl,rfl⟩|⟨_,hy⟩
  ·exact E9 hk
  ·exact h.each j y hy
 ·rcases vE h.sorted hy with⟨rfl,rfl⟩|⟨_,hy⟩
  ·cases he
  ·have:=h.leads j y hy e he;refine⟨?_,this.2⟩;rw[h_];split
   ·rfl
   ·exact this.1
 ·rcases vE h.sorted hy with⟨rfl,rfl⟩|⟨_,hy⟩
  ·exact⟨h1,h2⟩
  ·exact h.ids j y hy
theorem R4{T:aL}{f kind:Int}(hf:aj f T=none)(k:Int):jh (dW lI f (dh kind) T) k=jh T k:=by
 unfold dW;rw[nV hf,E8];simp[cn,dh]
theorem ND(n:Nm)(id k:Int):∀l:List (Nm×Int),(kC bytesBefore (n,id) l).countP (fun e=>decide (e.2=k))=l.countP (fun e=>decide (e.2=k))+if id=k then 1 else 0
 |[]=>by simp[kC,abQ]
 |y::r=>by
  unfold kC;split
  ·simp[abQ]
  ·simp only[abQ,ND n id k r];omega
theorem Lc{x:bP}{n:Nm}{id:Int}(h:aj n x.names=none)(k:Int):cn k {x with names:=dW bytesBefore n id x.names}=cn k x+if id=k then 1 else 0:=by
 unfold cn dW;simp only;rw[nV h,ND]
theorem OJ{T:aL}(h:BJ T){f:Int}(hf:aj f T=none):jh T f=0:=by
 have:∀l:aL,(∀q∈l,cn f q.2=0)→jh l f=0:=by
  intro l
  induction l with
  |nil=>intro _;rfl
  |cons y r ih=>
   intro hh;have h1:=ih (fun q hq=>hh q (by simp[hq]));have h2:=hh y (by simp);unfold jh at h1⊢;simp only[aaA,List.sum_cons];omega
 refine this T fun q hq=> ?_;unfold cn;rw[abW];intro e he hd;have h1:=h.leads _ _ (cK fC h.sorted hq) e he;simp only[aal]at hd;rw[hd,hf]at h1;cases h1.1
theorem Ws{x:bP}(h:NC x)(hk:x.kind=2){n:Nm}(hn:dO n=true)(id:Int):NC {x with names:=dW bytesBefore n id x.names}:=by
 refine⟨h.kind,fun h1=> ?_,h.dir,h.gone,h.sorted.dW CF _ _,fun e he=> ?_,h.size,h.links,h.aA⟩
 ·have:x.kind=1:=h1;omega
 ·rcases (qH bytesBefore).1 he with h1|h1
  ·rw[h1];exact hn
  ·exact h.good e (aaH.1 h1).1
theorem OL{x:bP}{n:Nm}{id:Int}{P:Nm×Int→Prop}(h:∀e∈x.names,P e)(h1:P (n,id)):∀e∈dW bytesBefore n id x.names,P e:=by
 intro e he;rcases (qH bytesBefore).1 he with h2|h2
 ·rw[h2];exact h1
 ·exact h e (aaH.1 h2).1
theorem BJ.set{T:aL}(h:BJ T){d:Int}{x:bP}{n:Nm}{id:Int}(hx:aj d T=some x)(hk:x.kind=2)(hn:dO n=true)(hid:(aj id T).isSome=true∧id≠0):BJ (setName T d n id):=
 h.bq hx (Ws (h.each d x hx) hk hn id) rfl (OL (h.leads d x hx) hid)
theorem dG.make{T:aL}(h:dG T){d kind f:Int}{x:bP}{n:Nm}(hk:kind=1∨kind=2)(hf:aj f T=none)(h1:1≤f)(h2:f≤65535)(hl:T.length<64)(hx:aj d T=some x)(hxk:x.kind=2)(hn:dO n=true)(hnn:aj n x.names=none):
  dG (setName (dW lI f (dh kind) T) d n f):=by
 have hP:=h.toBJ.add hk hf (by omega) h2 hl;have hdf:d≠f:=fun e=>by rw[e,hf]at hx;cases hx
 have hx':aj d (dW lI f (dh kind) T)=some x:=by rw[h_,if_neg hdf];exact hx
 have hff:aj f (dW lI f (dh kind) T)=some (dh kind):=by rw[h_,if_pos rfl]
 refine⟨hP.set hx' hxk hn ⟨by rw[hff];rfl,by omega⟩,fun j y hy hj=> ?_⟩;have h3:=nX hP.sorted (fun x=>{x with names:=dW bytesBefore n f x.names}) hx' j;have h4:=Lc (id:=f) hnn j;have h5:=R4 (kind:=kind) hf j;have hgt:∀z,aj j (dW lI f (dh kind) T)=some z→z.links=y.links→(jh (setName (dW lI f (dh kind) T) d n f) j:Int)=y.links:=by
  intro z hz hzl;unfold setName;rcases vE h.sorted hz with⟨rfl,rfl⟩|⟨hjf,hz⟩
  ·have:=OJ h.toBJ hf;rw[if_pos rfl]at h4;have e:jh (Go.Proofs.YtjnhnlabpccgjaaGreatDoor.bq d (fun x=>{x with names:=dW bytesBefore n j x.names}) (dW lI j (dh kind) T)) j=1:=by omega
   rw[e,←hzl];rfl
  ·rw[if_neg (abw hjf)]at h4;have:=h.counts j z hz hj;have e:jh (Go.Proofs.YtjnhnlabpccgjaaGreatDoor.bq d (fun x=>{x with names:=dW bytesBefore n f x.names}) (dW lI f (dh kind) T)) j=jh T j:=by omega
   rw[e,this,hzl]
 unfold setName at hy;rw[aW]at hy;by_cases hjd:j=d
 ·subst hjd;rw[if_pos rfl,hx']at hy;simp only[aat,aac]at hy;exact hgt x hx' (by rw[←hy])
 ·rw[if_neg hjd]at hy;exact hgt y hy rfl
end Go.Proofs.YtjnhnlabpccgjaaGreatDoor
