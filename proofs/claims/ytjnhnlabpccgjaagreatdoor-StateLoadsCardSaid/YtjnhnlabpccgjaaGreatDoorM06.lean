/- Plain -/
import Derived.Test.YtjnhnlabpccgjaaGreatDoorM05
import Derived.Lib.Split
import Derived.Lib.SplitLaws
import Derived.Lib.Join
import Derived.Test.YtjnhnlabpccgjaaGreatDoorM04
import Derived.Test.YtjnhnlabpccgjaaGreatDoorM02
set_option maxRecDepth 100000
set_option maxHeartbeats 64000000
set_option linter.all false
namespace Go.Proofs.YtjnhnlabpccgjaaGreatDoor
open Go
def bR:List UInt8→List (List UInt8)
 |[]=>[[]]
 |c::r=>if c=47 then[]::bR r else match bR r with|[]=>[[c]]|x::xs=>(c::x)::xs
theorem PG(l:List UInt8):bR l≠[]:=by
 induction l with
 |nil=>simp[bR]
 |cons c r ih=>unfold bR;split<;>(try split)<;>simp
theorem mO(c:UInt8)(r:List UInt8)(h:c≠47):∃x xs,bR r=x::xs∧bR (c::r)=(c::x)::xs:=by
 cases hr:bR r with
 |nil=>exact absurd hr (PG r)
 |cons x xs=>exact⟨x,xs,rfl,by simp[bR,h,hr]⟩
theorem AZ(l:List UInt8)(h:∀c∈l,c≠47):bR l=[l]:=by
 induction l with
 |nil=>rfl
 |cons c r ih=>
  have h1:=ih (fun x hx=>h x (ab6 _ hx));simp[bR,h c (by simp),h1]
theorem PI(a r:List UInt8)(h:∀c∈a,c≠47):bR (a++47::r)=a::bR r:=by
 induction a with
 |nil=>simp[bR]
 |cons c a ih=>
  have h1:=ih (fun x hx=>h x (ab6 _ hx));simp[bR,h c (by simp),h1]
theorem WJ(l:List UInt8):∀x∈bR l,∀c∈x,c≠47:=by
 induction l with
 |nil=>intro x hx c hc;simp[bR]at hx;subst hx;cases hc
 |cons c r ih=>
  by_cases h:c=47
  ·intro x hx d hd;simp only[bR,h,abC,aan]at hx;rcases hx with rfl|hx
   ·cases hd
   ·exact ih x hx d hd
  ·obtain⟨y,ys,e1,e2⟩:=mO c r h;intro x hx d hd;rw[e2]at hx;rw[e1]at ih;rcases aan.1 hx with rfl|hx
   ·rcases aan.1 hd with rfl|hd
    ·exact h
    ·exact ih y (by simp) d hd
   ·exact ih x (by simp[hx]) d hd
theorem PK(l:List UInt8):∀x∈bR l,x.length≤l.length:=by
 induction l with
 |nil=>intro x hx;simp[bR]at hx;subst hx;simp
 |cons c r ih=>
  by_cases h:c=47
  ·intro x hx;simp only[bR,h,abC,aan]at hx;rcases hx with rfl|hx
   ·simp
   ·have:=ih x hx;simp;omega
  ·obtain⟨y,ys,e1,e2⟩:=mO c r h;intro x hx;rw[e2]at hx;rw[e1]at ih;rcases aan.1 hx with rfl|hx
   ·have:=ih y (by simp);simp;omega
   ·have:=ih x (by simp[hx]);simp;omega
theorem EX(l:List UInt8):(bR l).length=l.count 47+1:=by
 induction l with
 |nil=>rfl
 |cons c r ih=>
  by_cases h:c=47
  ·subst h;simp[bR,ih]
  ·obtain⟨y,ys,e1,e2⟩:=mO c r h;rw[e2,List.count_cons_of_ne h];rw[e1]at ih;simpa using ih
theorem PL(l:List UInt8):∀k,l.count 47≤k→Lib.splitK [47] 0 k l=bR l:=by
 induction l with
 |nil=>
  intro k _;cases k<;>simp[Lib.splitK,bR,Lib.index]
 |cons c r ih=>
  intro k hk;cases k with
  |zero=>
   have:∀x∈c::r,x≠47:=by
    intro x hx e;subst e;have:=List.count_pos_iff.2 hx;omega
   rw[AZ _ this];rfl
  |succ k=>
   by_cases h:c=47
   ·subst h;have e:Lib.index (47::r) [47]=0:=by simp[Lib.index]
    have hk':r.count 47≤k:=by simp at hk;omega
    simp only[Lib.splitK,e,bR,abC];have h1:((0:Int)== -1)=false:=by decide
    rw[h1];simp[ih k hk']
   ·have hpre:([47]:List UInt8).isPrefixOf (c::r)=false:=by
     simp[List.isPrefixOf];exact fun e=>h e.symm
    have hk':r.count 47≤k+1:=by
     rw[List.count_cons_of_ne h]at hk;omega
    have h2:=ih (k+1) hk';obtain⟨x,xs,e1,e2⟩:=mO c r h;rw[e2];rw[e1]at h2;simp only[Lib.splitK,Lib.index,hpre]at h2⊢;by_cases hi:Lib.index r [47]= -1
    ·simp only[hi]at h2⊢;simp at h2⊢;rw[h2.1,h2.2];simp
    ·have hge:=Lib.index_ge r [47];have b1:(Lib.index r [47]== -1)=false:=by simpa using hi
     have b2:(Lib.index r [47]+1== -1)=false:=by simp;omega
     rw[b1]at h2;simp only[b1,abe,if_false,b2]at h2⊢;obtain⟨i,hi2⟩:∃i:Nat,Lib.index r [47]=i:=⟨(Lib.index r [47]).toNat,by omega⟩;rw[hi2]at h2⊢;have t1:((i:Int)+1).toNat=i+1:=by omega
     rw[t1];simp only[aa2,Nat.add_zero,aaU,List.length_singleton]at h2⊢;obtain⟨g1,g2⟩:=h2;refine⟨by simp[←g1],?_⟩;rw[←g2];simp
def bH(ls:List (List UInt8)):Int:=if ls.any (fun x=> !bT x)then 12 else if 8<ls.length then 3 else 0
def ak(l:List UInt8):List (List UInt8)×Int:=
 match l with
 |[]=>([],12)
 |c::r=>if c≠47 then([],12)else if r=[]then([],0)else if bH (bR r)=0 then(bR r,0)else([],bH (bR r))
theorem I8(s:ByteArray):(Lib.splitB ⟨#[47]⟩ 0 (Lib.countB s ⟨#[47]⟩) s).map (fun x=>x.data.toList)=bR s.data.toList∧Lib.countB s ⟨#[47]⟩=s.data.toList.count 47:=by
 have hc:Lib.countB s ⟨#[47]⟩=s.data.toList.count 47:=Lib.count_one 47 _;refine⟨?_,hc⟩;have:=Lib.splitB_data ⟨#[47]⟩ 0 (Lib.countB s ⟨#[47]⟩) s;exact this.trans (PL _ _ (by rw[hc];exact Nat.le_refl _))
open Go.ChangeShapes Go.WideShapes Go.ChangeAt Go.RowKit
abbrev Nm:=List UInt8
abbrev iA(a b:Int):Bool:=decide (a<b)
structure bJ where
 kind:Int
 links:Int
 aF:Int
 closed:Bool
 b:List UInt8
 names:List (Nm×Int)
abbrev aA:=List (Int×bJ)
section
variable{κ α:Type}[DecidableEq κ]
def bC(k:κ)(f:α→α)(l:List (κ×α)):List (κ×α):=l.map fun q=>if q.1=k then(q.1,f q.2)else q
theorem fF(k:κ)(y:κ×α)(r:List (κ×α)):aj k (y::r)=if y.1=k then some y.2 else aj k r:=by
 unfold aj;by_cases h:y.1=k<;>simp[h]
theorem bf(k j:κ)(f:α→α)(l:List (κ×α)):aj j (bC k f l)=if j=k then(aj j l).map f else aj j l:=by
 induction l with
 |nil=>simp[bC,aj]
 |cons y r ih=>
  have ih':aj j (List.map (fun q:κ×α=>if q.1=k then(q.1,f q.2)else q) r)=if j=k then(aj j r).map f else aj j r:=ih;unfold bC;rw[List.map_cons,fF,fF,ih'];by_cases h:y.1=k
  ·by_cases h2:y.1=j
   ·have:j=k:=h2▸h;simp[h,this]
   ·have:j≠k:=fun e=>h2 (h.trans e.symm);have h3:¬k=j:=fun e=>this e.symm;simp[h,h3,this]
  ·by_cases h2:y.1=j
   ·have:j≠k:=fun e=>h (h2.trans e);simp[h2,this]
   ·simp[h,h2]
theorem PN{β:Type}(k:κ)(f:α→α)(l:List (κ×α))(g:κ→β):(bC k f l).map (fun q=>(q.1,g q.1))=l.map fun q=>(q.1,g q.1):=by
 unfold bC;rw[List.map_map];apply aaz;intro q _;by_cases h:q.1=k<;>simp[h]
theorem iK(k:κ)(f:α→α)(l:List (κ×α)):(bC k f l).length=l.length:=by simp[bC]
theorem lV{lt:κ→κ→Bool}(k:κ)(f:α→α){l:List (κ×α)}(h:aI lt l):aI lt (bC k f l):=by
 unfold aI bC;rw[abk];refine abJ (fun{a b} hab=> ?_) h;by_cases h1:a.1=k<;>by_cases h2:b.1=k<;>simp_all
theorem aS{lt:κ→κ→Bool}(L:oF lt){l:List (κ×α)}(h:aI lt l){q:κ×α}(hq:q∈l):aj q.1 l=some q.2:=h.get L hq
end
def cu(kind:Int):bJ:=⟨kind,1,0,decide (kind=2),[],[]⟩
def wO:aA:=[(0,cu 2)]
def aG(T:aA):Int→List Nm→Int×Int
 |id,[]=>(id,0)
 |id,n::r=>match aj id T with
  |none=>(0,20)
  |some x=>if x.kind=2 then(match aj n x.names with
   |none=>(0,20)
   |some k=>aG T k r)else(0,23)
def bI(T:aA)(id:Int):Int:=match aj id T with|some x=>x.kind|none=>0
def aU(T:aA)(id:Int):List (Nm×Int):=match aj id T with|some x=>x.names|none=>[]
def aH(T:aA)(p:List Nm):Int×Nm×Int:=
 if p=[]then(0,[],1)else
 if (aG T 0 p.dropLast).2≠0 then(0,[],(aG T 0 p.dropLast).2)else
 if bI T (aG T 0 p.dropLast).1=2 then((aG T 0 p.dropLast).1,p.getLastD [],0)else(0,[],23)
def CU(T:aA):Int:=(((List.range (T.length+1)).map fun n:Nat=>(n:Int)+1).find? fun n=>(aj n T).isNone).getD 0
def setName(T:aA)(d:Int)(n:Nm)(id:Int):aA:=bC d (fun x=>{x with names:=b_ bytesBefore n id x.names}) T
def aK(T:aA)(d:Int)(n:Nm):aA:=bC d (fun x=>{x with names:=bP n x.names}) T
def vg(T:aA)(p:List Nm)(kind:Int):aA:=setName (b_ iA (CU T) (cu kind) T) (aH T p).1 (aH T p).2.1 (CU T)
def kS(T:aA)(p:List Nm)(kind:Int):Int:=
 if bH p≠0 then bH p else
 if ¬(kind=1∨kind=2)then 30 else
 if (aH T p).2.2≠0 then(aH T p).2.2 else
 if (aj (aH T p).2.1 (aU T (aH T p).1)).isSome then 21 else
 if 64≤T.length then 4 else 0
def bZ(T:aA)(p:List Nm)(kind:Int):(Int×Int)×aA:=
 if kS T p kind=0 then((CU T,0),vg T p kind)else((0,kS T p kind),T)
def dG(T:aA)(id:Int):Int:=match aj id T with|none=>20|some x=>if x.kind=2 then 22 else 0
def lG(T:aA)(id:Int)(b:List UInt8):Int:=match aj id T with
 |none=>20
 |some x=>if x.kind=2 then 22 else if x.closed then 27 else if 4096<x.b.length+b.length then 15 else 0
def cK(T:aA)(id:Int)(b:List UInt8):Int×aA:=(lG T id b,if lG T id b=0 then bC id (fun x=>{x with b:=x.b++b}) T else T)
def A_(at_ n:Int):Int:=if at_<0∨n<0 then 1 else 0
def qV(b:List UInt8)(at_ n:Int):List UInt8:=if at_<0∨n<0 then[]else(b.drop at_.toNat).take n.toNat
def FB(T:aA)(id at_ n:Int):Int:=match aj id T with|none=>20|some x=>if x.kind=2 then 22 else A_ at_ n
def nZ(T:aA)(id at_ n:Int):List UInt8:=match aj id T with|none=>[]|some x=>if x.kind=2 then[]else qV x.b at_ n
def gY(T:aA)(id:Int):aA:=match aj id T with
 |none=>T
 |some x=>if x.links=0∧x.closed=true then bP id T else T
def uD(T:aA)(id aF:Int):Int:=match aj id T with
 |none=>20
 |some x=>if x.kind=2 then 22 else if x.closed then 27 else if 1099511627776<aF then 1 else 0
def dY(T:aA)(id aF:Int):Int×aA:=(uD T id aF,if uD T id aF=0 then gY (bC id (fun x=>{x with closed:=true,aF:=aF}) T) id else T)
def wS(T:aA)(id aF:Int):Int:=match aj id T with
 |none=>20
 |some x=>if x.kind=2 then 22 else if x.closed=false then 25 else if aF<x.aF then 28 else if 1099511627776<aF then 1 else 0
def jA(T:aA)(id aF:Int):Int×aA:=(wS T id aF,if wS T id aF=0 then bC id (fun x=>{x with aF:=aF}) T else T)
def jf(T:aA)(id:Int):Int:=match aj id T with
 |none=>20
 |some x=>if x.kind=2 then 22 else if x.closed then 27 else 0
def zT(T:aA)(id:Int):aA:=bP id (T.map fun q=>(q.1,{q.2 with names:=q.2.names.filter fun e=> !decide (e.2=id)}))
def dO(T:aA)(id:Int):Int×aA:=(jf T id,if jf T id=0 then zT T id else T)
def oV(p to:List Nm):Int:=if bH p≠0 then bH p else bH to
def xC(T:aA)(id:Int):Int:=match aj id T with|some x=>x.links|none=>0
def wT(T:aA)(p to:List Nm):Int:=
 if oV p to≠0 then oV p to else
 if (aG T 0 p).2≠0 then(aG T 0 p).2 else
 if bI T (aG T 0 p).1=2 then 22 else
 if (aH T to).2.2≠0 then(aH T to).2.2 else
 if (aj (aH T to).2.1 (aU T (aH T to).1)).isSome then 21 else
 if 64≤xC T (aG T 0 p).1 then 4 else 0
def GY(T:aA)(p to:List Nm):aA:=bC (aG T 0 p).1 (fun x=>{x with links:=x.links+1}) (setName T (aH T to).1 (aH T to).2.1 (aG T 0 p).1)
def kW(T:aA)(p to:List Nm):Int×aA:=(wT T p to,if wT T p to=0 then GY T p to else T)
def aY(T:aA)(p:List Nm):Int×Int:=if bH p≠0 then(0,bH p)else aG T 0 p
def jk(T:aA)(p:List Nm):Int:=
 if (aY T p).2≠0 then(aY T p).2 else if bI T (aG T 0 p).1=2 then 22 else 0
def rU(T:aA)(p:List Nm):aA:=gY (bC (aG T 0 p).1 (fun x=>{x with links:=x.links-1}) (aK T (aH T p).1 (aH T p).2.1)) (aG T 0 p).1
def bL(T:aA)(p:List Nm):Int×aA:=(jk T p,if jk T p=0 then rU T p else T)
def sQ(T:aA)(p:List Nm):Int:=
 if (aY T p).2≠0 then(aY T p).2 else if bI T (aG T 0 p).1≠2 then 23 else if (aG T 0 p).1=0 then 1 else if 0<(aU T (aG T 0 p).1).length then 24 else 0
def Cg(T:aA)(p:List Nm):aA:=bP (aG T 0 p).1 (aK T (aH T p).1 (aH T p).2.1)
def iC(T:aA)(p:List Nm):Int×aA:=(sQ T p,if sQ T p=0 then Cg T p else T)
def cn(k:Int)(x:bJ):Nat:=x.names.countP fun e=>decide (e.2=k)
def fV(T:aA)(k:Int):Nat:=(T.map fun q=>cn k q.2).sum
structure Lp(x:bJ):Prop where
 kind:x.kind=1∨x.kind=2
 file:x.kind=1→x.names=[]
 dir:x.kind=2→x.links=1∧x.closed=true∧x.b=[]∧x.aF=0
 gone:x.links=0→x.closed=false
 sorted:aI bytesBefore x.names
 good:∀e∈x.names,bT e.1=true
 size:x.b.length≤4096
 links:0≤x.links∧x.links≤64
 aF:0≤x.aF∧x.aF≤1099511627776
structure wP(T:aA):Prop where
 sorted:aI iA T
 root:bI T 0=2
 each:∀k x,aj k T=some x→Lp x
 leads:∀k x,aj k T=some x→∀e∈x.names,(aj e.2 T).isSome=true∧e.2≠0
 len:T.length≤64
 ids:∀k x,aj k T=some x→0≤k∧k≤65535
structure dZ(T:aA):Prop extends wP T where
 counts:∀k x,aj k T=some x→k≠0→(fV T k:Int)=x.links
structure Lr(x:bJ):Prop where
 kind:x.kind=1∨x.kind=2
 file:x.kind=1→x.names=[]
 dir:x.kind=2→x.links=1∧x.closed=true∧x.b=[]∧x.aF=0
 gone:x.links=0→x.closed=false
 sorted:aI bytesBefore x.names
 good:∀e∈x.names,bT e.1=true
 size:x.b.length≤4096
 links:0≤x.links∧x.links≤65535
 aF:0≤x.aF∧x.aF≤1099511627776
structure CV(T:aA):Prop where
 sorted:aI iA T
 root:bI T 0=2
 each:∀k x,aj k T=some x→Lr x
 leads:∀k x,aj k T=some x→∀e∈x.names,(aj e.2 T).isSome=true∧e.2≠0
 len:T.length≤64
 ids:∀k x,aj k T=some x→0≤k∧k≤65535
structure OkW(T:aA):Prop extends CV T where
 counts:∀k x,aj k T=some x→k≠0→(fV T k:Int)=x.links
theorem Lp.w{x:bJ}(h:Lp x):Lr x:=⟨h.kind,h.file,h.dir,h.gone,h.sorted,h.good,h.size,⟨h.links.1,by have:=h.links.2;omega⟩,h.aF⟩
theorem wP.w{T:aA}(h:wP T):CV T:=⟨h.sorted,h.root,fun k x hx=>(h.each k x hx).w,h.leads,h.len,h.ids⟩
theorem dZ.w{T:aA}(h:dZ T):OkW T:=⟨h.towP.w,h.counts⟩
instance{T:aA}:Coe (wP T) (CV T):=⟨wP.w⟩
theorem wP.of_w{T:aA}(h:CV T)(hl:∀k x,aj k T=some x→x.links≤64):wP T:=
 ⟨h.sorted,h.root,fun k x hx=>have o:=h.each k x hx;⟨o.kind,o.file,o.dir,o.gone,o.sorted,o.good,o.size,⟨o.links.1,hl k x hx⟩,o.aF⟩,h.leads,h.len,h.ids⟩
instance{x:bJ}:Coe (Lp x) (Lr x):=⟨Lp.w⟩
instance{T:aA}:Coe (dZ T) (OkW T):=⟨dZ.w⟩
theorem gJ{T:aA}{id:Int}(h:bI T id=2):∃x,aj id T=some x∧x.kind=2:=by
 unfold bI at h;cases hg:aj id T with
 |none=>rw[hg]at h;cases h
 |some x=>rw[hg]at h;exact⟨x,rfl,h⟩
theorem gq{T:aA}(hT:OkW T):∀(p:List Nm) (id:Int),(aj id T).isSome=true→(aG T id p).2=0→(aj (aG T id p).1 T).isSome=true
 |[],id,h,_=>h
 |n::r,id,h,he=>by
  obtain⟨x,hx⟩:=aaf.1 h;simp only[aG,hx]at he⊢;split at he
  ·rename_i hk;rw[if_pos hk];cases hn:aj n x.names with
   |none=>rw[hn]at he;cases he
   |some k=>
    rw[hn]at he;exact gq hT r k (hT.leads _ _ hx _ (bM hn)).1 he
  ·cases he
theorem fD{T:aA}(hT:OkW T):(aj 0 T).isSome=true:=by
 obtain⟨x,h,_⟩:=gJ hT.root;simp[h]
def bK:zS Tryz.prog 3 Int where
 lit x:= .int .i64 x
 val x:= .int .i64 x
 ok x:=(Lit.int .i64 x).wf=true
 lt a b:=decide (a<b)
 law:=Go.Maps.int_keyed aaX
 of x h:=Go.Maps.keyOf_int_mk aaX h
 inv v kl h:=by
  obtain⟨x,e1,e2,e3⟩:=Go.Maps.keyOf_int_inv aaX h;exact⟨x,e1,e2,e3⟩
 same a b:=by simp[Lit.sameKey]
 before a b:=by simp[Lit.before]
 isKey a:=by exact trivial
theorem intLt:oF (fun a b:Int=>decide (a<b)):=⟨fun a=>by simp,fun a b c h1 h2=>by simp at*;omega,fun a b h=>by simp;omega⟩
inductive Own where
 |none
 |head
 |items
 |item (k:Int)
 |names (k:Int)
abbrev ptr(b:Nat):Value:= .pointer (some ⟨b,0,none⟩)
def fu(x:bJ)(nb:Nat):Value:=if x.kind=2 then .map (some nb)else .map none
def ji(k:Int)(x:bJ)(a:Option Addr)(c nb:Nat):Array Value:=
 #[.int .i64 k,.int .i64 x.kind,.int .i64 x.links,.int .i64 x.b.length,.int .u64 x.aF,.bool x.closed,.slice a x.b.length c,fu x nb]
def fA(x:bJ):List (Nm×Value):=x.names.map fun e=>(e.1,.int .i64 e.2)
def ny(n c:Nat):Prop:=n≤c∧c≤maxLen
structure jD(D:Nat→Prop)(w:World)(k:Int)(ib nb:Nat)(x:bJ):Prop where
 cells:∃a c,w.heap[ib]? =some (.cells (ji k x a c nb) 138 (0,0))∧ny x.b.length c∧ah D w a x.b.length (x.b.map bv)
 names:x.kind=2→MapAt iq w nb (fA x)
structure aP(g:Nat→Own)(D:Nat→Prop)(w:World)(p mb:Nat)(ib nb:Int→Nat)(T:aA):Prop where
 head:w.heap[p]? =some (.cells #[.map (some mb)] 106 (0,0))
 map:MapAt bK w mb (T.map fun q=>(q.1,ptr (ib q.1)))
 item:∀k x,aj k T=some x→jD D w k (ib k) (nb k) x
 qO:g p= .head
 jQ:g mb= .items
 qg:∀k x,aj k T=some x→g (ib k)= .item k
 nG:∀k x,aj k T=some x→x.kind=2→g (nb k)= .names k
 data:∀b,D b→g b= .none
 low:∀b,g b≠ .none→b<w.heap.size
 o_:∀b,D b→b<w.heap.size
theorem jD.move{D D':Nat→Prop}{w w':World}{k:Int}{ib nb:Nat}{x:bJ}(h:jD D w k ib nb x)(hs:w.heap.size≤w'.heap.size)(hi:w'.heap[ib]? =w.heap[ib]?)(hn:x.kind=2→w'.heap[nb]? =w.heap[nb]?)(hD:∀b,D b→b<w.heap.size→D' b∧w'.heap[b]? =w.heap[b]?):jD D' w' k ib nb x:=by
 obtain⟨⟨a,c,h1,h2,h3⟩,h4⟩:=h;exact⟨⟨a,c,hi.trans h1,h2,h3.move hs hD⟩,fun hk=>(h4 hk).kept (hn hk)⟩
theorem aP.keeps{g:Nat→Own}{D fp:Nat→Prop}{w w':World}{p mb:Nat}{ib nb:Int→Nat}{T:aA}(h:aP g D w p mb ib nb T)(hK:Keeps fp w w')(hn:∀b,g b≠ .none∨D b→¬fp b):aP g D w' p mb ib nb T:=by
 have hb:∀b,g b≠ .none→w'.heap[b]? =w.heap[b]? :=fun b hb=>hK.block b (h.low b hb) (hn b (.inl hb))
 refine⟨(hb p (by rw[h.qO];simp)).trans h.head,h.map.kept (hb mb (by rw[h.jQ];simp)),fun k x hx=>(h.item k x hx).move hK.size (hb _ (by rw[h.qg k x hx];simp)) (fun hk=>hb _ (by rw[h.nG k x hx hk];simp)) fun b hb hbw=>⟨hb,hK.block b hbw (hn b (.inr hb))⟩,
  h.qO,h.jQ,h.qg,h.nG,h.data,fun b hb=>Nat.lt_of_lt_of_le (h.low b hb) hK.size,fun b hb=>Nat.lt_of_lt_of_le (h.o_ b hb) hK.size⟩
theorem aP.below{g:Nat→Own}{D:Nat→Prop}{w w':World}{B p mb:Nat}{ib nb:Int→Nat}{T:aA}(h:aP g D w p mb ib nb T)(hb:Below B w w')(hB:w.heap.size≤B):aP g D w' p mb ib nb T:=
 h.keeps (fp:=fun x=>B≤x) (Keeps.below hb) fun b hx hf=>by
  rcases hx with hx|hx
  ·have:=h.low b hx;omega
  ·have:=h.o_ b hx;omega
theorem aP.bC{g:Nat→Own}{D D':Nat→Prop}{w w':World}{p mb:Nat}{ib nb:Int→Nat}{T:aA}(h:aP g D w p mb ib nb T){k:Int}{x:bJ}{f:bJ→bJ}(hx:aj k T=some x)(Zp:(f x).kind=x.kind)
  (hD:∀b,D b→D' b)(hD':∀b,D' b→g b= .none∧b<w'.heap.size)(hsz:w.heap.size≤w'.heap.size)(hb:∀b,b<w.heap.size→g b≠ .item k→g b≠ .names k→w'.heap[b]? =w.heap[b]?)(hi:jD D' w' k (ib k) (nb k) (f x)):
  aP g D' w' p mb ib nb (bC k f T):=by
 refine⟨(hb p (h.low p (by rw[h.qO];simp)) (by rw[h.qO];simp) (by rw[h.qO];simp)).trans h.head,?_,?_,h.qO,h.jQ,?_,?_,fun b hb=>(hD' b hb).1,fun b hb=>Nat.lt_of_lt_of_le (h.low b hb) hsz,fun b hb=>(hD' b hb).2⟩
 ·have:=h.map.kept (hb mb (h.low mb (by rw[h.jQ];simp)) (by rw[h.jQ];simp) (by rw[h.jQ];simp));rw[PN k f T (fun j=>ptr (ib j))];exact this
 ·intro j y hy;rw[bf]at hy;by_cases hj:j=k
  ·subst hj;rw[if_pos rfl,hx]at hy;simp only[aao,Pd]at hy;subst hy;exact hi
  ·rw[if_neg hj]at hy;refine(h.item j y hy).move hsz (hb _ (h.low _ (by rw[h.qg j y hy];simp)) (by rw[h.qg j y hy];simpa using hj) (by rw[h.qg j y hy];simp)) (fun hk=>hb _ (h.low _ (by rw[h.nG j y hy hk];simp)) (by rw[h.nG j y hy hk];simp) (by rw[h.nG j y hy hk];simpa using hj)) ?_;intro b vk hbw;refine⟨hD b vk,hb b hbw ?_ ?_⟩<;>rw[h.data b vk]<;>simp
 ·intro j y hy;rw[bf]at hy;by_cases hj:j=k
  ·subst hj;exact h.qg j x hx
  ·rw[if_neg hj]at hy;exact h.qg j y hy
 ·intro j y hy hk;rw[bf]at hy;by_cases hj:j=k
  ·subst hj;rw[if_pos rfl,hx]at hy;simp only[aao,Pd]at hy;subst hy;exact h.nG j x hx (Zp▸hk)
  ·rw[if_neg hj]at hy;exact h.nG j y hy hk
theorem FC{κ α β:Type}(lt:κ→κ→Bool)(f:κ→α→β)(x:κ×α):∀l:List (κ×α),(jg lt x l).map (fun p=>(p.1,f p.1 p.2))=jg lt (x.1,f x.1 x.2) (l.map fun p=>(p.1,f p.1 p.2))
 |[]=>rfl
 |y::r=>by
  unfold jg;simp only[List.map_cons];split<;>simp[FC lt f x r]
theorem zU{κ α β:Type}[DecidableEq κ](f:κ→α→β)(k:κ)(l:List (κ×α)):(bP k l).map (fun p=>(p.1,f p.1 p.2))=bP k (l.map fun p=>(p.1,f p.1 p.2)):=by
 simp[bP,abH,Function.comp_def]
theorem wh{κ α β:Type}[DecidableEq κ](lt:κ→κ→Bool)(f:κ→α→β)(k:κ)(v:α)(l:List (κ×α)):(b_ lt k v l).map (fun p=>(p.1,f p.1 p.2))=b_ lt k (f k v) (l.map fun p=>(p.1,f p.1 p.2)):=by
 simp only[b_,FC,zU]
theorem eO{κ α:Type}[DecidableEq κ](lt:κ→κ→Bool)(k j:κ)(v:α)(l:List (κ×α)):aj j (b_ lt k v l)=if j=k then some v else aj j l:=by
 by_cases h:j=k
 ·subst h;rw[if_pos rfl,CQ]
 ·rw[if_neg h,BI lt h]
theorem eP{κ α:Type}[DecidableEq κ](k j:κ)(l:List (κ×α)):aj j (bP k l)=if j=k then none else aj j l:=by
 by_cases h:j=k
 ·subst h;rw[if_pos rfl,pY]
 ·rw[if_neg h,oC h]
theorem aP.add{g:Nat→Own}{D:Nat→Prop}{w w':World}{p mb:Nat}{ib nb:Int→Nat}{T:aA}(h:aP g D w p mb ib nb T){k:Int}{x:bJ}{i n:Nat}(hi0:w.heap.size≤i)(hn0:w.heap.size≤n)(hin:i≠n)(hiw:i<w'.heap.size)(hnw:x.kind=2→n<w'.heap.size)(hx0:aj k T=none)(hxb:x.b=[])
  (hm:MapAt bK w' mb (b_ iA k (ptr i) (T.map fun q=>(q.1,ptr (ib q.1)))))(hsz:w.heap.size≤w'.heap.size)(hb:∀b,b<w.heap.size→b≠mb→w'.heap[b]? =w.heap[b]?)(hi:jD (fun _=>False) w' k i n x):
  aP (fun b=>if b=i then .item k else if b=n∧x.kind=2 then .names k else g b) D w' p mb (fun j=>if j=k then i else ib j) (fun j=>if j=k then n else nb j) (b_ iA k x T):=by
 have hgl:∀b,g b≠ .none→b≠i∧b≠n:=fun b hb=>by have:=h.low b hb;omega
 have hgg:∀b,g b≠ .none→(if b=i then Own.item k else if b=n∧x.kind=2 then .names k else g b)=g b:=fun b hb=>by
  obtain⟨h1,h2⟩:=hgl b hb;rw[if_neg h1,if_neg (fun h=>h2 h.1)]
 have hp:g p≠ .none:=by rw[h.qO];simp
 have hmm:g mb≠ .none:=by rw[h.jQ];simp
 refine⟨(hb p (h.low p hp) (fun e=>by have:=h.qO;rw[e,h.jQ]at this;cases this)).trans h.head,?_,?_,(hgg p hp).trans h.qO,(hgg mb hmm).trans h.jQ,?_,?_,?_,?_,fun b hb=>Nat.lt_of_lt_of_le (h.o_ b hb) hsz⟩
 ·have e1:(b_ iA k x T).map (fun q=>(q.1,ptr ((fun j=>if j=k then i else ib j) q.1)))=b_ iA k (ptr i) (T.map fun q=>(q.1,ptr (ib q.1))):=by
   rw[wh iA (fun j _=>ptr ((fun j=>if j=k then i else ib j) j))];simp only[if_pos];congr 1;apply aaz;intro q hq;have:q.1≠k:=iP.1 hx0 q hq;rw[if_neg this]
  rw[e1];exact hm
 ·intro j y hy;rw[eO]at hy;by_cases hj:j=k
  ·subst hj;rw[if_pos rfl]at hy;cases hy;simp only[if_pos];refine hi.move acu rfl (fun _=>rfl) (fun b hb=>hb.elim)
  ·rw[if_neg hj]at hy;simp only[if_neg hj];have t1:=h.qg j y hy;refine(h.item j y hy).move hsz (hb _ (h.low _ (by rw[t1];simp)) (fun e=>by rw[e,h.jQ]at t1;cases t1)) (fun hk=>hb _ (h.low _ (by rw[h.nG j y hy hk];simp)) (fun e=>by have t2:=h.nG j y hy hk;rw[e,h.jQ]at t2;cases t2)) ?_;intro b vk hbw;exact⟨vk,hb b hbw (fun e=>by have:=h.data b vk;rw[e,h.jQ]at this;cases this)⟩
 ·intro j y hy;rw[eO]at hy;by_cases hj:j=k
  ·subst hj;simp
  ·rw[if_neg hj]at hy;have t1:=h.qg j y hy;simp only[if_neg hj];rw[hgg _ (by rw[t1];simp)];exact t1
 ·intro j y hy hk;rw[eO]at hy;by_cases hj:j=k
  ·subst hj;rw[if_pos rfl]at hy;cases hy;simp only[if_pos];rw[if_neg (aaT hin),if_pos ⟨trivial,hk⟩]
  ·rw[if_neg hj]at hy;have t1:=h.nG j y hy hk;simp only[if_neg hj];rw[hgg _ (by rw[t1];simp)];exact t1
 ·intro b vk;have:=h.o_ b vk;rw[if_neg (by omega),if_neg (by omega)];exact h.data b vk
 ·intro b hbn;by_cases h1:b=i
  ·omega
  ·by_cases h2:b=n∧x.kind=2
   ·have:=hnw h2.2;omega
   ·simp only[if_neg h1,if_neg h2]at hbn;exact Nat.lt_of_lt_of_le (h.low b hbn) hsz
theorem aP.del{g:Nat→Own}{D:Nat→Prop}{w w':World}{p mb:Nat}{ib nb:Int→Nat}{T:aA}(h:aP g D w p mb ib nb T){k:Int}
  (hm:MapAt bK w' mb (bP k (T.map fun q=>(q.1,ptr (ib q.1)))))(hsz:w.heap.size≤w'.heap.size)(hb:∀b,b<w.heap.size→b≠mb→w'.heap[b]? =w.heap[b]?):aP g D w' p mb ib nb (bP k T):=by
 have hp:g p≠ .none:=by rw[h.qO];simp
 have hget:∀j y,aj j (bP k T)=some y→aj j T=some y:=fun j y hy=>by
  rw[eP]at hy;split at hy
  ·cases hy
  ·exact hy
 refine⟨(hb p (h.low p hp) (fun e=>by have:=h.qO;rw[e,h.jQ]at this;cases this)).trans h.head,?_,?_,h.qO,h.jQ,fun j y hy=>h.qg j y (hget j y hy),fun j y hy=>h.nG j y (hget j y hy),h.data,fun b hb=>Nat.lt_of_lt_of_le (h.low b hb) hsz,fun b hb=>Nat.lt_of_lt_of_le (h.o_ b hb) hsz⟩
 ·rw[zU (fun j _=>ptr (ib j))];exact hm
 ·intro j y hy';have hy:=hget j y hy';have t1:=h.qg j y hy;refine(h.item j y hy).move hsz (hb _ (h.low _ (by rw[t1];simp)) (fun e=>by rw[e,h.jQ]at t1;cases t1)) (fun hk=>hb _ (h.low _ (by rw[h.nG j y hy hk];simp)) (fun e=>by have t2:=h.nG j y hy hk;rw[e,h.jQ]at t2;cases t2)) ?_;intro b vk hbw;exact⟨vk,hb b hbw (fun e=>by have:=h.data b vk;rw[e,h.jQ]at this;cases this)⟩
theorem zV{κ α β:Type}[DecidableEq κ](f:κ→α→β)(k:κ)(l:List (κ×α)):aj k (l.map fun p=>(p.1,f p.1 p.2))=(aj k l).map (f k):=by
 induction l with
 |nil=>rfl
 |cons y r ih=>
  rw[List.map_cons,fF,fF,ih];by_cases h:y.1=k
  ·subst h;simp
  ·simp[h]
theorem eX(ib:Int→Nat)(T:aA)(k:Int):aj k (T.map fun q=>(q.1,ptr (ib q.1)))=(aj k T).map fun _=>ptr (ib k):=zV (fun j (_:bJ)=>ptr (ib j)) k T
theorem lJ(x:bJ)(n:Nm):aj n (fA x)=(aj n x.names).map fun i=>(.int .i64 i:Value):=zV (fun(_:Nm) (i:Int)=>Value.int .i64 i) n x.names
theorem jD.cell{D:Nat→Prop}{w:World}{k:Int}{ib nb:Nat}{x:bJ}(h:jD D w k ib nb x):
  w.cell? ⟨ib,0,none⟩=some (.int .i64 k)∧w.cell? ⟨ib,1,none⟩=some (.int .i64 x.kind)∧w.cell? ⟨ib,2,none⟩=some (.int .i64 x.links)∧w.cell? ⟨ib,3,none⟩=some (.int .i64 x.b.length)∧w.cell? ⟨ib,4,none⟩=some (.int .u64 x.aF)∧w.cell? ⟨ib,5,none⟩=some (.bool x.closed)∧w.cell? ⟨ib,7,none⟩=some (fu x nb)∧ib<w.heap.size:=by
 obtain⟨⟨a,c,h1,_⟩,_⟩:=h;have:=(iL.1 h1).1;refine⟨?_,?_,?_,?_,?_,?_,?_,this⟩<;>(simp only[World.cell?,h1];rfl)
theorem aP.cell{g:Nat→Own}{D:Nat→Prop}{w:World}{p mb:Nat}{ib nb:Int→Nat}{T:aA}(h:aP g D w p mb ib nb T):w.cell? ⟨p,0,none⟩=some (.map (some mb))∧p<w.heap.size∧mb<w.heap.size:=by
 have:=(iL.1 h.head).1;exact⟨by simp[World.cell?,h.head],this,h.map.lt⟩
theorem bY:oF iA:=intLt
theorem nH{T:aA}(hs:aI iA T){d:Int}{x:bJ}(f:bJ→bJ)(hx:aj d T=some x)(k:Int):fV (bC d f T) k+cn k x=fV T k+cn k (f x):=by
 induction T with
 |nil=>cases hx
 |cons y r ih=>
  have hp:=hs.apart bY;obtain⟨h1,h2⟩:=aal.1 hp;rw[fF]at hx;by_cases hy:y.1=d
  ·rw[if_pos hy]at hx;cases hx;have hr:bC d f r=r:=by
    unfold bC
    conv=>rhs;rw[←List.map_id r]
    apply aaz;intro q hq;have:=h1 q hq;rw[if_neg (fun e=>this (hy.trans e.symm))];rfl
   have e:bC d f (y::r)=(y.1,f y.2)::r:=by
    have:bC d f (y::r)=(if y.1=d then(y.1,f y.2)else y)::bC d f r:=rfl;rw[this,hr,if_pos hy]
   rw[e];simp[fV];omega
  ·rw[if_neg hy]at hx;have:=ih (aal.1 hs).2 hx;have e:bC d f (y::r)=y::bC d f r:=by
    have:bC d f (y::r)=(if y.1=d then(y.1,f y.2)else y)::bC d f r:=rfl;rw[this,if_neg hy]
   rw[e];simp[fV]at this⊢;omega
theorem FD(x:Int×bJ):∀(T:aA) (k:Int),fV (jg iA x T) k=fV T k+cn k x.2
 |[],k=>by simp[jg,fV]
 |y::r,k=>by
  unfold jg;split
  ·simp[fV];omega
  ·have:=FD x r k;simp[fV]at this⊢;omega
theorem zW{T:aA}(hs:aI iA T){d:Int}{x:bJ}(hx:aj d T=some x)(k:Int):fV (bP d T) k+cn k x=fV T k:=by
 induction T with
 |nil=>cases hx
 |cons y r ih=>
  have hp:=hs.apart bY;obtain⟨h1,h2⟩:=aal.1 hp;rw[fF]at hx;by_cases hy:y.1=d
  ·rw[if_pos hy]at hx;cases hx;have hr:bP d r=r:=by
    unfold bP;rw[aa0];intro q hq;have:=h1 q hq;simp only[Bool.not_eq_true',aa8];exact fun e=>this (hy.trans e.symm)
   have e:bP d (y::r)=r:=by
    have:bP d (y::r)=if (!decide (y.1=d))=true then y::bP d r else bP d r:=by simp[bP,List.filter_cons]
    rw[this,hr];simp[hy]
   rw[e];simp[fV];omega
  ·rw[if_neg hy]at hx;have:=ih (aal.1 hs).2 hx;have e:bP d (y::r)=y::bP d r:=by
    have:bP d (y::r)=if (!decide (y.1=d))=true then y::bP d r else bP d r:=by simp[bP,List.filter_cons]
    rw[this];simp[hy]
   rw[e];simp[fV]at this⊢;omega
theorem Zq{T:aA}{k j:Int}{x:bJ}(hx:aj j T=some x):cn k x≤fV T k:=by
 have hm:=bM hx;have:∀(l:aA),(j,x)∈l→cn k x≤(l.map fun q=>cn k q.2).sum:=by
  intro l
  induction l with
  |nil=>simp
  |cons y r ih=>
   intro h;simp only[List.map_cons,List.sum_cons];rcases aan.1 h with rfl|h
   ·exact Nat.le_add_right _ _
   ·have:=ih h;omega
 exact this T hm
theorem Ch{T:aA}{k:Int}(h:fV T k=0){j:Int}{x:bJ}(hx:aj j T=some x):∀e∈x.names,e.2≠k:=by
 have h1:cn k x=0:=by have:=Zq (k:=k) hx;omega
 unfold cn at h1;rw[abU]at h1;intro e he;have:=h1 e he;simpa using this
theorem wP.bC{T:aA}(h:wP T){k:Int}{x:bJ}{f:bJ→bJ}(hx:aj k T=some x)(h1:Lp (f x))(hk:(f x).kind=x.kind)(hn:∀e∈(f x).names,(aj e.2 T).isSome=true∧e.2≠0):wP (Go.Proofs.YtjnhnlabpccgjaaGreatDoor.bC k f T):=by
 have hget:∀j y,aj j (Go.Proofs.YtjnhnlabpccgjaaGreatDoor.bC k f T)=some y→(j=k∧y=f x)∨(j≠k∧aj j T=some y):=fun j y hy=>by
  rw[bf]at hy;by_cases hj:j=k
  ·subst hj;rw[if_pos rfl,hx]at hy;simp only[aao,Pd]at hy;exact .inl ⟨rfl,hy.symm⟩
  ·rw[if_neg hj]at hy;exact .inr ⟨hj,hy⟩
 have hsome:∀j,(aj j T).isSome=true→(aj j (Go.Proofs.YtjnhnlabpccgjaaGreatDoor.bC k f T)).isSome=true:=fun j hj=>by
  rw[bf];split<;>simp[hj]
 refine⟨lV k f h.sorted,?_,fun j y hy=> ?_,fun j y hy e he=> ?_,by rw[iK];exact h.len,fun j y hy=> ?_⟩
 ·have hr:=h.root;unfold bI at hr⊢;rw[bf];by_cases h0:(0:Int)=k
  ·subst h0;rw[if_pos rfl,hx];rw[hx]at hr;exact hk.trans hr
  ·rw[if_neg h0];exact hr
 ·rcases hget j y hy with⟨rfl,rfl⟩|⟨_,hy⟩
  ·exact h1
  ·exact h.each j y hy
 ·rcases hget j y hy with⟨rfl,rfl⟩|⟨_,hy⟩
  ·exact⟨hsome _ (hn e he).1,(hn e he).2⟩
  ·exact⟨hsome _ (h.leads j y hy e he).1,(h.leads j y hy e he).2⟩
 ·rcases hget j y hy with⟨rfl,rfl⟩|⟨_,hy⟩
  ·exact h.ids j x hx
  ·exact h.ids j y hy
theorem dZ.bC{T:aA}(h:dZ T){k:Int}{x:bJ}{f:bJ→bJ}(hx:aj k T=some x)(h1:Lp (f x))(hk:(f x).kind=x.kind)(hn:∀e∈(f x).names,(aj e.2 T).isSome=true∧e.2≠0)
  (hc:∀j y,aj j (Go.Proofs.YtjnhnlabpccgjaaGreatDoor.bC k f T)=some y→j≠0→(fV (Go.Proofs.YtjnhnlabpccgjaaGreatDoor.bC k f T) j:Int)=y.links):dZ (Go.Proofs.YtjnhnlabpccgjaaGreatDoor.bC k f T):=⟨h.towP.bC hx h1 hk hn,hc⟩
theorem dZ.zX{T:aA}(h:dZ T){k:Int}{x:bJ}{f:bJ→bJ}(hx:aj k T=some x)(h1:Lp (f x))(hk:(f x).kind=x.kind)(hn:(f x).names=x.names)(hl:(f x).links=x.links):dZ (Go.Proofs.YtjnhnlabpccgjaaGreatDoor.bC k f T):=by
 refine h.bC hx h1 hk (by rw[hn];exact h.leads k x hx) fun j y hy hj=> ?_;have hcn:cn j (f x)=cn j x:=by unfold cn;rw[hn]
 have:=nH h.sorted f hx j;rw[hcn]at this;have e:fV (Go.Proofs.YtjnhnlabpccgjaaGreatDoor.bC k f T) j=fV T j:=by omega
 rw[e];rw[bf]at hy;by_cases hjk:j=k
 ·subst hjk;rw[if_pos rfl,hx]at hy;simp only[aao,Pd]at hy;rw[←hy,hl];exact h.counts j x hx hj
 ·rw[if_neg hjk]at hy;exact h.counts j y hy hj
theorem Td:∀(m:Nat) (T:aA),aI iA T→(∀i:Nat,1≤i→i≤m→(aj (i:Int) T).isSome=true)→m≤T.length
 |0,_,_,_=>Nat.zero_le _
 |m+1,T,hs,h=>by
  obtain⟨x,hx⟩:=aaf.1 (h (m+1) (by omega) (by omega));have h1:=u_ bY hs hx;have h2:=Td m (bP ((m+1:Nat):Int) T) (hs.bP _) (fun i hi him=>by
   rw[eP,if_neg (by omega)];exact h i hi (by omega))
  omega
theorem Ls{T:aA}(hs:aI iA T):∃f:Nat,CU T=f∧1≤f∧f≤T.length+1∧aj (f:Int) T=none∧∀i:Nat,1≤i→i<f→(aj (i:Int) T).isSome=true:=by
 unfold CU;cases hf:(((List.range (T.length+1)).map fun n:Nat=>(n:Int)+1).find? fun n=>(aj n T).isNone)with
 |none=>
  exfalso;have h1:=abD.1 hf;have:=Td (T.length+1) T hs (fun i hi him=>by
   have:=h1 (i:Int) (List.mem_map.2 ⟨i-1,by simp;omega,by omega⟩);cases hq:aj (i:Int) T with
   |none=>rw[hq]at this;simp at this
   |some v=>rfl)
  omega
 |some n=>
  rw[List.find?_eq_some_iff_append]at hf;obtain⟨hn,xs,ys,hab,hpre⟩:=hf;have hl:(xs++n::ys).length=T.length+1:=by rw[←hab];simp
  have hidx:∀i (hi:i<xs.length+1),(xs++n::ys)[i]? =some ((i:Int)+1):=fun i hi=>by
   rw[←hab];simp only[List.length_append,List.length_cons]at hl;simp[List.getElem?_range (show i<T.length+1 by omega)]
  have hne:n=(xs.length:Int)+1:=by
   have:=hidx xs.length (by omega);simpa using this
  simp only[List.length_append,List.length_cons]at hl;refine⟨xs.length+1,by simp[hne],by omega,by omega,?_,fun i hi hif=> ?_⟩
  ·have:((xs.length+1:Nat):Int)=n:=by omega
   rw[this];simpa using hn
  ·have h2:=hidx (i-1) (by omega);rw[aaN (by omega)]at h2;have h3:=hpre _ (aat h2);have e:((i-1:Nat):Int)+1=i:=by omega
   rw[e]at h3;cases hq:aj (i:Int) T with
   |none=>rw[hq]at h3;simp at h3
   |some v=>rfl
theorem dZ.free{T:aA}(h:dZ T):∃f:Nat,CU T=f∧1≤f∧f≤T.length+1∧aj (f:Int) T=none∧∀i:Nat,1≤i→i<f→(aj (i:Int) T).isSome=true:=Ls h.sorted
theorem Ba{α:Type}{l:List (Int×α)}{k:Int}(v:α)(h:aj k l=none):(b_ iA k v l).length=l.length+1:=by
 unfold b_;rw[uY,kL h]
theorem Lu{α:Type}(t:α→Int)(m:Nat):∀(ks:List Int) (E:List α),(∀e∈E,t e∈ks)→(∀k∈ks,E.countP (fun e=>decide (t e=k))≤m)→E.length≤m*ks.length
 |[],E,h,_=>by
  cases E with
  |nil=>simp
  |cons e r=>have:=h e (by simp);simp at this
 |k::ks,E,h,hc=>by
  have h1:=Lu t m ks (E.filter fun e=> !decide (t e=k)) (fun e he=>by
   obtain⟨h1,h2⟩:=aar.1 he;rcases aan.1 (h e h1)with h3|h3
   ·simp[h3]at h2
   ·exact h3) (fun j hj=>by
    rw[List.countP_filter];refine aax (List.countP_mono_left fun e _ he=> ?_) (hc j (by simp[hj]));simp at he⊢;exact he.1)
  have h2:=hc k (by simp);have h3:E.length=E.countP (fun e=>decide (t e=k))+(E.filter fun e=> !decide (t e=k)).length:=by
   rw[←List.countP_eq_length_filter];exact(List.length_eq_countP_add_countP (fun e=>decide (t e=k))).trans (by
    have:List.countP (fun a=>decide (¬decide (t a=k)=true)) E=List.countP (fun e=> !decide (t e=k)) E:=List.countP_congr (fun e _=>by simp);rw[this])
  rw[List.length_cons,Nat.mul_succ];omega
theorem dZ.few{T:aA}(h:dZ T){k:Int}{x:bJ}(hx:aj k T=some x):x.names.length≤4096:=by
 have h1:=Lu (fun e:Nm×Int=>e.2) 64 (T.map (·.1)) x.names (fun e he=>by
  obtain⟨y,hy⟩:=aaf.1 (h.leads k x hx e he).1;exact List.mem_map.2 ⟨_,bM hy,rfl⟩) (fun j hj=>by
   by_cases h0:j=0
   ·subst h0;have:x.names.countP (fun e=>decide (e.2=0))=0:=by
     rw[abU];intro e he;have:=(h.leads k x hx e he).2;simpa using this
    omega
   ·obtain⟨q,hq,rfl⟩:=List.mem_map.1 hj;have hy:=aS bY h.sorted hq;have h2:=h.counts _ _ hy h0;have h3:=(h.each _ _ hy).links;have h4:=Zq (k:=q.1) hx;unfold cn at h4;omega)
 have:=h.len;rw[List.length_map]at h1;omega
theorem vo{T:aA}(hs:aI iA T){k j:Int}{x y:bJ}(h:aj j (b_ iA k x T)=some y):(j=k∧y=x)∨(j≠k∧aj j T=some y):=by
 rw[eO]at h;by_cases hj:j=k
 ·rw[if_pos hj]at h;exact .inl ⟨hj,by simpa using h.symm⟩
 ·rw[if_neg hj]at h;exact .inr ⟨hj,h⟩
theorem FE{kind:Int}(hk:kind=1∨kind=2):Lp (cu kind):=by
 refine⟨hk,fun _=>rfl,fun h=>⟨rfl,?_,rfl,rfl⟩,(fun h=>by cases h),by simp[cu,aI],by simp[cu],by simp[cu],by simp[cu],by simp[cu]⟩;have:kind=2:=h;simp[cu,this]
theorem wP.add{T:aA}(h:wP T){f:Int}{kind:Int}(hk:kind=1∨kind=2)(hf:aj f T=none)(h1:0≤f)(h2:f≤65535)(hl:T.length<64):wP (b_ iA f (cu kind) T):=by
 refine⟨h.sorted.b_ bY _ _,?_,fun j y hy=> ?_,fun j y hy e he=> ?_,by rw[Ba _ hf];omega,fun j y hy=> ?_⟩
 ·obtain⟨x,hx,hk0⟩:=gJ h.root;unfold bI;rw[eO,if_neg (fun e=>by rw[e,hf]at hx;cases hx),hx];exact hk0
 ·rcases vo h.sorted hy with⟨rfl,rfl⟩|⟨_,hy⟩
  ·exact FE hk
  ·exact h.each j y hy
 ·rcases vo h.sorted hy with⟨rfl,rfl⟩|⟨_,hy⟩
  ·cases he
  ·have:=h.leads j y hy e he;refine⟨?_,this.2⟩;rw[eO];split
   ·rfl
   ·exact this.1
 ·rcases vo h.sorted hy with⟨rfl,rfl⟩|⟨_,hy⟩
  ·exact⟨h1,h2⟩
  ·exact h.ids j y hy
theorem Te{T:aA}{f kind:Int}(hf:aj f T=none)(k:Int):fV (b_ iA f (cu kind) T) k=fV T k:=by
 unfold b_;rw[kL hf,FD];simp[cn,cu]
theorem N8(n:Nm)(id k:Int):∀l:List (Nm×Int),(jg bytesBefore (n,id) l).countP (fun e=>decide (e.2=k))=l.countP (fun e=>decide (e.2=k))+if id=k then 1 else 0
 |[]=>by simp[jg,abf]
 |y::r=>by
  unfold jg;split
  ·simp[abf]
  ·simp only[abf,N8 n id k r];omega
theorem Lv{x:bJ}{n:Nm}{id:Int}(h:aj n x.names=none)(k:Int):cn k {x with names:=b_ bytesBefore n id x.names}=cn k x+if id=k then 1 else 0:=by
 unfold cn b_;simp only;rw[kL h,N8]
theorem PO{T:aA}(h:wP T){f:Int}(hf:aj f T=none):fV T f=0:=by
 have:∀l:aA,(∀q∈l,cn f q.2=0)→fV l f=0:=by
  intro l
  induction l with
  |nil=>intro _;rfl
  |cons y r ih=>
   intro hh;have h1:=ih (fun q hq=>hh q (by simp[hq]));have h2:=hh y (by simp);unfold fV at h1⊢;simp only[List.map_cons,List.sum_cons];omega
 refine this T fun q hq=> ?_;unfold cn;rw[abU];intro e he hd;have h1:=h.leads _ _ (aS bY h.sorted hq) e he;simp only[aah]at hd;rw[hd,hf]at h1;cases h1.1
theorem WY{x:bJ}(h:Lp x)(hk:x.kind=2){n:Nm}(hn:bT n=true)(id:Int):Lp {x with names:=b_ bytesBefore n id x.names}:=by
 refine⟨h.kind,fun h1=> ?_,h.dir,h.gone,h.sorted.b_ uO _ _,fun e he=> ?_,h.size,h.links,h.aF⟩
 ·have:x.kind=1:=h1;omega
 ·rcases (pX bytesBefore).1 he with h1|h1
  ·rw[h1];exact hn
  ·exact h.good e (aar.1 h1).1
theorem PS{x:bJ}{n:Nm}{id:Int}{P:Nm×Int→Prop}(h:∀e∈x.names,P e)(h1:P (n,id)):∀e∈b_ bytesBefore n id x.names,P e:=by
 intro e he;rcases (pX bytesBefore).1 he with h2|h2
 ·rw[h2];exact h1
 ·exact h e (aar.1 h2).1
theorem wP.set{T:aA}(h:wP T){d:Int}{x:bJ}{n:Nm}{id:Int}(hx:aj d T=some x)(hk:x.kind=2)(hn:bT n=true)(hid:(aj id T).isSome=true∧id≠0):wP (setName T d n id):=
 h.bC hx (WY (h.each d x hx) hk hn id) rfl (PS (h.leads d x hx) hid)
theorem dZ.make{T:aA}(h:dZ T){d kind f:Int}{x:bJ}{n:Nm}(hk:kind=1∨kind=2)(hf:aj f T=none)(h1:1≤f)(h2:f≤65535)(hl:T.length<64)(hx:aj d T=some x)(hxk:x.kind=2)(hn:bT n=true)(hnn:aj n x.names=none):
  dZ (setName (b_ iA f (cu kind) T) d n f):=by
 have hP:=h.towP.add hk hf (by omega) h2 hl;have hdf:d≠f:=fun e=>by rw[e,hf]at hx;cases hx
 have hx':aj d (b_ iA f (cu kind) T)=some x:=by rw[eO,if_neg hdf];exact hx
 have hff:aj f (b_ iA f (cu kind) T)=some (cu kind):=by rw[eO,if_pos rfl]
 refine⟨hP.set hx' hxk hn ⟨by rw[hff];rfl,by omega⟩,fun j y hy hj=> ?_⟩;have h3:=nH hP.sorted (fun x=>{x with names:=b_ bytesBefore n f x.names}) hx' j;have h4:=Lv (id:=f) hnn j;have h5:=Te (kind:=kind) hf j;have hgt:∀z,aj j (b_ iA f (cu kind) T)=some z→z.links=y.links→(fV (setName (b_ iA f (cu kind) T) d n f) j:Int)=y.links:=by
  intro z hz hzl;unfold setName;rcases vo h.sorted hz with⟨rfl,rfl⟩|⟨hjf,hz⟩
  ·have:=PO h.towP hf;rw[if_pos rfl]at h4;have e:fV (Go.Proofs.YtjnhnlabpccgjaaGreatDoor.bC d (fun x=>{x with names:=b_ bytesBefore n j x.names}) (b_ iA j (cu kind) T)) j=1:=by omega
   rw[e,←hzl];rfl
  ·rw[if_neg (aaT hjf)]at h4;have:=h.counts j z hz hj;have e:fV (Go.Proofs.YtjnhnlabpccgjaaGreatDoor.bC d (fun x=>{x with names:=b_ bytesBefore n f x.names}) (b_ iA f (cu kind) T)) j=fV T j:=by omega
   rw[e,this,hzl]
 unfold setName at hy;rw[bf]at hy;by_cases hjd:j=d
 ·subst hjd;rw[if_pos rfl,hx']at hy;simp only[aao,Pd]at hy;exact hgt x hx' (by rw[←hy])
 ·rw[if_neg hjd]at hy;exact hgt y hy rfl
end Go.Proofs.YtjnhnlabpccgjaaGreatDoor
