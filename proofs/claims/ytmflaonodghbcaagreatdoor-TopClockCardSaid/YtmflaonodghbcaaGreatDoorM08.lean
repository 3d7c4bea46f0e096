/- Plain -/
import Derived.Test.YtmflaonodghbcaaGreatDoorM07
import Derived.Lib.Split
import Derived.Lib.SplitLaws
import Derived.Lib.Join
import Derived.Test.YtmflaonodghbcaaGreatDoorM06
import Derived.Test.YtmflaonodghbcaaGreatDoorM05
set_option maxRecDepth 100000
set_option maxHeartbeats 64000000
set_option linter.all false
namespace Go.Proofs.YtmflaonodghbcaaGreatDoor
open Go
def dD:List UInt8→List (List UInt8)
 |[]=>[[]]
 |c::r=>if c=47 then[]::dD r else match dD r with|[]=>[[c]]|x::xs=>(c::x)::xs
theorem Rt(l:List UInt8):dD l≠[]:=by
 induction l with
 |nil=>simp[dD]
 |cons c r ih=>unfold dD;split<;>(try split)<;>simp
theorem lZ(c:UInt8)(r:List UInt8)(h:c≠47):∃x xs,dD r=x::xs∧dD (c::r)=(c::x)::xs:=by
 cases hr:dD r with
 |nil=>exact absurd hr (Rt r)
 |cons x xs=>exact⟨x,xs,rfl,by simp[dD,h,hr]⟩
theorem Kr(l:List UInt8)(h:∀c∈l,c≠47):dD l=[l]:=by
 induction l with
 |nil=>rfl
 |cons c r ih=>
  have h1:=ih (fun x hx=>h x (abN _ hx));simp[dD,h c (by simp),h1]
theorem Yx(l:List UInt8):∀x∈dD l,∀c∈x,c≠47:=by
 induction l with
 |nil=>intro x hx c hc;simp[dD]at hx;subst hx;cases hc
 |cons c r ih=>
  by_cases h:c=47
  ·intro x hx d hd;simp only[dD,h,if_true,aaq]at hx;rcases hx with rfl|hx
   ·cases hd
   ·exact ih x hx d hd
  ·obtain⟨y,ys,e1,e2⟩:=lZ c r h;intro x hx d hd;rw[e2]at hx;rw[e1]at ih;rcases aaq.1 hx with rfl|hx
   ·rcases aaq.1 hd with rfl|hd
    ·exact h
    ·exact ih y (by simp) d hd
   ·exact ih x (by simp[hx]) d hd
theorem Ru(l:List UInt8):∀x∈dD l,x.length≤l.length:=by
 induction l with
 |nil=>intro x hx;simp[dD]at hx;subst hx;simp
 |cons c r ih=>
  by_cases h:c=47
  ·intro x hx;simp only[dD,h,if_true,aaq]at hx;rcases hx with rfl|hx
   ·simp
   ·have:=ih x hx;simp;omega
  ·obtain⟨y,ys,e1,e2⟩:=lZ c r h;intro x hx;rw[e2]at hx;rw[e1]at ih;rcases aaq.1 hx with rfl|hx
   ·have:=ih y (by simp);simp;omega
   ·have:=ih x (by simp[hx]);simp;omega
theorem F7(l:List UInt8):(dD l).length=l.count 47+1:=by
 induction l with
 |nil=>rfl
 |cons c r ih=>
  by_cases h:c=47
  ·subst h;simp[dD,ih]
  ·obtain⟨y,ys,e1,e2⟩:=lZ c r h;rw[e2,List.count_cons_of_ne h];rw[e1]at ih;simpa using ih
theorem Rv(l:List UInt8):∀k,l.count 47≤k→Lib.splitK [47] 0 k l=dD l:=by
 induction l with
 |nil=>
  intro k _;cases k<;>simp[Lib.splitK,dD,Lib.index]
 |cons c r ih=>
  intro k hk;cases k with
  |zero=>
   have:∀x∈c::r,x≠47:=by
    intro x hx e;subst e;have:=List.count_pos_iff.2 hx;omega
   rw[Kr _ this];rfl
  |succ k=>
   by_cases h:c=47
   ·subst h;have e:Lib.index (47::r) [47]=0:=by simp[Lib.index]
    have hk':r.count 47≤k:=by simp at hk;omega
    simp only[Lib.splitK,e,dD,if_true];have h1:((0:Int)== -1)=false:=by decide
    rw[h1];simp[ih k hk']
   ·have hpre:([47]:List UInt8).isPrefixOf (c::r)=false:=by
     simp[List.isPrefixOf];exact fun e=>h e.symm
    have hk':r.count 47≤k+1:=by
     rw[List.count_cons_of_ne h]at hk;omega
    have h2:=ih (k+1) hk';obtain⟨x,xs,e1,e2⟩:=lZ c r h;rw[e2];rw[e1]at h2;simp only[Lib.splitK,Lib.index,hpre]at h2⊢;by_cases hi:Lib.index r [47]= -1
    ·simp only[hi]at h2⊢;simp at h2⊢;rw[h2.1,h2.2];simp
    ·have hge:=Lib.index_ge r [47];have b1:(Lib.index r [47]== -1)=false:=by simpa using hi
     have b2:(Lib.index r [47]+1== -1)=false:=by simp;omega
     rw[b1]at h2;simp only[b1,aa3,if_false,b2]at h2⊢;obtain⟨i,hi2⟩:∃i:Nat,Lib.index r [47]=i:=⟨(Lib.index r [47]).toNat,by omega⟩;rw[hi2]at h2⊢;have t1:((i:Int)+1).toNat=i+1:=by omega
     rw[t1];simp only[Int.toNat_natCast,ab6,abB,aaV]at h2⊢;obtain⟨g1,g2⟩:=h2;refine⟨by simp[←g1],?_⟩;rw[←g2];simp
def bS(ls:List (List UInt8)):Int:=if ls.any (fun x=> !dO x)then 12 else if 8<ls.length then 3 else 0
def aV(l:List UInt8):List (List UInt8)×Int:=
 match l with
 |[]=>([],12)
 |c::r=>if c≠47 then([],12)else if r=[]then([],0)else if bS (dD r)=0 then(dD r,0)else([],bS (dD r))
theorem Kt(s:ByteArray):(Lib.splitB ⟨#[47]⟩ 0 (Lib.countB s ⟨#[47]⟩) s).map (fun x=>x.data.toList)=dD s.data.toList∧Lib.countB s ⟨#[47]⟩=s.data.toList.count 47:=by
 have hc:Lib.countB s ⟨#[47]⟩=s.data.toList.count 47:=Lib.count_one 47 _;refine⟨?_,hc⟩;have:=Lib.splitB_data ⟨#[47]⟩ 0 (Lib.countB s ⟨#[47]⟩) s;exact this.trans (Rv _ _ (by rw[hc];exact Nat.le_refl _))
open Go.ChangeShapes Go.WideShapes Go.ChangeAt Go.RowKit
abbrev Nm:=List UInt8
abbrev jX(a b:Int):Bool:=decide (a<b)
structure eG where
 kind:Int
 links:Int
 aT:Int
 closed:Bool
 b:List UInt8
 names:List (Nm×Int)
abbrev aI:=List (Int×eG)
section
variable{κ α:Type}[DecidableEq κ]
def cu(k:κ)(f:α→α)(l:List (κ×α)):List (κ×α):=l.map fun q=>if q.1=k then(q.1,f q.2)else q
theorem fD(k:κ)(y:κ×α)(r:List (κ×α)):aj k (y::r)=if y.1=k then some y.2 else aj k r:=by
 unfold aj;by_cases h:y.1=k<;>simp[h]
theorem bF(k j:κ)(f:α→α)(l:List (κ×α)):aj j (cu k f l)=if j=k then(aj j l).map f else aj j l:=by
 induction l with
 |nil=>simp[cu,aj]
 |cons y r ih=>
  have ih':aj j (List.map (fun q:κ×α=>if q.1=k then(q.1,f q.2)else q) r)=if j=k then(aj j r).map f else aj j r:=ih;unfold cu;rw[List.map_cons,fD,fD,ih'];by_cases h:y.1=k
  ·by_cases h2:y.1=j
   ·have:j=k:=h2▸h;simp[h,this]
   ·have:j≠k:=fun e=>h2 (h.trans e.symm);have h3:¬k=j:=fun e=>this e.symm;simp[h,h3,this]
  ·by_cases h2:y.1=j
   ·have:j≠k:=fun e=>h (h2.trans e);simp[h2,this]
   ·simp[h,h2]
theorem Rw{β:Type}(k:κ)(f:α→α)(l:List (κ×α))(g:κ→β):(cu k f l).map (fun q=>(q.1,g q.1))=l.map fun q=>(q.1,g q.1):=by
 unfold cu;rw[List.map_map];apply aaw;intro q _;by_cases h:q.1=k<;>simp[h]
theorem Ku(k:κ)(f:α→α)(l:List (κ×α)):(cu k f l).length=l.length:=by simp[cu]
theorem Kv{lt:κ→κ→Bool}(k:κ)(f:α→α){l:List (κ×α)}(h:aO lt l):aO lt (cu k f l):=by
 unfold aO cu;rw[List.pairwise_map];refine List.Pairwise.imp (fun{a b} hab=> ?_) h;by_cases h1:a.1=k<;>by_cases h2:b.1=k<;>simp_all
theorem bI{lt:κ→κ→Bool}(L:pK lt){l:List (κ×α)}(h:aO lt l){q:κ×α}(hq:q∈l):aj q.1 l=some q.2:=h.get L hq
end
def dQ(kind:Int):eG:=⟨kind,1,0,decide (kind=2),[],[]⟩
def yT:aI:=[(0,dQ 2)]
def aG(T:aI):Int→List Nm→Int×Int
 |id,[]=>(id,0)
 |id,n::r=>match aj id T with
  |none=>(0,20)
  |some x=>if x.kind=2 then(match aj n x.names with
   |none=>(0,20)
   |some k=>aG T k r)else(0,23)
def bD(T:aI)(id:Int):Int:=match aj id T with|some x=>x.kind|none=>0
def aX(T:aI)(id:Int):List (Nm×Int):=match aj id T with|some x=>x.names|none=>[]
def aQ(T:aI)(p:List Nm):Int×Nm×Int:=
 if p=[]then(0,[],1)else
 if (aG T 0 p.dropLast).2≠0 then(0,[],(aG T 0 p.dropLast).2)else
 if bD T (aG T 0 p.dropLast).1=2 then((aG T 0 p.dropLast).1,p.getLastD [],0)else(0,[],23)
def Dz(T:aI):Int:=(((List.range (T.length+1)).map fun n:Nat=>(n:Int)+1).find? fun n=>(aj n T).isNone).getD 0
def setName(T:aI)(d:Int)(n:Nm)(id:Int):aI:=cu d (fun x=>{x with names:=bX bytesBefore n id x.names}) T
def aZ(T:aI)(d:Int)(n:Nm):aI:=cu d (fun x=>{x with names:=bM n x.names}) T
def xS(T:aI)(p:List Nm)(kind:Int):aI:=setName (bX jX (Dz T) (dQ kind) T) (aQ T p).1 (aQ T p).2.1 (Dz T)
def nQ(T:aI)(p:List Nm)(kind:Int):Int:=
 if bS p≠0 then bS p else
 if ¬(kind=1∨kind=2)then 30 else
 if (aQ T p).2.2≠0 then(aQ T p).2.2 else
 if (aj (aQ T p).2.1 (aX T (aQ T p).1)).isSome then 21 else
 if 64≤T.length then 4 else 0
def dF(T:aI)(p:List Nm)(kind:Int):(Int×Int)×aI:=
 if nQ T p kind=0 then((Dz T,0),xS T p kind)else((0,nQ T p kind),T)
def jr(T:aI)(id:Int):Int:=match aj id T with|none=>20|some x=>if x.kind=2 then 22 else 0
def qI(T:aI)(id:Int)(b:List UInt8):Int:=match aj id T with
 |none=>20
 |some x=>if x.kind=2 then 22 else if x.closed then 27 else if 4096<x.b.length+b.length then 15 else 0
def dG(T:aI)(id:Int)(b:List UInt8):Int×aI:=(qI T id b,if qI T id b=0 then cu id (fun x=>{x with b:=x.b++b}) T else T)
def partE(at_ n:Int):Int:=if at_<0∨n<0 then 1 else 0
def Qj(b:List UInt8)(at_ n:Int):List UInt8:=if at_<0∨n<0 then[]else(b.drop at_.toNat).take n.toNat
def Qk(T:aI)(id at_ n:Int):List UInt8:=match aj id T with|none=>[]|some x=>if x.kind=2 then[]else Qj x.b at_ n
def gX(T:aI)(id:Int):aI:=match aj id T with
 |none=>T
 |some x=>if x.links=0∧x.closed=true then bM id T else T
def BK(T:aI)(id aT:Int):Int:=match aj id T with
 |none=>20
 |some x=>if x.kind=2 then 22 else if x.closed then 27 else if 1099511627776<aT then 1 else 0
def fZ(T:aI)(id aT:Int):Int×aI:=(BK T id aT,if BK T id aT=0 then gX (cu id (fun x=>{x with closed:=true,aT:=aT}) T) id else T)
def Ql(T:aI)(id aT:Int):Int:=match aj id T with
 |none=>20
 |some x=>if x.kind=2 then 22 else if x.closed=false then 25 else if aT<x.aT then 28 else if 1099511627776<aT then 1 else 0
def uW(T:aI)(id aT:Int):Int×aI:=(Ql T id aT,if Ql T id aT=0 then cu id (fun x=>{x with aT:=aT}) T else T)
def kC(T:aI)(id:Int):Int:=match aj id T with
 |none=>20
 |some x=>if x.kind=2 then 22 else if x.closed then 27 else 0
def Ao(T:aI)(id:Int):aI:=bM id (T.map fun q=>(q.1,{q.2 with names:=q.2.names.filter fun e=> !decide (e.2=id)}))
def eU(T:aI)(id:Int):Int×aI:=(kC T id,if kC T id=0 then Ao T id else T)
def wZ(p to:List Nm):Int:=if bS p≠0 then bS p else bS to
def DC(T:aI)(id:Int):Int:=match aj id T with|some x=>x.links|none=>0
def GH(T:aI)(p to:List Nm):Int:=
 if wZ p to≠0 then wZ p to else
 if (aG T 0 p).2≠0 then(aG T 0 p).2 else
 if bD T (aG T 0 p).1=2 then 22 else
 if (aQ T to).2.2≠0 then(aQ T to).2.2 else
 if (aj (aQ T to).2.1 (aX T (aQ T to).1)).isSome then 21 else
 if 64≤DC T (aG T 0 p).1 then 4 else 0
def UN(T:aI)(p to:List Nm):aI:=cu (aG T 0 p).1 (fun x=>{x with links:=x.links+1}) (setName T (aQ T to).1 (aQ T to).2.1 (aG T 0 p).1)
def w_(T:aI)(p to:List Nm):Int×aI:=(GH T p to,if GH T p to=0 then UN T p to else T)
def bU(T:aI)(p:List Nm):Int×Int:=if bS p≠0 then(0,bS p)else aG T 0 p
def jY(T:aI)(p:List Nm):Int:=
 if (bU T p).2≠0 then(bU T p).2 else if bD T (aG T 0 p).1=2 then 22 else 0
def yU(T:aI)(p:List Nm):aI:=gX (cu (aG T 0 p).1 (fun x=>{x with links:=x.links-1}) (aZ T (aQ T p).1 (aQ T p).2.1)) (aG T 0 p).1
def dR(T:aI)(p:List Nm):Int×aI:=(jY T p,if jY T p=0 then yU T p else T)
def DF(T:aI)(p:List Nm):Int:=
 if (bU T p).2≠0 then(bU T p).2 else if bD T (aG T 0 p).1≠2 then 23 else if (aG T 0 p).1=0 then 1 else if 0<(aX T (aG T 0 p).1).length then 24 else 0
def IU(T:aI)(p:List Nm):aI:=bM (aG T 0 p).1 (aZ T (aQ T p).1 (aQ T p).2.1)
def qZ(T:aI)(p:List Nm):Int×aI:=(DF T p,if DF T p=0 then IU T p else T)
def cn(k:Int)(x:eG):Nat:=x.names.countP fun e=>decide (e.2=k)
def fF(T:aI)(k:Int):Nat:=(T.map fun q=>cn k q.2).sum
structure Qm(x:eG):Prop where
 kind:x.kind=1∨x.kind=2
 file:x.kind=1→x.names=[]
 dir:x.kind=2→x.links=1∧x.closed=true∧x.b=[]∧x.aT=0
 gone:x.links=0→x.closed=false
 sorted:aO bytesBefore x.names
 good:∀e∈x.names,dO e.1=true
 size:x.b.length≤4096
 links:0≤x.links∧x.links≤64
 aT:0≤x.aT∧x.aT≤1099511627776
structure Cw(T:aI):Prop where
 sorted:aO jX T
 root:bD T 0=2
 each:∀k x,aj k T=some x→Qm x
 leads:∀k x,aj k T=some x→∀e∈x.names,(aj e.2 T).isSome=true∧e.2≠0
 len:T.length≤64
 ids:∀k x,aj k T=some x→0≤k∧k≤65535
structure fu(T:aI):Prop extends Cw T where
 counts:∀k x,aj k T=some x→k≠0→(fF T k:Int)=x.links
structure M9(x:eG):Prop where
 kind:x.kind=1∨x.kind=2
 file:x.kind=1→x.names=[]
 dir:x.kind=2→x.links=1∧x.closed=true∧x.b=[]∧x.aT=0
 gone:x.links=0→x.closed=false
 sorted:aO bytesBefore x.names
 good:∀e∈x.names,dO e.1=true
 size:x.b.length≤4096
 links:0≤x.links∧x.links≤65535
 aT:0≤x.aT∧x.aT≤1099511627776
structure DI(T:aI):Prop where
 sorted:aO jX T
 root:bD T 0=2
 each:∀k x,aj k T=some x→M9 x
 leads:∀k x,aj k T=some x→∀e∈x.names,(aj e.2 T).isSome=true∧e.2≠0
 len:T.length≤64
 ids:∀k x,aj k T=some x→0≤k∧k≤65535
structure OkW(T:aI):Prop extends DI T where
 counts:∀k x,aj k T=some x→k≠0→(fF T k:Int)=x.links
theorem Qm.w{x:eG}(h:Qm x):M9 x:=⟨h.kind,h.file,h.dir,h.gone,h.sorted,h.good,h.size,⟨h.links.1,by have:=h.links.2;omega⟩,h.aT⟩
theorem Cw.w{T:aI}(h:Cw T):DI T:=⟨h.sorted,h.root,fun k x hx=>(h.each k x hx).w,h.leads,h.len,h.ids⟩
theorem fu.w{T:aI}(h:fu T):OkW T:=⟨h.toCw.w,h.counts⟩
instance{T:aI}:Coe (Cw T) (DI T):=⟨Cw.w⟩
theorem Cw.of_w{T:aI}(h:DI T)(hl:∀k x,aj k T=some x→x.links≤64):Cw T:=
 ⟨h.sorted,h.root,fun k x hx=>have o:=h.each k x hx;⟨o.kind,o.file,o.dir,o.gone,o.sorted,o.good,o.size,⟨o.links.1,hl k x hx⟩,o.aT⟩,h.leads,h.len,h.ids⟩
instance{x:eG}:Coe (Qm x) (M9 x):=⟨Qm.w⟩
instance{T:aI}:Coe (fu T) (OkW T):=⟨fu.w⟩
theorem gT{T:aI}{id:Int}(h:bD T id=2):∃x,aj id T=some x∧x.kind=2:=by
 unfold bD at h;cases hg:aj id T with
 |none=>rw[hg]at h;cases h
 |some x=>rw[hg]at h;exact⟨x,rfl,h⟩
theorem lI{T:aI}(hT:OkW T):∀(p:List Nm) (id:Int),(aj id T).isSome=true→(aG T id p).2=0→(aj (aG T id p).1 T).isSome=true
 |[],id,h,_=>h
 |n::r,id,h,he=>by
  obtain⟨x,hx⟩:=aak.1 h;simp only[aG,hx]at he⊢;split at he
  ·rename_i hk;rw[if_pos hk];cases hn:aj n x.names with
   |none=>rw[hn]at he;cases he
   |some k=>
    rw[hn]at he;exact lI hT r k (hT.leads _ _ hx _ (cZ hn)).1 he
  ·cases he
theorem kY{T:aI}(hT:OkW T):(aj 0 T).isSome=true:=by
 obtain⟨x,h,_⟩:=gT hT.root;simp[h]
def aU:Am Tryz.prog 3 Int where
 lit x:= .int .i64 x
 val x:= .int .i64 x
 ok x:=(Lit.int .i64 x).wf=true
 lt a b:=decide (a<b)
 law:=Go.Maps.int_keyed abQ
 of x h:=Go.Maps.keyOf_int_mk abQ h
 inv v kl h:=by
  obtain⟨x,e1,e2,e3⟩:=Go.Maps.keyOf_int_inv abQ h;exact⟨x,e1,e2,e3⟩
 same a b:=by simp[Lit.sameKey]
 before a b:=by simp[Lit.before]
 isKey a:=by exact trivial
theorem Kw:pK (fun a b:Int=>decide (a<b)):=⟨fun a=>by simp,fun a b c h1 h2=>by simp at*;omega,fun a b h=>by simp;omega⟩
inductive Own where
 |none
 |head
 |items
 |item (k:Int)
 |names (k:Int)
abbrev ptr(b:Nat):Value:= .pointer (some ⟨b,0,none⟩)
def eu(x:eG)(nb:Nat):Value:=if x.kind=2 then .map (some nb)else .map none
def iq(k:Int)(x:eG)(a:Option Addr)(c nb:Nat):Array Value:=
 #[.int .i64 k,.int .i64 x.kind,.int .i64 x.links,.int .i64 x.b.length,.int .u64 x.aT,.bool x.closed,.slice a x.b.length c,eu x nb]
def dJ(x:eG):List (Nm×Value):=x.names.map fun e=>(e.1,.int .i64 e.2)
def oI(n c:Nat):Prop:=n≤c∧c≤maxLen
structure iV(D:Nat→Prop)(w:World)(k:Int)(ib nb:Nat)(x:eG):Prop where
 cells:∃a c,w.heap[ib]? =some (.cells (iq k x a c nb) 192 (0,0))∧oI x.b.length c∧ah D w a x.b.length (x.b.map bv)
 names:x.kind=2→MapAt fT w nb (dJ x)
structure aM(g:Nat→Own)(D:Nat→Prop)(w:World)(p mb:Nat)(ib nb:Int→Nat)(T:aI):Prop where
 head:w.heap[p]? =some (.cells #[.map (some mb)] 188 (0,0))
 map:MapAt aU w mb (T.map fun q=>(q.1,ptr (ib q.1)))
 item:∀k x,aj k T=some x→iV D w k (ib k) (nb k) x
 qE:g p= .head
 jg:g mb= .items
 pR:∀k x,aj k T=some x→g (ib k)= .item k
 mX:∀k x,aj k T=some x→x.kind=2→g (nb k)= .names k
 data:∀b,D b→g b= .none
 low:∀b,g b≠ .none→b<w.heap.size
 oN:∀b,D b→b<w.heap.size
theorem iV.move{D D':Nat→Prop}{w w':World}{k:Int}{ib nb:Nat}{x:eG}(h:iV D w k ib nb x)(hs:w.heap.size≤w'.heap.size)(hi:w'.heap[ib]? =w.heap[ib]?)(hn:x.kind=2→w'.heap[nb]? =w.heap[nb]?)(hD:∀b,D b→b<w.heap.size→D' b∧w'.heap[b]? =w.heap[b]?):iV D' w' k ib nb x:=by
 obtain⟨⟨a,c,h1,h2,h3⟩,h4⟩:=h;exact⟨⟨a,c,hi.trans h1,h2,h3.move hs hD⟩,fun hk=>(h4 hk).kept (hn hk)⟩
theorem aM.keeps{g:Nat→Own}{D fp:Nat→Prop}{w w':World}{p mb:Nat}{ib nb:Int→Nat}{T:aI}(h:aM g D w p mb ib nb T)(hK:Keeps fp w w')(hn:∀b,g b≠ .none∨D b→¬fp b):aM g D w' p mb ib nb T:=by
 have hb:∀b,g b≠ .none→w'.heap[b]? =w.heap[b]? :=fun b hb=>hK.block b (h.low b hb) (hn b (.inl hb))
 refine⟨(hb p (by rw[h.qE];simp)).trans h.head,h.map.kept (hb mb (by rw[h.jg];simp)),fun k x hx=>(h.item k x hx).move hK.size (hb _ (by rw[h.pR k x hx];simp)) (fun hk=>hb _ (by rw[h.mX k x hx hk];simp)) fun b hb hbw=>⟨hb,hK.block b hbw (hn b (.inr hb))⟩,
  h.qE,h.jg,h.pR,h.mX,h.data,fun b hb=>Nat.lt_of_lt_of_le (h.low b hb) hK.size,fun b hb=>Nat.lt_of_lt_of_le (h.oN b hb) hK.size⟩
theorem aM.below{g:Nat→Own}{D:Nat→Prop}{w w':World}{B p mb:Nat}{ib nb:Int→Nat}{T:aI}(h:aM g D w p mb ib nb T)(hb:Below B w w')(hB:w.heap.size≤B):aM g D w' p mb ib nb T:=
 h.keeps (fp:=fun x=>B≤x) (Keeps.below hb) fun b hx hf=>by
  rcases hx with hx|hx
  ·have:=h.low b hx;omega
  ·have:=h.oN b hx;omega
theorem aM.cu{g:Nat→Own}{D D':Nat→Prop}{w w':World}{p mb:Nat}{ib nb:Int→Nat}{T:aI}(h:aM g D w p mb ib nb T){k:Int}{x:eG}{f:eG→eG}(hx:aj k T=some x)(hfk:(f x).kind=x.kind)
  (hD:∀b,D b→D' b)(hD':∀b,D' b→g b= .none∧b<w'.heap.size)(hsz:w.heap.size≤w'.heap.size)(hb:∀b,b<w.heap.size→g b≠ .item k→g b≠ .names k→w'.heap[b]? =w.heap[b]?)(hi:iV D' w' k (ib k) (nb k) (f x)):
  aM g D' w' p mb ib nb (cu k f T):=by
 refine⟨(hb p (h.low p (by rw[h.qE];simp)) (by rw[h.qE];simp) (by rw[h.qE];simp)).trans h.head,?_,?_,h.qE,h.jg,?_,?_,fun b hb=>(hD' b hb).1,fun b hb=>Nat.lt_of_lt_of_le (h.low b hb) hsz,fun b hb=>(hD' b hb).2⟩
 ·have:=h.map.kept (hb mb (h.low mb (by rw[h.jg];simp)) (by rw[h.jg];simp) (by rw[h.jg];simp));rw[Rw k f T (fun j=>ptr (ib j))];exact this
 ·intro j y hy;rw[bF]at hy;by_cases hj:j=k
  ·subst hj;rw[if_pos rfl,hx]at hy;simp only[aam,aag]at hy;subst hy;exact hi
  ·rw[if_neg hj]at hy;refine(h.item j y hy).move hsz (hb _ (h.low _ (by rw[h.pR j y hy];simp)) (by rw[h.pR j y hy];simpa using hj) (by rw[h.pR j y hy];simp)) (fun hk=>hb _ (h.low _ (by rw[h.mX j y hy hk];simp)) (by rw[h.mX j y hy hk];simp) (by rw[h.mX j y hy hk];simpa using hj)) ?_;intro b uX hbw;refine⟨hD b uX,hb b hbw ?_ ?_⟩<;>rw[h.data b uX]<;>simp
 ·intro j y hy;rw[bF]at hy;by_cases hj:j=k
  ·subst hj;exact h.pR j x hx
  ·rw[if_neg hj]at hy;exact h.pR j y hy
 ·intro j y hy hk;rw[bF]at hy;by_cases hj:j=k
  ·subst hj;rw[if_pos rfl,hx]at hy;simp only[aam,aag]at hy;subst hy;exact h.mX j x hx (hfk▸hk)
  ·rw[if_neg hj]at hy;exact h.mX j y hy hk
theorem GI{κ α β:Type}(lt:κ→κ→Bool)(f:κ→α→β)(x:κ×α):∀l:List (κ×α),(jq lt x l).map (fun p=>(p.1,f p.1 p.2))=jq lt (x.1,f x.1 x.2) (l.map fun p=>(p.1,f p.1 p.2))
 |[]=>rfl
 |y::r=>by
  unfold jq;simp only[List.map_cons];split<;>simp[GI lt f x r]
theorem Ap{κ α β:Type}[DecidableEq κ](f:κ→α→β)(k:κ)(l:List (κ×α)):(bM k l).map (fun p=>(p.1,f p.1 p.2))=bM k (l.map fun p=>(p.1,f p.1 p.2)):=by
 simp[bM,abZ,abG]
theorem vX{κ α β:Type}[DecidableEq κ](lt:κ→κ→Bool)(f:κ→α→β)(k:κ)(v:α)(l:List (κ×α)):(bX lt k v l).map (fun p=>(p.1,f p.1 p.2))=bX lt k (f k v) (l.map fun p=>(p.1,f p.1 p.2)):=by
 simp only[bX,GI,Ap]
theorem dS{κ α:Type}[DecidableEq κ](lt:κ→κ→Bool)(k j:κ)(v:α)(l:List (κ×α)):aj j (bX lt k v l)=if j=k then some v else aj j l:=by
 by_cases h:j=k
 ·subst h;rw[if_pos rfl,pJ]
 ·rw[if_neg h,ow lt h]
theorem eZ{κ α:Type}[DecidableEq κ](k j:κ)(l:List (κ×α)):aj j (bM k l)=if j=k then none else aj j l:=by
 by_cases h:j=k
 ·subst h;rw[if_pos rfl,pI]
 ·rw[if_neg h,ou h]
theorem aM.add{g:Nat→Own}{D:Nat→Prop}{w w':World}{p mb:Nat}{ib nb:Int→Nat}{T:aI}(h:aM g D w p mb ib nb T){k:Int}{x:eG}{i n:Nat}(hi0:w.heap.size≤i)(hn0:w.heap.size≤n)(hin:i≠n)(hiw:i<w'.heap.size)(hnw:x.kind=2→n<w'.heap.size)(hx0:aj k T=none)(hxb:x.b=[])
  (hm:MapAt aU w' mb (bX jX k (ptr i) (T.map fun q=>(q.1,ptr (ib q.1)))))(hsz:w.heap.size≤w'.heap.size)(hb:∀b,b<w.heap.size→b≠mb→w'.heap[b]? =w.heap[b]?)(hi:iV (fun _=>False) w' k i n x):
  aM (fun b=>if b=i then .item k else if b=n∧x.kind=2 then .names k else g b) D w' p mb (fun j=>if j=k then i else ib j) (fun j=>if j=k then n else nb j) (bX jX k x T):=by
 have hgl:∀b,g b≠ .none→b≠i∧b≠n:=fun b hb=>by have:=h.low b hb;omega
 have hgg:∀b,g b≠ .none→(if b=i then Own.item k else if b=n∧x.kind=2 then .names k else g b)=g b:=fun b hb=>by
  obtain⟨h1,h2⟩:=hgl b hb;rw[if_neg h1,if_neg (fun h=>h2 h.1)]
 have hp:g p≠ .none:=by rw[h.qE];simp
 have hmm:g mb≠ .none:=by rw[h.jg];simp
 refine⟨(hb p (h.low p hp) (fun e=>by have:=h.qE;rw[e,h.jg]at this;cases this)).trans h.head,?_,?_,(hgg p hp).trans h.qE,(hgg mb hmm).trans h.jg,?_,?_,?_,?_,fun b hb=>Nat.lt_of_lt_of_le (h.oN b hb) hsz⟩
 ·have e1:(bX jX k x T).map (fun q=>(q.1,ptr ((fun j=>if j=k then i else ib j) q.1)))=bX jX k (ptr i) (T.map fun q=>(q.1,ptr (ib q.1))):=by
   rw[vX jX (fun j _=>ptr ((fun j=>if j=k then i else ib j) j))];simp only[if_pos];congr 1;apply aaw;intro q hq;have:q.1≠k:=jW.1 hx0 q hq;rw[if_neg this]
  rw[e1];exact hm
 ·intro j y hy;rw[dS]at hy;by_cases hj:j=k
  ·subst hj;rw[if_pos rfl]at hy;cases hy;simp only[if_pos];refine hi.move ace rfl (fun _=>rfl) (fun b hb=>hb.elim)
  ·rw[if_neg hj]at hy;simp only[if_neg hj];have t1:=h.pR j y hy;refine(h.item j y hy).move hsz (hb _ (h.low _ (by rw[t1];simp)) (fun e=>by rw[e,h.jg]at t1;cases t1)) (fun hk=>hb _ (h.low _ (by rw[h.mX j y hy hk];simp)) (fun e=>by have t2:=h.mX j y hy hk;rw[e,h.jg]at t2;cases t2)) ?_;intro b uX hbw;exact⟨uX,hb b hbw (fun e=>by have:=h.data b uX;rw[e,h.jg]at this;cases this)⟩
 ·intro j y hy;rw[dS]at hy;by_cases hj:j=k
  ·subst hj;simp
  ·rw[if_neg hj]at hy;have t1:=h.pR j y hy;simp only[if_neg hj];rw[hgg _ (by rw[t1];simp)];exact t1
 ·intro j y hy hk;rw[dS]at hy;by_cases hj:j=k
  ·subst hj;rw[if_pos rfl]at hy;cases hy;simp only[if_pos];rw[if_neg (aaP hin),if_pos ⟨trivial,hk⟩]
  ·rw[if_neg hj]at hy;have t1:=h.mX j y hy hk;simp only[if_neg hj];rw[hgg _ (by rw[t1];simp)];exact t1
 ·intro b uX;have:=h.oN b uX;rw[if_neg (by omega),if_neg (by omega)];exact h.data b uX
 ·intro b hbn;by_cases h1:b=i
  ·omega
  ·by_cases h2:b=n∧x.kind=2
   ·have:=hnw h2.2;omega
   ·simp only[if_neg h1,if_neg h2]at hbn;exact Nat.lt_of_lt_of_le (h.low b hbn) hsz
theorem aM.del{g:Nat→Own}{D:Nat→Prop}{w w':World}{p mb:Nat}{ib nb:Int→Nat}{T:aI}(h:aM g D w p mb ib nb T){k:Int}
  (hm:MapAt aU w' mb (bM k (T.map fun q=>(q.1,ptr (ib q.1)))))(hsz:w.heap.size≤w'.heap.size)(hb:∀b,b<w.heap.size→b≠mb→w'.heap[b]? =w.heap[b]?):aM g D w' p mb ib nb (bM k T):=by
 have hp:g p≠ .none:=by rw[h.qE];simp
 have hget:∀j y,aj j (bM k T)=some y→aj j T=some y:=fun j y hy=>by
  rw[eZ]at hy;split at hy
  ·cases hy
  ·exact hy
 refine⟨(hb p (h.low p hp) (fun e=>by have:=h.qE;rw[e,h.jg]at this;cases this)).trans h.head,?_,?_,h.qE,h.jg,fun j y hy=>h.pR j y (hget j y hy),fun j y hy=>h.mX j y (hget j y hy),h.data,fun b hb=>Nat.lt_of_lt_of_le (h.low b hb) hsz,fun b hb=>Nat.lt_of_lt_of_le (h.oN b hb) hsz⟩
 ·rw[Ap (fun j _=>ptr (ib j))];exact hm
 ·intro j y hy';have hy:=hget j y hy';have t1:=h.pR j y hy;refine(h.item j y hy).move hsz (hb _ (h.low _ (by rw[t1];simp)) (fun e=>by rw[e,h.jg]at t1;cases t1)) (fun hk=>hb _ (h.low _ (by rw[h.mX j y hy hk];simp)) (fun e=>by have t2:=h.mX j y hy hk;rw[e,h.jg]at t2;cases t2)) ?_;intro b uX hbw;exact⟨uX,hb b hbw (fun e=>by have:=h.data b uX;rw[e,h.jg]at this;cases this)⟩
theorem Aq{κ α β:Type}[DecidableEq κ](f:κ→α→β)(k:κ)(l:List (κ×α)):aj k (l.map fun p=>(p.1,f p.1 p.2))=(aj k l).map (f k):=by
 induction l with
 |nil=>rfl
 |cons y r ih=>
  rw[List.map_cons,fD,fD,ih];by_cases h:y.1=k
  ·subst h;simp
  ·simp[h]
theorem dH(ib:Int→Nat)(T:aI)(k:Int):aj k (T.map fun q=>(q.1,ptr (ib q.1)))=(aj k T).map fun _=>ptr (ib k):=Aq (fun j (_:eG)=>ptr (ib j)) k T
theorem kZ(x:eG)(n:Nm):aj n (dJ x)=(aj n x.names).map fun i=>(.int .i64 i:Value):=Aq (fun(_:Nm) (i:Int)=>Value.int .i64 i) n x.names
theorem iV.cell{D:Nat→Prop}{w:World}{k:Int}{ib nb:Nat}{x:eG}(h:iV D w k ib nb x):
  w.cell? ⟨ib,0,none⟩=some (.int .i64 k)∧w.cell? ⟨ib,1,none⟩=some (.int .i64 x.kind)∧w.cell? ⟨ib,2,none⟩=some (.int .i64 x.links)∧w.cell? ⟨ib,3,none⟩=some (.int .i64 x.b.length)∧w.cell? ⟨ib,4,none⟩=some (.int .u64 x.aT)∧w.cell? ⟨ib,5,none⟩=some (.bool x.closed)∧w.cell? ⟨ib,7,none⟩=some (eu x nb)∧ib<w.heap.size:=by
 obtain⟨⟨a,c,h1,_⟩,_⟩:=h;have:=(uh.1 h1).1;refine⟨?_,?_,?_,?_,?_,?_,?_,this⟩<;>(simp only[World.cell?,h1];rfl)
theorem aM.cell{g:Nat→Own}{D:Nat→Prop}{w:World}{p mb:Nat}{ib nb:Int→Nat}{T:aI}(h:aM g D w p mb ib nb T):w.cell? ⟨p,0,none⟩=some (.map (some mb))∧p<w.heap.size∧mb<w.heap.size:=by
 have:=(uh.1 h.head).1;exact⟨by simp[World.cell?,h.head],this,h.map.lt⟩
end Go.Proofs.YtmflaonodghbcaaGreatDoor
