/- Plain -/
import Derived.Test.YthillkfmdndedaaGreatDoorM07
import Derived.Lib.Split
import Derived.Lib.SplitLaws
import Derived.Lib.Join
import Derived.Test.YthillkfmdndedaaGreatDoorM06
set_option maxRecDepth 100000
set_option maxHeartbeats 64000000
set_option linter.all false
namespace Go.Proofs.YthillkfmdndedaaGreatDoor
open Go
def dJ:I8->List (I8)
 |[]=>[[]]
 |c::r=>if c=47 then[]::dJ r else match dJ r with|[]=>[[c]]|x::xs=>(c::x)::xs
theorem Si(l:I8):dJ l≠[]:=by
 induction l with
 |nil=>simp[dJ]
 |cons c r ih=>unfold dJ;split<;>(try split)<;>simp
theorem mX(c:UInt8)(r:I8)(h:c≠47):∃x xs,dJ r=x::xs/\dJ (c::r)=(c::x)::xs:=by
 cases m:dJ r with
 |nil=>exact absurd m (Si r)
 |cons x xs=>exact⟨x,xs,rfl,by simp[dJ,h,m]⟩
theorem KO(l:I8)(h:∀c∈l,c≠47):dJ l=[l]:=by
 induction l with
 |nil=>rfl
 |cons c r ih=>
  have u:=ih (λ x m=>h x (abv _ m));simp[dJ,h c (by simp),u]
theorem ZI(l:I8):∀x∈dJ l,∀c∈x,c≠47:=by
 induction l with
 |nil=>intro x m c A;simp[dJ]at m;subst m;cases A
 |cons c r ih=>
  by_cases h:c=47
  ·intro x m d u;simp only[dJ,h,if_true,List.mem_cons]at m;rcases m with rfl|m
   ·cases u
   ·exact ih x m d u
  ·obtain⟨y,C,z,B⟩:=mX c r h;intro x m d u;rw[B]at m;rw[z]at ih;rcases List.mem_cons.1 m with rfl|m
   ·rcases List.mem_cons.1 u with rfl|u
    ·exact h
    ·exact ih y (by simp) d u
   ·exact ih x (by simp[m]) d u
theorem Sj(l:I8):∀x∈dJ l,x.length<=l.length:=by
 induction l with
 |nil=>intro x m;simp[dJ]at m;subst m;simp
 |cons c r ih=>
  by_cases h:c=47
  ·intro x m;simp only[dJ,h,if_true,List.mem_cons]at m;rcases m with rfl|m
   ·simp
   ·have:=ih x m;simp;omega
  ·obtain⟨y,A,u,z⟩:=mX c r h;intro x m;rw[z]at m;rw[u]at ih;rcases List.mem_cons.1 m with rfl|m
   ·have:=ih y (by simp);simp;omega
   ·have:=ih x (by simp[m]);simp;omega
theorem Gp(l:I8):(dJ l).length=l.count 47+1:=by
 induction l with
 |nil=>rfl
 |cons c r ih=>
  by_cases h:c=47
  ·subst h;simp[dJ,ih]
  ·obtain⟨y,z,m,u⟩:=mX c r h;rw[u,List.count_cons_of_ne h];rw[m]at ih;simpa using ih
theorem Sk(l:I8):∀k,l.count 47<=k->Lib.splitK [47] 0 k l=dJ l:=by
 induction l with
 |nil=>
  intro k _;cases k<;>simp[Lib.splitK,dJ,Lib.index]
 |cons c r ih=>
  intro k A;cases k with
  |zero=>
   have:∀x∈c::r,x≠47:=by
    intro x F e;subst e;have:=List.count_pos_iff.2 F;omega
   rw[KO _ this];rfl
  |succ k=>
   by_cases h:c=47
   ·subst h;have e:Lib.index (47::r) [47]=0:=by simp[Lib.index]
    have u:r.count 47<=k:=by simp at A;omega
    simp only[Lib.splitK,e,dJ,if_true];have H:((0:Int)== -1)=false:=by decide
    rw[H];simp[ih k u]
   ·have y:([47]:I8).isPrefixOf (c::r)=false:=by
     simp[List.isPrefixOf];exact λ e=>h e.symm
    have u:r.count 47<=k+1:=by
     rw[List.count_cons_of_ne h]at A;omega
    have m:=ih (k+1) u;obtain⟨x,xs,I,J⟩:=mX c r h;rw[J];rw[I]at m;simp only[Lib.splitK,Lib.index,y]at m⊢;by_cases B:Lib.index r [47]= -1
    ·simp only[B]at m⊢;simp at m⊢;rw[m.1,m.2];simp
    ·have G:=Lib.index_ge r [47];have C:(Lib.index r [47]== -1)=false:=by simpa using B
     have D:(Lib.index r [47]+1== -1)=false:=by simp;omega
     rw[C]at m;simp only[C,Bool.false_eq_true,if_false,D]at m⊢;obtain⟨i,z⟩:∃i:Nat,Lib.index r [47]=i:=⟨(Lib.index r [47]).toNat,by omega⟩;rw[z]at m⊢;have t1:((i:Int)+1).toNat=i+1:=by omega
     rw[t1];simp only[Int.toNat_natCast,Nat.add_zero,abk,aaM]at m⊢;obtain⟨g1,E⟩:=m;refine⟨by simp[<-g1],?_⟩;rw[<-E];simp
def bN(m:List (I8)):Int:=if m.any (λ x=> !gF x)then 12 else if 8<m.length then 3 else 0
def aT(l:I8):List (I8)×Int:=
 match l with
 |[]=>([],12)
 |c::r=>if c≠47 then([],12)else if r=[]then([],0)else if bN (dJ r)=0 then(dJ r,0)else([],bN (dJ r))
theorem KP(s:ByteArray):(Lib.splitB ⟨#[47]⟩ 0 (Lib.countB s ⟨#[47]⟩) s).map (λ x=>x.data.toList)=dJ s.data.toList/\Lib.countB s ⟨#[47]⟩=s.data.toList.count 47:=by
 have m:Lib.countB s ⟨#[47]⟩=s.data.toList.count 47:=Lib.count_one 47 _;refine⟨?_,m⟩;have:=Lib.splitB_data ⟨#[47]⟩ 0 (Lib.countB s ⟨#[47]⟩) s;exact this.trans (Sk _ _ (by rw[m];exact Nat.le_refl _))
open Go.ChangeShapes Go.WideShapes Go.ChangeAt Go.RowKit
abbrev Nm:=List UInt8
abbrev qK(a b:Int):Bool:=decide (a<b)
structure fI where
 kind:Int
 links:Int
 aL:Int
 closed:Bool
 b:List UInt8
 names:List (Nm×Int)
abbrev aS:=List (Int×fI)
section
variable{κ α:Type}[DecidableEq κ]
def cZ(k:κ)(f:α->α)(l:List (κ×α)):List (κ×α):=l.map λ q=>if q.1=k then(q.1,f q.2)else q
theorem iG(k:κ)(y:κ×α)(r:List (κ×α)):au k (y::r)=if y.1=k then some y.2 else au k r:=by
 unfold au;by_cases h:y.1=k<;>simp[h]
theorem bB(k j:κ)(f:α->α)(l:List (κ×α)):au j (cZ k f l)=if j=k then(au j l).map f else au j l:=by
 induction l with
 |nil=>simp[cZ,au]
 |cons y r ih=>
  have u:au j (List.map (λ q:κ×α=>if q.1=k then(q.1,f q.2)else q) r)=if j=k then(au j r).map f else au j r:=ih;unfold cZ;rw[aau,iG,iG,u];by_cases h:y.1=k
  ·by_cases m:y.1=j
   ·have:j=k:=m▸h;simp[h,this]
   ·have:j≠k:=λ e=>m (h.trans e.symm);have z:¬k=j:=λ e=>this e.symm;simp[h,z,this]
  ·by_cases m:y.1=j
   ·have:j≠k:=λ e=>h (m.trans e);simp[m,this]
   ·simp[h,m]
theorem Ba{β:Type}(k:κ)(f:α->α)(l:List (κ×α))(g:κ->β):(cZ k f l).map (λ q=>(q.1,g q.1))=l.map λ q=>(q.1,g q.1):=by
 unfold cZ;rw[List.map_map];apply aaF;intro q _;by_cases h:q.1=k<;>simp[h]
theorem KQ(k:κ)(f:α->α)(l:List (κ×α)):(cZ k f l).length=l.length:=by simp[cZ]
theorem KR{lt:κ->κ->Bool}(k:κ)(f:α->α){l:List (κ×α)}(h:bA lt l):bA lt (cZ k f l):=by
 unfold bA cZ;rw[abQ];refine List.Pairwise.imp (λ{a b} m=> ?_) h;by_cases y:a.1=k<;>by_cases u:b.1=k<;>simp_all
theorem fq{lt:κ->κ->Bool}(L:qh lt){l:List (κ×α)}(h:bA lt l){q:κ×α}(m:q∈l):au q.1 l=some q.2:=h.get L m
end
def dh(kind:Int):fI:=⟨kind,1,0,decide (kind=2),[],[]⟩
def mO:aS:=[(0,dh 2)]
def aP(T:aS):Int->List Nm->Int×Int
 |id,[]=>(id,0)
 |id,n::r=>match au id T with
  |none=>(0,20)
  |some x=>if x.kind=2 then(match au n x.names with
   |none=>(0,20)
   |some k=>aP T k r)else(0,23)
def bQ(T:aS)(id:Int):Int:=match au id T with|some x=>x.kind|none=>0
def bM(T:aS)(id:Int):List (Nm×Int):=match au id T with|some x=>x.names|none=>[]
def aQ(T:aS)(p:List Nm):Int×Nm×Int:=
 if p=[]then(0,[],1)else
 if (aP T 0 p.dropLast).2≠0 then(0,[],(aP T 0 p.dropLast).2)else
 if bQ T (aP T 0 p.dropLast).1=2 then((aP T 0 p.dropLast).1,p.getLastD [],0)else(0,[],23)
def Ec(T:aS):Int:=(((List.range (T.length+1)).map λ n:Nat=>(n:Int)+1).find? λ n=>(au n T).isNone).getD 0
def setName(T:aS)(d:Int)(n:Nm)(id:Int):aS:=cZ d (λ x=>{x with names:=dO bytesBefore n id x.names}) T
def aV(T:aS)(d:Int)(n:Nm):aS:=cZ d (λ x=>{x with names:=bZ n x.names}) T
def yD(T:aS)(p:List Nm)(kind:Int):aS:=setName (dO qK (Ec T) (dh kind) T) (aQ T p).1 (aQ T p).2.1 (Ec T)
def ow(T:aS)(p:List Nm)(kind:Int):Int:=
 if bN p≠0 then bN p else
 if ¬(kind=1\/kind=2)then 30 else
 if (aQ T p).2.2≠0 then(aQ T p).2.2 else
 if (au (aQ T p).2.1 (bM T (aQ T p).1)).isSome then 21 else
 if 64<=T.length then 4 else 0
def dF(T:aS)(p:List Nm)(kind:Int):(Int×Int)×aS:=
 if ow T p kind=0 then((Ec T,0),yD T p kind)else((0,ow T p kind),T)
def fQ(T:aS)(id:Int):Int:=match au id T with|none=>20|some x=>if x.kind=2 then 22 else 0
def qR(T:aS)(id:Int)(b:I8):Int:=match au id T with
 |none=>20
 |some x=>if x.kind=2 then 22 else if x.closed then 27 else if 4096<x.b.length+b.length then 15 else 0
def dP(T:aS)(id:Int)(b:I8):Int×aS:=(qR T id b,if qR T id b=0 then cZ id (λ x=>{x with b:=x.b++b}) T else T)
def vP(at_ n:Int):Int:=if at_<0\/n<0 then 1 else 0
def qU(b:I8)(at_ n:Int):List UInt8:=if at_<0\/n<0 then[]else(b.drop at_.toNat).take n.toNat
def G_(T:aS)(id at_ n:Int):Int:=match au id T with|none=>20|some x=>if x.kind=2 then 22 else vP at_ n
def qV(T:aS)(id at_ n:Int):List UInt8:=match au id T with|none=>[]|some x=>if x.kind=2 then[]else qU x.b at_ n
def iQ(T:aS)(id:Int):aS:=match au id T with
 |none=>T
 |some x=>if x.links=0/\x.closed=true then bZ id T else T
def Cx(T:aS)(id m:Int):Int:=match au id T with
 |none=>20
 |some x=>if x.kind=2 then 22 else if x.closed then 27 else if 1099511627776<m then 1 else 0
def gu(T:aS)(id m:Int):Int×aS:=(Cx T id m,if Cx T id m=0 then iQ (cZ id (λ x=>{x with closed:=true,aL:=m}) T) id else T)
def Cy(T:aS)(id m:Int):Int:=match au id T with
 |none=>20
 |some x=>if x.kind=2 then 22 else if x.closed=false then 25 else if m<x.aL then 28 else if 1099511627776<m then 1 else 0
def iX(T:aS)(id m:Int):Int×aS:=(Cy T id m,if Cy T id m=0 then cZ id (λ x=>{x with aL:=m}) T else T)
def lF(T:aS)(id:Int):Int:=match au id T with
 |none=>20
 |some x=>if x.kind=2 then 22 else if x.closed then 27 else 0
def Bb(T:aS)(id:Int):aS:=bZ id (T.map λ q=>(q.1,{q.2 with names:=q.2.names.filter λ e=> !decide (e.2=id)}))
def fJ(T:aS)(id:Int):Int×aS:=(lF T id,if lF T id=0 then Bb T id else T)
def mH(p to:List Nm):Int:=if bN p≠0 then bN p else bN to
def yF(T:aS)(id:Int):Int:=match au id T with|some x=>x.links|none=>0
def pq(T:aS)(p to:List Nm):Int:=
 if mH p to≠0 then mH p to else
 if (aP T 0 p).2≠0 then(aP T 0 p).2 else
 if bQ T (aP T 0 p).1=2 then 22 else
 if (aQ T to).2.2≠0 then(aQ T to).2.2 else
 if (au (aQ T to).2.1 (bM T (aQ T to).1)).isSome then 21 else
 if 64<=yF T (aP T 0 p).1 then 4 else 0
def NS(T:aS)(p to:List Nm):aS:=cZ (aP T 0 p).1 (λ x=>{x with links:=x.links+1}) (setName T (aQ T to).1 (aQ T to).2.1 (aP T 0 p).1)
def iy(T:aS)(p to:List Nm):Int×aS:=(pq T p to,if pq T p to=0 then NS T p to else T)
def bG(T:aS)(p:List Nm):Int×Int:=if bN p≠0 then(0,bN p)else aP T 0 p
def kX(T:aS)(p:List Nm):Int:=
 if (bG T p).2≠0 then(bG T p).2 else if bQ T (aP T 0 p).1=2 then 22 else 0
def zH(T:aS)(p:List Nm):aS:=iQ (cZ (aP T 0 p).1 (λ x=>{x with links:=x.links-1}) (aV T (aQ T p).1 (aQ T p).2.1)) (aP T 0 p).1
def dY(T:aS)(p:List Nm):Int×aS:=(kX T p,if kX T p=0 then zH T p else T)
def kG(T:aS)(p:List Nm):Int:=
 if (bG T p).2≠0 then(bG T p).2 else if bQ T (aP T 0 p).1≠2 then 23 else if (aP T 0 p).1=0 then 1 else if 0<(bM T (aP T 0 p).1).length then 24 else 0
def DF(T:aS)(p:List Nm):aS:=bZ (aP T 0 p).1 (aV T (aQ T p).1 (aQ T p).2.1)
def fC(T:aS)(p:List Nm):Int×aS:=(kG T p,if kG T p=0 then DF T p else T)
def cn(k:Int)(x:fI):Nat:=x.names.countP λ e=>decide (e.2=k)
def iH(T:aS)(k:Int):Nat:=(T.map λ q=>cn k q.2).sum
structure QJ(x:fI):Prop where
 kind:x.kind=1\/x.kind=2
 file:x.kind=1->x.names=[]
 dir:x.kind=2->x.links=1/\x.closed=true/\x.b=[]/\x.aL=0
 gone:x.links=0->x.closed=false
 sorted:bA bytesBefore x.names
 good:∀e∈x.names,gF e.1=true
 size:x.b.length<=4096
 links:0<=x.links/\x.links<=64
 aL:0<=x.aL/\x.aL<=1099511627776
structure Dg(T:aS):Prop where
 sorted:bA qK T
 root:bQ T 0=2
 each:∀k x,au k T=some x->QJ x
 leads:∀k x,au k T=some x->∀e∈x.names,(au e.2 T).isSome=true/\e.2≠0
 len:T.length<=64
 ids:∀k x,au k T=some x->0<=k/\k<=65535
structure fA(T:aS):Prop extends Dg T where
 counts:∀k x,au k T=some x->k≠0->(iH T k:Int)=x.links
structure NT(x:fI):Prop where
 kind:x.kind=1\/x.kind=2
 file:x.kind=1->x.names=[]
 dir:x.kind=2->x.links=1/\x.closed=true/\x.b=[]/\x.aL=0
 gone:x.links=0->x.closed=false
 sorted:bA bytesBefore x.names
 good:∀e∈x.names,gF e.1=true
 size:x.b.length<=4096
 links:0<=x.links/\x.links<=65535
 aL:0<=x.aL/\x.aL<=1099511627776
structure Ed(T:aS):Prop where
 sorted:bA qK T
 root:bQ T 0=2
 each:∀k x,au k T=some x->NT x
 leads:∀k x,au k T=some x->∀e∈x.names,(au e.2 T).isSome=true/\e.2≠0
 len:T.length<=64
 ids:∀k x,au k T=some x->0<=k/\k<=65535
structure OkW(T:aS):Prop extends Ed T where
 counts:∀k x,au k T=some x->k≠0->(iH T k:Int)=x.links
theorem QJ.w{x:fI}(h:QJ x):NT x:=⟨h.kind,h.file,h.dir,h.gone,h.sorted,h.good,h.size,⟨h.links.1,by have:=h.links.2;omega⟩,h.aL⟩
theorem Dg.w{T:aS}(h:Dg T):Ed T:=⟨h.sorted,h.root,λ k x m=>(h.each k x m).w,h.leads,h.len,h.ids⟩
theorem fA.w{T:aS}(h:fA T):OkW T:=⟨h.toDg.w,h.counts⟩
instance{T:aS}:Coe (Dg T) (Ed T):=⟨Dg.w⟩
theorem Dg.of_w{T:aS}(h:Ed T)(u:∀k x,au k T=some x->x.links<=64):Dg T:=
 ⟨h.sorted,h.root,λ k x m=>have o:=h.each k x m;⟨o.kind,o.file,o.dir,o.gone,o.sorted,o.good,o.size,⟨o.links.1,u k x m⟩,o.aL⟩,h.leads,h.len,h.ids⟩
instance{x:fI}:Coe (QJ x) (NT x):=⟨QJ.w⟩
instance{T:aS}:Coe (fA T) (OkW T):=⟨fA.w⟩
theorem nM{T:aS}{id:Int}(h:bQ T id=2):∃x,au id T=some x/\x.kind=2:=by
 unfold bQ at h;cases m:au id T with
 |none=>rw[m]at h;cases h
 |some x=>rw[m]at h;exact⟨x,rfl,h⟩
theorem mI{T:aS}(z:OkW T):∀(p:List Nm) (id:Int),(au id T).isSome=true->(aP T id p).2=0->(au (aP T id p).1 T).isSome=true
 |[],id,h,_=>h
 |n::r,id,h,m=>by
  obtain⟨x,y⟩:=aag.1 h;simp only[aP,y]at m⊢;split at m
  ·rename_i A;rw[if_pos A];cases u:au n x.names with
   |none=>rw[u]at m;cases m
   |some k=>
    rw[u]at m;exact mI z r k (z.leads _ _ y _ (fH u)).1 m
  ·cases m
theorem nN{T:aS}(m:OkW T):(au 0 T).isSome=true:=by
 obtain⟨x,h,_⟩:=nM m.root;simp[h]
def aY:AZ Tryz.prog 3 Int where
 lit x:= .int .i64 x
 val x:= .int .i64 x
 ok x:=(Lit.int .i64 x).wf=true
 lt a b:=decide (a<b)
 law:=Go.Maps.int_keyed aa2
 of x h:=Go.Maps.keyOf_int_mk aa2 h
 inv v kl h:=by
  obtain⟨x,u,m,y⟩:=Go.Maps.keyOf_int_inv aa2 h;exact⟨x,u,m,y⟩
 same a b:=by simp[Lit.sameKey]
 before a b:=by simp[Lit.before]
 isKey a:=by exact trivial
theorem VQ:qh (λ a b:Int=>decide (a<b)):=⟨λ a=>by simp,λ a b c u m=>by simp at*;omega,λ a b h=>by simp;omega⟩
inductive Own where
 |none
 |head
 |items
 |item (k:Int)
 |names (k:Int)
abbrev ptr(b:Nat):Value:= .pointer (some ⟨b,0,none⟩)
def dS(x:fI)(nb:Nat):Value:=if x.kind=2 then .map (some nb)else .map none
def jW(k:Int)(x:fI)(a:Mx)(c nb:Nat):Array Value:=
 #[.int .i64 k,.int .i64 x.kind,.int .i64 x.links,.int .i64 x.b.length,.int .u64 x.aL,.bool x.closed,.slice a x.b.length c,dS x nb]
def bJ(x:fI):List (Nm×Value):=x.names.map λ e=>(e.1,.int .i64 e.2)
def qj(n c:Nat):Prop:=n<=c/\c<=maxLen
structure jJ(D:Nat->Prop)(w:World)(k:Int)(ib nb:Nat)(x:fI):Prop where
 cells:∃a c,w.heap[ib]? =some (.cells (jW k x a c nb) 196 (0,0))/\qj x.b.length c/\ah D w a x.b.length (x.b.map bv)
 names:x.kind=2->MapAt dD w nb (bJ x)
structure aK(g:Nat->Own)(D:Nat->Prop)(w:World)(p mb:Nat)(ib nb:Int->Nat)(T:aS):Prop where
 head:w.heap[p]? =some (.cells #[.map (some mb)] 192 (0,0))
 map:MapAt aY w mb (T.map λ q=>(q.1,ptr (ib q.1)))
 item:∀k x,au k T=some x->jJ D w k (ib k) (nb k) x
 uT:g p= .head
 lI:g mb= .items
 qL:∀k x,au k T=some x->g (ib k)= .item k
 oO:∀k x,au k T=some x->x.kind=2->g (nb k)= .names k
 data:∀b,D b->g b= .none
 low:∀b,g b≠ .none->b<w.heap.size
 qM:∀b,D b->b<w.heap.size
theorem jJ.move{D y:Nat->Prop}{w w':World}{k:Int}{m nb:Nat}{x:fI}(h:jJ D w k m nb x)(z:w.heap.size<=w'.heap.size)(F:w'.heap[m]? =w.heap[m]?)(G:x.kind=2->w'.heap[nb]? =w.heap[nb]?)(B:∀b,D b->b<w.heap.size->y b/\w'.heap[b]? =w.heap[b]?):jJ y w' k m nb x:=by
 obtain⟨⟨a,c,E,A,H⟩,C⟩:=h;exact⟨⟨a,c,F.trans E,A,H.move z B⟩,λ u=>(C u).kept (G u)⟩
theorem aK.keeps{g:Nat->Own}{D fp:Nat->Prop}{w w':World}{p z:Nat}{B nb:Int->Nat}{T:aS}(h:aK g D w p z B nb T)(u:Keeps fp w w')(C:∀b,g b≠ .none\/D b->¬fp b):aK g D w' p z B nb T:=by
 have m:∀b,g b≠ .none->w'.heap[b]? =w.heap[b]? :=λ b m=>u.block b (h.low b m) (C b (.inl m))
 refine⟨(m p (by rw[h.uT];simp)).trans h.head,h.map.kept (m z (by rw[h.lI];simp)),λ k x y=>(h.item k x y).move u.size (m _ (by rw[h.qL k x y];simp)) (λ E=>m _ (by rw[h.oO k x y E];simp)) λ b m A=>⟨m,u.block b A (C b (.inr m))⟩,
  h.uT,h.lI,h.qL,h.oO,h.data,λ b m=>Pd (h.low b m) u.size,λ b m=>Pd (h.qM b m) u.size⟩
theorem aK.below{g:Nat->Own}{D:Nat->Prop}{w w':World}{B p u:Nat}{y nb:Int->Nat}{T:aS}(h:aK g D w p u y nb T)(z:Below B w w')(A:w.heap.size<=B):aK g D w' p u y nb T:=
 h.keeps (fp:=λ x=>B<=x) (Keeps.below z) λ b m C=>by
  rcases m with m|m
  ·have:=h.low b m;omega
  ·have:=h.qM b m;omega
theorem aK.cZ{g:Nat->Own}{D E:Nat->Prop}{w w':World}{p G:Nat}{H nb:Int->Nat}{T:aS}(h:aK g D w p G H nb T){k:Int}{x:fI}{f:fI->fI}(F:au k T=some x)(J:(f x).kind=x.kind)
  (M:∀b,D b->E b)(C:∀b,E b->g b= .none/\b<w'.heap.size)(B:w.heap.size<=w'.heap.size)(u:∀b,b<w.heap.size->g b≠ .item k->g b≠ .names k->w'.heap[b]? =w.heap[b]?)(N:jJ E w' k (H k) (nb k) (f x)):
  aK g E w' p G H nb (cZ k f T):=by
 refine⟨(u p (h.low p (by rw[h.uT];simp)) (by rw[h.uT];simp) (by rw[h.uT];simp)).trans h.head,?_,?_,h.uT,h.lI,?_,?_,λ b u=>(C b u).1,λ b u=>Pd (h.low b u) B,λ b u=>(C b u).2⟩
 ·have:=h.map.kept (u G (h.low G (by rw[h.lI];simp)) (by rw[h.lI];simp) (by rw[h.lI];simp));rw[Ba k f T (λ j=>ptr (H j))];exact this
 ·intro j y m;rw[bB]at m;by_cases z:j=k
  ·subst z;rw[if_pos rfl,F]at m;simp only[aao,aae]at m;subst m;exact N
  ·rw[if_neg z]at m;refine(h.item j y m).move B (u _ (h.low _ (by rw[h.qL j y m];simp)) (by rw[h.qL j y m];simpa using z) (by rw[h.qL j y m];simp)) (λ A=>u _ (h.low _ (by rw[h.oO j y m A];simp)) (by rw[h.oO j y m A];simp) (by rw[h.oO j y m A];simpa using z)) ?_;intro b K I;refine⟨M b K,u b I ?_ ?_⟩<;>rw[h.data b K]<;>simp
 ·intro j y m;rw[bB]at m;by_cases z:j=k
  ·subst z;exact h.qL j x F
  ·rw[if_neg z]at m;exact h.qL j y m
 ·intro j y m A;rw[bB]at m;by_cases z:j=k
  ·subst z;rw[if_pos rfl,F]at m;simp only[aao,aae]at m;subst m;exact h.oO j x F (J▸A)
  ·rw[if_neg z]at m;exact h.oO j y m A
theorem He{κ α β:Type}(lt:κ->κ->Bool)(f:κ->α->β)(x:κ×α):∀l:List (κ×α),(lH lt x l).map (λ p=>(p.1,f p.1 p.2))=lH lt (x.1,f x.1 x.2) (l.map λ p=>(p.1,f p.1 p.2))
 |[]=>rfl
 |y::r=>by
  unfold lH;simp only[aau];split<;>simp[He lt f x r]
theorem Bc{κ α β:Type}[DecidableEq κ](f:κ->α->β)(k:κ)(l:List (κ×α)):(bZ k l).map (λ p=>(p.1,f p.1 p.2))=bZ k (l.map λ p=>(p.1,f p.1 p.2)):=by
 simp[bZ,List.filter_map,Function.comp_def]
theorem Bd{κ α β:Type}[DecidableEq κ](lt:κ->κ->Bool)(f:κ->α->β)(k:κ)(v:α)(l:List (κ×α)):(dO lt k v l).map (λ p=>(p.1,f p.1 p.2))=dO lt k (f k v) (l.map λ p=>(p.1,f p.1 p.2)):=by
 simp only[dO,He,Bc]
theorem fO{κ α:Type}[DecidableEq κ](lt:κ->κ->Bool)(k j:κ)(v:α)(l:List (κ×α)):au j (dO lt k v l)=if j=k then some v else au j l:=by
 by_cases h:j=k
 ·subst h;rw[if_pos rfl,qg]
 ·rw[if_neg h,oN lt h]
theorem eG{κ α:Type}[DecidableEq κ](k j:κ)(l:List (κ×α)):au j (bZ k l)=if j=k then none else au j l:=by
 by_cases h:j=k
 ·subst h;rw[if_pos rfl,qd]
 ·rw[if_neg h,oM h]
theorem aK.add{g:Nat->Own}{D:Nat->Prop}{w w':World}{p C:Nat}{E nb:Int->Nat}{T:aS}(h:aK g D w p C E nb T){k:Int}{x:fI}{i n:Nat}(Z:w.heap.size<=i)(X:w.heap.size<=n)(Q:i≠n)(U:i<w'.heap.size)(O:x.kind=2->n<w'.heap.size)(K:au k T=none)(V:x.b=[])
  (W:MapAt aY w' C (dO qK k (ptr i) (T.map λ q=>(q.1,ptr (E q.1)))))(B:w.heap.size<=w'.heap.size)(u:∀b,b<w.heap.size->b≠C->w'.heap[b]? =w.heap[b]?)(Y:jJ (λ _=>False) w' k i n x):
  aK (λ b=>if b=i then .item k else if b=n/\x.kind=2 then .names k else g b) D w' p C (λ j=>if j=k then i else E j) (λ j=>if j=k then n else nb j) (dO qK k x T):=by
 have P:∀b,g b≠ .none->b≠i/\b≠n:=λ b u=>by have:=h.low b u;omega
 have A:∀b,g b≠ .none->(if b=i then Own.item k else if b=n/\x.kind=2 then .names k else g b)=g b:=λ b u=>by
  obtain⟨N,I⟩:=P b u;rw[if_neg N,if_neg (λ h=>I h.1)]
 have R:g p≠ .none:=by rw[h.uT];simp
 have J:g C≠ .none:=by rw[h.lI];simp
 refine⟨(u p (h.low p R) (λ e=>by have:=h.uT;rw[e,h.lI]at this;cases this)).trans h.head,?_,?_,(A p R).trans h.uT,(A C J).trans h.lI,?_,?_,?_,?_,λ b u=>Pd (h.qM b u) B⟩
 ·have e1:(dO qK k x T).map (λ q=>(q.1,ptr ((λ j=>if j=k then i else E j) q.1)))=dO qK k (ptr i) (T.map λ q=>(q.1,ptr (E q.1))):=by
   rw[Bd qK (λ j _=>ptr ((λ j=>if j=k then i else E j) j))];simp only[if_pos];congr 1;apply aaF;intro q S;have:q.1≠k:=pV.1 K q S;rw[if_neg this]
  rw[e1];exact W
 ·intro j y m;rw[fO]at m;by_cases z:j=k
  ·subst z;rw[if_pos rfl]at m;cases m;simp only[if_pos];refine Y.move acs rfl (λ _=>rfl) (λ b u=>u.elim)
  ·rw[if_neg z]at m;simp only[if_neg z];have t1:=h.qL j y m;refine(h.item j y m).move B (u _ (h.low _ (by rw[t1];simp)) (λ e=>by rw[e,h.lI]at t1;cases t1)) (λ H=>u _ (h.low _ (by rw[h.oO j y m H];simp)) (λ e=>by have t2:=h.oO j y m H;rw[e,h.lI]at t2;cases t2)) ?_;intro b F M;exact⟨F,u b M (λ e=>by have:=h.data b F;rw[e,h.lI]at this;cases this)⟩
 ·intro j y m;rw[fO]at m;by_cases z:j=k
  ·subst z;simp
  ·rw[if_neg z]at m;have t1:=h.qL j y m;simp only[if_neg z];rw[A _ (by rw[t1];simp)];exact t1
 ·intro j y m H;rw[fO]at m;by_cases z:j=k
  ·subst z;rw[if_pos rfl]at m;cases m;simp only[if_pos];rw[if_neg (aa6 Q),if_pos ⟨trivial,H⟩]
  ·rw[if_neg z]at m;have t1:=h.oO j y m H;simp only[if_neg z];rw[A _ (by rw[t1];simp)];exact t1
 ·intro b F;have:=h.qM b F;rw[if_neg (by omega),if_neg (by omega)];exact h.data b F
 ·intro b G;by_cases N:b=i
  ·omega
  ·by_cases I:b=n/\x.kind=2
   ·have:=O I.2;omega
   ·simp only[if_neg N,if_neg I]at G;exact Pd (h.low b G) B
theorem aK.del{g:Nat->Own}{D:Nat->Prop}{w w':World}{p B:Nat}{C nb:Int->Nat}{T:aS}(h:aK g D w p B C nb T){k:Int}
  (J:MapAt aY w' B (bZ k (T.map λ q=>(q.1,ptr (C q.1)))))(A:w.heap.size<=w'.heap.size)(z:∀b,b<w.heap.size->b≠B->w'.heap[b]? =w.heap[b]?):aK g D w' p B C nb (bZ k T):=by
 have I:g p≠ .none:=by rw[h.uT];simp
 have u:∀j y,au j (bZ k T)=some y->au j T=some y:=λ j y m=>by
  rw[eG]at m;split at m
  ·cases m
  ·exact m
 refine⟨(z p (h.low p I) (λ e=>by have:=h.uT;rw[e,h.lI]at this;cases this)).trans h.head,?_,?_,h.uT,h.lI,λ j y m=>h.qL j y (u j y m),λ j y m=>h.oO j y (u j y m),h.data,λ b z=>Pd (h.low b z) A,λ b z=>Pd (h.qM b z) A⟩
 ·rw[Bc (λ j _=>ptr (C j))];exact J
 ·intro j y F;have m:=u j y F;have t1:=h.qL j y m;refine(h.item j y m).move A (z _ (h.low _ (by rw[t1];simp)) (λ e=>by rw[e,h.lI]at t1;cases t1)) (λ H=>z _ (h.low _ (by rw[h.oO j y m H];simp)) (λ e=>by have t2:=h.oO j y m H;rw[e,h.lI]at t2;cases t2)) ?_;intro b G E;exact⟨G,z b E (λ e=>by have:=h.data b G;rw[e,h.lI]at this;cases this)⟩
theorem Bf{κ α β:Type}[DecidableEq κ](f:κ->α->β)(k:κ)(l:List (κ×α)):au k (l.map λ p=>(p.1,f p.1 p.2))=(au k l).map (f k):=by
 induction l with
 |nil=>rfl
 |cons y r ih=>
  rw[aau,iG,iG,ih];by_cases h:y.1=k
  ·subst h;simp
  ·simp[h]
theorem eH(m:Int->Nat)(T:aS)(k:Int):au k (T.map λ q=>(q.1,ptr (m q.1)))=(au k T).map λ _=>ptr (m k):=Bf (λ j (_:fI)=>ptr (m j)) k T
theorem eY(x:fI)(n:Nm):au n (bJ x)=(au n x.names).map λ i=>(.int .i64 i:Value):=Bf (λ(_:Nm) (i:Int)=>Value.int .i64 i) n x.names
theorem jJ.cell{D:Nat->Prop}{w:World}{k:Int}{m nb:Nat}{x:fI}(h:jJ D w k m nb x):
  w.cell? ⟨m,0,none⟩=some (.int .i64 k)/\w.cell? ⟨m,1,none⟩=some (.int .i64 x.kind)/\w.cell? ⟨m,2,none⟩=some (.int .i64 x.links)/\w.cell? ⟨m,3,none⟩=some (.int .i64 x.b.length)/\w.cell? ⟨m,4,none⟩=some (.int .u64 x.aL)/\w.cell? ⟨m,5,none⟩=some (.bool x.closed)/\w.cell? ⟨m,7,none⟩=some (dS x nb)/\m<w.heap.size:=by
 obtain⟨⟨a,c,u,_⟩,_⟩:=h;have:=(qW.1 u).1;refine⟨?_,?_,?_,?_,?_,?_,?_,this⟩<;>(simp only[World.cell?,u];rfl)
theorem aK.cell{g:Nat->Own}{D:Nat->Prop}{w:World}{p m:Nat}{u nb:Int->Nat}{T:aS}(h:aK g D w p m u nb T):w.cell? ⟨p,0,none⟩=some (.map (some m))/\p<w.heap.size/\m<w.heap.size:=by
 have:=(qW.1 h.head).1;exact⟨by simp[World.cell?,h.head],this,h.map.lt⟩
