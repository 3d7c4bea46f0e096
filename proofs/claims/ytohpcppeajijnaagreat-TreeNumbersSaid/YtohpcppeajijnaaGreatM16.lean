/- A law's own tree, beside what else is the law's. Names that go: what holds of a tree behind Unlink, Rmdir; where a path's name stands. -/
import Derived.Test.YtohpcppeajijnaaGreatM15
namespace Go.Proofs.YtohpcppeajijnaaGreat
open Go.ChangeShapes Go.WideShapes Go.ChangeAt Go.RowKit
set_option linter.unusedVariables false
set_option linter.unusedSimpArgs false
theorem dA.del {T:aH} (h:dA T) {k:Int} {x:bF} (hx:aj k T=some x) (h0:k≠0) (hn:x.names=[]) (hc:fZ T k=0):dA (bH k T):=by
 have hget:∀j y,aj j (bH k T)=some y→j≠k∧aj j T=some y:=fun j y hy=>by
  rw[eD]at hy
  by_cases hj:j=k
  ·rw[if_pos hj]at hy;cases hy
  ·rw[if_neg hj]at hy;exact⟨hj,hy⟩
 have hcn:∀j,cn j x=0:=fun j=>by unfold cn;rw[hn];rfl
 refine⟨⟨h.sorted.bH _,?_,fun j y hy=>h.each j y (hget j y hy).2,fun j y hy e he=> ?_,?_,fun j y hy=>h.ids j y (hget j y hy).2⟩,fun j y hy hj=> ?_⟩
 ·have hr:=h.root
  unfold bZ at hr⊢
  rw[eD,if_neg (Ne.symm h0)]
  exact hr
 ·have h1:=h.leads j y (hget j y hy).2 e he
  have h2:=tT hc (hget j y hy).2 e he
  rw[eD,if_neg h2]
  exact h1
 ·have:=nZ dR h.sorted hx
  have:=h.len
  omega
 ·have h1:=rR h.sorted hx j
  rw[hcn]at h1
  have h2:=h.counts j y (hget j y hy).2 hj
  omega
theorem dA.settle {T:aH} (h:dA T) {k:Int} (hk:k≠0) (hf:∀x,aj k T=some x→x.kind≠2):dA (fG T k):=by
 unfold fG
 cases hx:aj k T with
 |none=>exact h
 |some x=>
  simp only
  by_cases hc:x.links=0∧x.closed=true
  ·rw[if_pos hc]
   have hk1:=(h.each k x hx).kind.resolve_right (hf x hx)
   refine h.del hx hk ((h.each k x hx).file hk1) ?_
   have:=h.counts k x hx hk
   omega
  ·rw[if_neg hc];exact h
theorem dA.oV {T:aH} (h:dA T) {k:Int} {x:bF} (hx:aj k T=some x) (hk:x.kind≠2):k≠0:=by
 rintro rfl
 have:=h.root
 unfold bZ at this
 rw[hx]at this
 exact hk this
theorem uT {T:aH} (hT:dA T) {ls:List Nm} {kind:Int} (h:iH T ls kind=0):bO ls=0∧(kind=1∨kind=2)∧(aC T ls).2.2=0∧aj (aC T ls).2.1 (bB T (aC T ls).1)=none∧T.length<64:=by
 unfold iH at h
 by_cases h1:bO ls≠0
 ·rw[if_pos h1]at h;exact absurd h h1
 ·rw[if_neg h1]at h
  by_cases h2:¬(kind=1∨kind=2)
  ·rw[if_pos h2]at h;cases h
  ·rw[if_neg h2]at h
   by_cases h3:(aC T ls).2.2≠0
   ·rw[if_pos h3]at h;exact absurd h h3
   ·rw[if_neg h3]at h
    by_cases h4:(aj (aC T ls).2.1 (bB T (aC T ls).1)).isSome=true
    ·rw[if_pos h4]at h;cases h
    ·rw[if_neg h4]at h
     by_cases h5:64≤T.length
     ·rw[if_pos h5]at h;cases h
     ·exact⟨by omega,Decidable.not_not.1 h2,by omega,by simpa using h4,by omega⟩
theorem dA.aL {T:aH} (h:dA T) (ls:List Nm) (kind:Int):dA (aL T ls kind).2:=by
 unfold Go.Proofs.YtohpcppeajijnaaGreat.aL
 by_cases he:iH T ls kind=0
 ·rw[if_pos he]
  obtain⟨h1,h2,h3,h4,h5⟩:=uT h he
  obtain⟨x,hx,hk,hm⟩:=fV h h3
  obtain⟨f,hf,hf1,hf2,hfn,_⟩:=h.free
  have e1:bB T (aC T ls).1=x.names:=by unfold bB;rw[hx]
  rw[e1]at h4
  have hlen:=h.len
  show dA (og T ls kind)
  unfold og
  rw[hf]
  exact h.make h2 hfn (by omega) (by omega) h5 hx hk (gP h1 _ hm) h4
 ·rw[if_neg he];exact h
theorem dA.bT {T:aH} (h:dA T) (id:Int) (b:List UInt8):dA (bT T id b).2:=by
 unfold Go.Proofs.YtohpcppeajijnaaGreat.bT
 by_cases he:jc T id b=0
 ·simp only[if_pos he]
  unfold jc at he
  cases hx:aj id T with
  |none=>rw[hx]at he;cases he
  |some x=>
   rw[hx]at he
   simp only at he
   by_cases hk:x.kind=2
   ·rw[if_pos hk]at he;cases he
   ·rw[if_neg hk]at he
    cases hc:x.closed with
    |true=>rw[hc]at he;cases he
    |false=>
     rw[hc]at he
     simp only[Bool.false_eq_true,if_false]at he
     by_cases hb:4096<x.b.length+b.length
     ·rw[if_pos hb]at he;cases he
     ·have ho:=h.each id x hx
      exact h.rT hx ⟨ho.kind,ho.file,fun h=>absurd h hk,fun _=>hc,ho.sorted,ho.good,by rw[List.length_append];omega,ho.links,ho.aQ⟩ rfl rfl rfl
 ·simp only[if_neg he];exact h
theorem dA.eF {T:aH} (h:dA T) (id aQ:Int) (h0:0≤aQ):dA (eF T id aQ).2:=by
 unfold Go.Proofs.YtohpcppeajijnaaGreat.eF
 by_cases he:nK T id aQ=0
 ·simp only[if_pos he]
  unfold nK at he
  cases hx:aj id T with
  |none=>rw[hx]at he;cases he
  |some x=>
   rw[hx]at he
   simp only at he
   by_cases hk:x.kind=2
   ·rw[if_pos hk]at he;cases he
   ·rw[if_neg hk]at he
    cases hc:x.closed with
    |true=>rw[hc]at he;cases he
    |false=>
     rw[hc]at he
     simp only[Bool.false_eq_true,if_false]at he
     by_cases hb:1099511627776<aQ
     ·rw[if_pos hb]at he;cases he
     ·have ho:=h.each id x hx
      have hk1:=ho.kind.resolve_right hk
      have hcnt:=h.counts id x hx (h.oV hx hk)
      by_cases hl:x.links=0
      ·have hn:=ho.file hk1
       have e:fG (Go.Proofs.YtohpcppeajijnaaGreat.bf id (fun x=>{x with closed:=true,aQ:=aQ}) T) id=bH id T:=by
        unfold fG
        rw[aS,if_pos rfl,hx]
        simp only[Option.map_some,hl,and_self,if_true]
        unfold bH Go.Proofs.YtohpcppeajijnaaGreat.bf
        clear hx ho hcnt he h
        induction T with
        |nil=>rfl
        |cons y r ih=>
         rw[List.map_cons,List.filter_cons,List.filter_cons,ih]
         by_cases hy:y.1=id<;>simp[hy]
       rw[e]
       exact h.del hx (h.oV hx hk) hn (by omega)
      ·have hs:dA (Go.Proofs.YtohpcppeajijnaaGreat.bf id (fun x=>{x with closed:=true,aQ:=aQ}) T):=
        h.rT hx ⟨ho.kind,ho.file,fun h=>absurd h hk,fun h=>absurd h hl,ho.sorted,ho.good,ho.size,ho.links,⟨h0,by simp only;omega⟩⟩ rfl rfl rfl
       exact hs.settle (h.oV hx hk) (fun y hy=>by
        rw[aS,if_pos rfl,hx]at hy
        simp only[Option.map_some,Option.some.injEq]at hy
        rw[←hy]
        exact hk)
 ·simp only[if_neg he];exact h
theorem dA.dO {T:aH} (h:dA T) (id aQ:Int) (h0:0≤aQ):dA (dO T id aQ).2:=by
 unfold Go.Proofs.YtohpcppeajijnaaGreat.dO
 by_cases he:nL T id aQ=0
 ·simp only[if_pos he]
  unfold nL at he
  cases hx:aj id T with
  |none=>rw[hx]at he;cases he
  |some x=>
   rw[hx]at he
   simp only at he
   by_cases hk:x.kind=2
   ·rw[if_pos hk]at he;cases he
   ·rw[if_neg hk]at he
    by_cases hc:x.closed=false
    ·rw[if_pos hc]at he;cases he
    ·rw[if_neg hc]at he
     by_cases hb:aQ<x.aQ
     ·rw[if_pos hb]at he;cases he
     ·rw[if_neg hb]at he
      by_cases hb:1099511627776<aQ
      ·rw[if_pos hb]at he;cases he
      ·have ho:=h.each id x hx
       exact h.rT hx ⟨ho.kind,ho.file,fun h=>absurd h hk,ho.gone,ho.sorted,ho.good,ho.size,ho.links,⟨h0,by simp only;omega⟩⟩ rfl rfl rfl
 ·simp only[if_neg he];exact h
theorem uU {T:aH} {p tq:List Nm} (h:jl T p tq=0):ig p tq=0∧(aF T 0 p).2=0∧bZ T (aF T 0 p).1≠2∧(aC T tq).2.2=0∧aj (aC T tq).2.1 (bB T (aC T tq).1)=none∧mZ T (aF T 0 p).1<64:=by
 unfold jl at h
 by_cases h1:ig p tq≠0
 ·rw[if_pos h1]at h;exact absurd h h1
 ·rw[if_neg h1]at h
  by_cases h2:(aF T 0 p).2≠0
  ·rw[if_pos h2]at h;exact absurd h h2
  ·rw[if_neg h2]at h
   by_cases h3:bZ T (aF T 0 p).1=2
   ·rw[if_pos h3]at h;cases h
   ·rw[if_neg h3]at h
    by_cases h4:(aC T tq).2.2≠0
    ·rw[if_pos h4]at h;exact absurd h h4
    ·rw[if_neg h4]at h
     by_cases h5:(aj (aC T tq).2.1 (bB T (aC T tq).1)).isSome=true
     ·rw[if_pos h5]at h;cases h
     ·rw[if_neg h5]at h
      by_cases h6:64≤mZ T (aF T 0 p).1
      ·rw[if_pos h6]at h;cases h
      ·exact⟨by omega,by omega,h3,by omega,by simpa using h5,by omega⟩
theorem lq {p q:List Nm} (h:ig p q=0):bO p=0∧bO q=0:=by
 unfold ig at h
 split at h
 ·rename_i h1;exact absurd h h1
 ·exact⟨by omega,h⟩
theorem dA.aO {T:aH} (h:dA T) (p tq:List Nm):dA (aO T p tq).2:=by
 unfold Go.Proofs.YtohpcppeajijnaaGreat.aO
 by_cases he:jl T p tq=0
 ·simp only[if_pos he]
  obtain⟨h1,h2,h3,h4,h5,h6⟩:=uU he
  obtain⟨x,hx,hk,hm⟩:=fV h h4
  obtain⟨y,hy⟩:=Option.isSome_iff_exists.1 (fA h p 0 (dW h) h2)
  have e1:bB T (aC T tq).1=x.names:=by unfold bB;rw[hx]
  have e2:mZ T (aF T 0 p).1=y.links:=by unfold mZ;rw[hy]
  rw[e1]at h5
  rw[e2]at h6
  rw[b_ hy]at h3
  exact h.link hx hk (gP (lq h1).2 _ hm) h5 hy h3 h6 (h.oV hy h3)
 ·simp only[if_neg he];exact h
def Rz (W:World) (P:Nat→Prop) (x:Nat):Prop:=W.heap.size≤x∧¬P x
structure fB (W:World) (P:Nat→Prop) (w:World) (p:Nat) (T:aH):Prop where
 at_:∃g D mb ib nb,aK g D w p mb ib nb T∧∀b,g b≠ .none∨D b→W.heap.size≤b∧¬P b
 ok:dA T
 below:Below W.heap.size W w
 low:∀x,P x→x<w.heap.size
theorem fB.grow {W w w':World} {P:Nat→Prop} {p:Nat} {T:aH} (h:fB W P w p T) (hb:Below w.heap.size w w'):fB W P w' p T:=by
 obtain⟨g,D,mb,ib,nb,hA,hF⟩:=h.at_
 exact⟨⟨g,D,mb,ib,nb,hA.below hb (Nat.le_refl _),hF⟩,h.ok,h.below.trans (hb.mono h.below.size),fun x hx=>Nat.lt_of_lt_of_le (h.low x hx) hb.size⟩
theorem fB.mono {W w:World} {P Q:Nat→Prop} {p:Nat} {T:aH} (h:fB W P w p T) (hq:∀x,Q x→P x):fB W Q w p T:=by
 obtain⟨g,D,mb,ib,nb,hA,hF⟩:=h.at_
 exact⟨⟨g,D,mb,ib,nb,hA,fun x hx=>⟨(hF x hx).1,fun h=>(hF x hx).2 (hq x h)⟩⟩,h.ok,h.below,fun x hx=>h.low x (hq x hx)⟩
def gu (W:World) (P:Nat→Prop) (w:World) (p:Nat) (T:aH) (v:Value) (e:Ending) (w':World):Prop:=
 e= .returned v∧fB W P w' p T∧Keeps (Rz W P) w w'
theorem fB.Cu {W w w':World} {P:Nat→Prop} {p mb:Nat} {T':aH} {v:Value} {e:Ending} {g:Nat→Own} {D:Nat→Prop} (hF:∀b,g b≠ .none∨D b→W.heap.size≤b∧¬P b) (hB:Below W.heap.size W w) (hP:∀x,P x→x<w.heap.size) (ht:Turn g D w p mb T' v e w') (hok:dA T'):gu W P w p T' v e w':=by
 obtain⟨rfl,g',D',Cn,nb',hA',hg',hD',hK⟩:=ht
 have hs:=hB.size
 refine⟨rfl,⟨⟨g',D',mb,Cn,nb',hA',fun b hb=> ?_⟩,hok,hB.trans (hK.jr hs fun x hx hgx=>by have:=(hF x (.inl hgx)).1;omega),fun x hx=>Nat.lt_of_lt_of_le (hP x hx) hK.size⟩,hK.mono fun x _ hx=>hF x (.inl hx)⟩
 have key:(g b≠ .none∨D b)∨w.heap.size≤b:=by
  rcases hb with hb|hb
  ·rcases hg' b hb with h|h
   ·exact .inl (.inl h)
   ·exact .inr h
  ·rcases hD' b hb with h|h
   ·exact .inl (.inr h)
   ·exact .inr h
 rcases key with h|h
 ·exact hF b h
 ·exact⟨by omega,fun hp=>by have:=hP b hp;omega⟩
section
variable {W w:World} {P:Nat→Prop} {p:Nat} {T:aH}
theorem tY {S:Nat→Prop} (h:fB W P w p T) (a:Option Addr) (n c:Nat) (ls:List Nm) (kind:Int) (hS:aG S w a n (ls.map strOf)) (hc:n≤c) (jd:n≤1000000):
  Calls Tryz.prog 12 #[ptr p, .slice a n c, .int .i64 kind] w (gu W P w p (aL T ls kind).2 (.tuple #[.int .i64 (aL T ls kind).1.1, .int .i64 (aL T ls kind).1.2])):=by
 obtain⟨g,D,mb,ib,nb,hA,hF⟩:=h.at_
 exact(Co a n c ls kind w hA h.ok hS hc jd).mono fun e w' ht=>fB.Cu hF h.below h.low ht (h.ok.aL _ _)
theorem Cv {S S':Nat→Prop} (h:fB W P w p T) (a:Option Addr) (n c:Nat) (ls:List Nm) (a':Option Addr) (n' c':Nat) (ls':List Nm) (hS:aG S w a n (ls.map strOf)) (hS':aG S' w a' n' (ls'.map strOf)) (hc':n'≤c') (jd:n'≤1000000):
  Calls Tryz.prog 16 #[ptr p, .slice a n c, .slice a' n' c'] w (gu W P w p (aO T ls ls').2 (.int .i64 (aO T ls ls').1)):=by
 obtain⟨g,D,mb,ib,nb,hA,hF⟩:=h.at_
 exact(Ct a n c ls a' n' c' ls' w hA h.ok hS hS' hc' jd).mono fun e w' ht=>fB.Cu hF h.below h.low ht (h.ok.aO _ _)
theorem JE (h:fB W P w p T) (id:Int) (hid:(Lit.int .i64 id).wf=true):
  Calls Tryz.prog 95 #[ptr p, .int .i64 id] w fun e w'=>e= .returned (.tuple #[jy T id, .bool (aj id T).isSome])∧Below w.heap.size w w':=by
 obtain⟨g,D,mb,ib,nb,hAt,hF⟩:=h.at_
 exact FN id w hAt hid
theorem za (h:fB W P w p T):Calls Tryz.prog 48 #[ptr p] w fun e w'=>e= .returned (.int .i64 T.length)∧w=w':=by
 obtain⟨g,D,mb,ib,nb,hAt,hF⟩:=h.at_
 exact Dt w hAt
theorem F9 (W w:World) (hB:Below W.heap.size W w):Calls Tryz.prog 10 #[] w fun e w'=>∃p,e= .returned (ptr p)∧fB W (fun x=>x<w.heap.size) w' p jE∧Below w.heap.size w w':=by
 refine(Cq w).mono ?_
 rintro e w' ⟨g,mb,ib,nb,p,rfl,hA,hg,hb⟩
 have hs:=hB.size
 refine⟨p,rfl,⟨⟨g,_,mb,ib,nb,hA,fun b hb=> ?_⟩,Cr,hB.trans (hb.mono hs),fun x hx=>Nat.lt_of_lt_of_le hx hb.size⟩,hb⟩
 rcases hb with hb|hb
 ·have:=hg b hb;omega
 ·exact hb.elim
end
theorem iR (T:aH):∀(p q:List Nm) (a:Int),aF T a (p++q)=if (aF T a p).2=0 then aF T (aF T a p).1 q else aF T a p
 |[],q,a=>by simp[aF]
 |n::r,q,a=>by
  rcases Option.eq_none_or_eq_some (aj a T)with hx|⟨x,hx⟩
  ·simp[aF,hx]
  ·by_cases hk:x.kind=2
   ·rcases Option.eq_none_or_eq_some (aj n x.names)with hn|⟨k,hn⟩
    ·simp[aF,hx,hk,hn]
    ·simp only[List.cons_append,aF,hx,if_pos hk,hn]
     exact iR T r q k
   ·simp[aF,hx,hk]
theorem bS {T:aH} {p:List Nm} {id:Int} (h:aF T 0 p=(id,0)) (hp:p≠[]):∃d x n,aC T p=(d,n,0)∧aF T 0 p.dropLast=(d,0)∧aj d T=some x∧x.kind=2∧aj n x.names=some id∧n∈p∧p=p.dropLast++[n]:=by
 obtain⟨q,n,rfl⟩:∃q n,p=q++[n]:=⟨p.dropLast,p.getLast hp,(List.dropLast_concat_getLast hp).symm⟩
 rw[iR]at h
 have hd:(q++[n]).dropLast=q:=by simp
 have hl:(q++[n]).getLastD []=n:=by simp[List.getLastD_eq_getLast?]
 by_cases he:(aF T 0 q).2=0
 ·rw[if_pos he]at h
  obtain⟨⟨d,e0⟩,hq⟩:∃r,r=aF T 0 q:=⟨_,rfl⟩
  rw[←hq]at h he
  simp only at he
  subst he
  simp only[aF]at h
  cases hx:aj d T with
  |none=>rw[hx]at h;cases h
  |some x=>
   rw[hx]at h
   simp only at h
   by_cases hk:x.kind=2
   ·rw[if_pos hk]at h
    cases hn:aj n x.names with
    |none=>rw[hn]at h;cases h
    |some k=>
     rw[hn]at h
     simp only[Prod.mk.injEq,and_true]at h
     subst h
     refine⟨d,x,n,?_,by rw[hd,←hq],hx,hk,hn,by simp,by rw[hd]⟩
     unfold aC
     rw[if_neg hp,hd,hl,←hq,if_neg (by simp),if_pos ((b_ hx).trans hk)]
   ·rw[if_neg hk]at h;cases h
 ·rw[if_neg he]at h
  rw[h]at he
  exact absurd rfl he
theorem Ga {α:Type} {κ:Type} [DecidableEq κ] {lt:κ→κ→Bool} (L:kr lt) (P:κ×α→Bool) {l:List (κ×α)} (hs:aP lt l) {k:κ} {v:α} (hg:aj k l=some v):(bH k l).countP P+(if P (k,v)then 1 else 0)=l.countP P:=by
 induction l with
 |nil=>cases hg
 |cons y r ih=>
  have hp:=hs.apart L
  obtain⟨h1,h2⟩:=List.pairwise_cons.1 hp
  rw[fF]at hg
  have Ol:bH k (y::r)=if y.1=k then bH k r else y::bH k r:=by
   unfold bH
   rw[List.filter_cons]
   by_cases hy:y.1=k<;>simp[hy]
  rw[Ol]
  by_cases hy:y.1=k
  ·rw[if_pos hy]at hg
   rw[if_pos hy]
   cases hg
   have hr:bH k r=r:=by
    unfold bH
    rw[List.filter_eq_self]
    intro q hq
    have:=h1 q hq
    simp only[Bool.not_eq_true',decide_eq_false_iff_not]
    exact fun e=>this (hy.trans e.symm)
   have e:(k,y.2)=y:=by rw[←hy]
   rw[hr,List.countP_cons,e]
  ·rw[if_neg hy]at hg
   rw[if_neg hy,List.countP_cons,List.countP_cons]
   have:=ih (List.pairwise_cons.1 hs).2 hg
   omega
theorem LZ {x:bF} (h:Ci x) {n:Nm} {id:Int} (hn:aj n x.names=some id) (k:Int):cn k {x with names:=bH n x.names}+(if id=k then 1 else 0)=cn k x:=by
 have:=Ga uD (fun e:Nm×Int=>decide (e.2=k)) h.sorted hn
 unfold cn
 simp only[decide_eq_true_eq]at this
 exact this
theorem JF {x:bF} (h:Ci x) (n:Nm) (hk:x.kind=2):Ci {x with names:=bH n x.names}:=by
 refine⟨h.kind,fun h1=> ?_,h.dir,h.gone,h.sorted.bH _,fun e he=>h.good e (List.mem_filter.1 he).1,h.size,h.links,h.aQ⟩
 have:x.kind=1:=h1
 omega
theorem tF.cut {T:aH} (h:tF T) {d:Int} {x:bF} {n:Nm} (hx:aj d T=some x) (hk:x.kind=2):tF (aA T d n):=
 h.bf hx (JF (h.each d x hx) n hk) rfl (fun e he=>h.leads d x hx e (List.mem_filter.1 he).1)
theorem tF.del {T:aH} (h:tF T) {k:Int} {x:bF} (hx:aj k T=some x) (h0:k≠0) (hc:fZ T k=0):tF (bH k T):=by
 have hget:∀j y,aj j (bH k T)=some y→j≠k∧aj j T=some y:=fun j y hy=>by
  rw[eD]at hy
  by_cases hj:j=k
  ·rw[if_pos hj]at hy;cases hy
  ·rw[if_neg hj]at hy;exact⟨hj,hy⟩
 refine⟨h.sorted.bH _,?_,fun j y hy=>h.each j y (hget j y hy).2,fun j y hy e he=> ?_,?_,fun j y hy=>h.ids j y (hget j y hy).2⟩
 ·have hr:=h.root
  unfold bZ at hr⊢
  rw[eD,if_neg (Ne.symm h0)]
  exact hr
 ·have h1:=h.leads j y (hget j y hy).2 e he
  have h2:=tT hc (hget j y hy).2 e he
  rw[eD,if_neg h2]
  exact h1
 ·have:=nZ dR h.sorted hx
  have:=h.len
  omega
theorem mF {T:aH} (h:tF T) {d id:Int} {x:bF} {n:Nm} (hx:aj d T=some x) (hn:aj n x.names=some id) (j:Int):fZ (aA T d n) j+(if id=j then 1 else 0)=fZ T j:=by
 have h1:=jL h.sorted (fun x=>{x with names:=bH n x.names}) hx j
 have h2:=LZ (h.each d x hx) hn j
 unfold aA
 omega
theorem xP {T:aH} {d j:Int} {n:Nm} {y:bF} (hy:aj j (aA T d n)=some y):∃z,aj j T=some z∧y.links=z.links∧y.kind=z.kind∧y.closed=z.closed∧y.b=z.b∧(j≠d→y=z):=by
 unfold aA at hy
 rw[aS]at hy
 by_cases hj:j=d
 ·rw[if_pos hj]at hy
  cases hz:aj j T with
  |none=>rw[hz]at hy;cases hy
  |some z=>
   rw[hz]at hy
   simp only[Option.map_some,Option.some.injEq]at hy
   subst hy
   exact⟨z,rfl,rfl,rfl,rfl,rfl,fun h=>absurd hj h⟩
 ·rw[if_neg hj]at hy
  exact⟨y,hy,rfl,rfl,rfl,rfl,fun _=>rfl⟩
theorem dA.Cw {T:aH} (h:dA T) {d id:Int} {x y:bF} {n:Nm} (hx:aj d T=some x) (hk:x.kind=2) (hn:aj n x.names=some id) (hy:aj id T=some y) (hid:id≠d) (h0:id≠0) (hyn:y.names=[]) (hl:y.links=1):dA (bH id (aA T d n)):=by
 have hP:=h.totF.cut (n:=n) hx hk
 have hy1:aj id (aA T d n)=some y:=by unfold aA;rw[aS,if_neg hid];exact hy
 have hc:=h.counts id y hy h0
 have h1:=mF h.totF hx hn id
 rw[if_pos rfl]at h1
 refine⟨hP.del hy1 h0 (by omega),fun j z hz hj=> ?_⟩
 have hji:j≠id:=fun e=>by subst e;rw[kX]at hz;cases hz
 rw[eD,if_neg hji]at hz
 obtain⟨z',hz',hl',_⟩:=xP hz
 have h2:=mF h.totF hx hn j
 rw[if_neg (Ne.symm hji)]at h2
 have h3:=rR hP.sorted hy1 j
 have h4:cn j y=0:=by unfold cn;rw[hyn];rfl
 have:=h.counts j z' hz' hj
 omega
theorem dA.Gb {T:aH} (h:dA T) {d id:Int} {x y:bF} {n:Nm} (hx:aj d T=some x) (hk:x.kind=2) (hn:aj n x.names=some id) (hy:aj id T=some y) (hyk:y.kind≠2):
  dA (fG (Go.Proofs.YtohpcppeajijnaaGreat.bf id (fun x=>{x with links:=x.links-1}) (aA T d n)) id):=by
 have hoy:=h.each id y hy
 have h0:=h.oV hy hyk
 have hid:id≠d:=fun e=>by subst e;rw[hx]at hy;cases hy;exact hyk hk
 have hk1:=hoy.kind.resolve_right hyk
 have hyn:=hoy.file hk1
 have hP:=h.totF.cut (n:=n) hx hk
 have hy1:aj id (aA T d n)=some y:=by unfold aA;rw[aS,if_neg hid];exact hy
 have hg:aj id (Go.Proofs.YtohpcppeajijnaaGreat.bf id (fun x=>{x with links:=x.links-1}) (aA T d n))=some {y with links:=y.links-1}:=by rw[aS,if_pos rfl,hy1];rfl
 have hcy:=h.counts id y hy h0
 have h1:=mF h.totF hx hn id
 rw[if_pos rfl]at h1
 unfold fG
 rw[hg]
 simp only
 by_cases hc:y.links-1=0∧y.closed=true
 ·rw[if_pos hc]
  have e:bH id (Go.Proofs.YtohpcppeajijnaaGreat.bf id (fun x=>{x with links:=x.links-1}) (aA T d n))=bH id (aA T d n):=by
   generalize aA T d n=L
   unfold bH Go.Proofs.YtohpcppeajijnaaGreat.bf
   induction L with
   |nil=>rfl
   |cons y r ih=>
    rw[List.map_cons,List.filter_cons,List.filter_cons,ih]
    by_cases hy:y.1=id<;>simp[hy]
  rw[e]
  exact h.Cw hx hk hn hy hid h0 hyn (by omega)
 ·rw[if_neg hc]
  refine⟨hP.bf (f:=fun x=>{x with links:=x.links-1}) hy1 ⟨hoy.kind,hoy.file,fun h=>absurd h hyk,fun h=> ?_,hoy.sorted,hoy.good,hoy.size,?_,hoy.aQ⟩ rfl (hP.leads id y hy1),fun j z hz hj=> ?_⟩
  ·cases hcl:y.closed with
   |true=>exact absurd ⟨h,hcl⟩ hc
   |false=>rfl
  ·have:=hoy.links
   simp only
   omega
  ·have h3:=jL hP.sorted (fun x=>{x with links:=x.links-1}) hy1 j
   have h3':cn j {y with links:=y.links-1}=cn j y:=rfl
   have h4:=mF h.totF hx hn j
   rw[aS]at hz
   by_cases hji:j=id
   ·subst hji
    rw[if_pos rfl,hy1]at hz
    simp only[Option.map_some,Option.some.injEq]at hz
    rw[if_pos rfl]at h4
    rw[←hz]
    simp only
    omega
   ·rw[if_neg hji]at hz
    rw[if_neg (Ne.symm hji)]at h4
    obtain⟨z',hz',hl',_⟩:=xP hz
    have:=h.counts j z' hz' hj
    omega
theorem xQ {T:aH} {p:List Nm} (h:gH T p=0):bO p=0∧(aF T 0 p).2=0∧bZ T (aF T 0 p).1≠2:=by
 unfold gH iD at h
 by_cases h1:bO p≠0
 ·rw[if_pos h1]at h
  simp only[if_pos h1]at h
  exact absurd h h1
 ·rw[if_neg h1]at h
  by_cases h2:(aF T 0 p).2≠0
  ·rw[if_pos h2]at h;exact absurd h h2
  ·rw[if_neg h2]at h
   by_cases h3:bZ T (aF T 0 p).1=2
   ·rw[if_pos h3]at h;cases h
   ·exact⟨by omega,by omega,h3⟩
theorem dA.bQ {T:aH} (h:dA T) (p:List Nm):dA (bQ T p).2:=by
 unfold Go.Proofs.YtohpcppeajijnaaGreat.bQ
 by_cases he:gH T p=0
 ·simp only[if_pos he]
  obtain⟨h1,h2,h3⟩:=xQ he
  obtain⟨y,hy⟩:=Option.isSome_iff_exists.1 (fA h p 0 (dW h) h2)
  have hp:p≠[]:=fun e=>by subst e;exact h3 h.root
  obtain⟨d,x,n,e1,_,hx,hk,hn,_⟩:=bS (id:=(aF T 0 p).1) (Prod.ext rfl h2) hp
  rw[b_ hy]at h3
  unfold mo
  rw[e1]
  exact h.Gb hx hk hn hy h3
 ·simp only[if_neg he];exact h
theorem ze {T:aH} {p:List Nm} (h:gL T p=0):bO p=0∧(aF T 0 p).2=0∧bZ T (aF T 0 p).1=2∧(aF T 0 p).1≠0∧bB T (aF T 0 p).1=[]:=by
 unfold gL iD at h
 by_cases h1:bO p≠0
 ·rw[if_pos h1]at h
  simp only[if_pos h1]at h
  exact absurd h h1
 ·rw[if_neg h1]at h
  by_cases h2:(aF T 0 p).2≠0
  ·rw[if_pos h2]at h;exact absurd h h2
  ·rw[if_neg h2]at h
   by_cases h3:bZ T (aF T 0 p).1≠2
   ·rw[if_pos h3]at h;cases h
   ·rw[if_neg h3]at h
    by_cases h4:(aF T 0 p).1=0
    ·rw[if_pos h4]at h;cases h
    ·rw[if_neg h4]at h
     by_cases h5:0<(bB T (aF T 0 p).1).length
     ·rw[if_pos h5]at h;cases h
     ·exact⟨by omega,by omega,by omega,h4,List.eq_nil_of_length_eq_zero (by omega)⟩
theorem dA.cO {T:aH} (h:dA T) (p:List Nm):dA (cO T p).2:=by
 unfold Go.Proofs.YtohpcppeajijnaaGreat.cO
 by_cases he:gL T p=0
 ·simp only[if_pos he]
  obtain⟨h1,h2,h3,h4,h5⟩:=ze he
  obtain⟨y,hy⟩:=Option.isSome_iff_exists.1 (fA h p 0 (dW h) h2)
  have hp:p≠[]:=fun e=>by subst e;exact h4 rfl
  obtain⟨d,x,n,e1,_,hx,hk,hn,_⟩:=bS (id:=(aF T 0 p).1) (Prod.ext rfl h2) hp
  have hyn:y.names=[]:=by unfold bB at h5;rw[hy]at h5;exact h5
  rw[b_ hy]at h3
  unfold qy
  rw[e1]
  refine h.Cw hx hk hn hy (fun e=> ?_) h4 hyn ((h.each _ y hy).dir h3).1
  rw[e,hx]at hy
  cases hy
  rw[hyn]at hn
  cases hn
 ·simp only[if_neg he];exact h
end Go.Proofs.YtohpcppeajijnaaGreat
