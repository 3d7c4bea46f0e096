/- All paths of a node, plainly. All paths, whatever the order of a directory's names. What links of package tree visits, plainly; which loaded tree is right. A loaded tree that is right is one of ours. What is committed stays. What snapshots are like that can be read back. -/
import Derived.Test.YtjnhnlabpccgjaaGreatM14
import Derived.Test.YtjnhnlabpccgjaaGreatM36
import Derived.Test.YtjnhnlabpccgjaaGreatM29
import Derived.Test.YtjnhnlabpccgjaaGreatM22
import Derived.Test.YtjnhnlabpccgjaaGreatM34
namespace Go.Proofs.YtjnhnlabpccgjaaGreat
open Go.ChangeShapes Go.WideShapes Go.ChangeAt Go.RowKit
set_option linter.unusedVariables false
set_option linter.unusedSimpArgs false
def kU (T:aA) (id:Int):Nat→Int→List Nm→List (List Nm)
 |0,a,p=>if a=id then[p]else[]
 |n+1,a,p=>(if a=id then[p]else[])++(aY T a).flatMap fun e=>kU T id n e.2 (p++[e.1])
theorem qw {T:aA} {id:Int}:∀(n:Nat) (a:Int) (p q:List Nm),q∈kU T id n a p→∃s,q=p++s
 |0,a,p,q,h=>by
  unfold kU at h
  split at h
  ·simp only[List.mem_singleton]at h
   exact⟨[],by simp[h]⟩
  ·cases h
 |n+1,a,p,q,h=>by
  unfold kU at h
  rcases List.mem_append.1 h with h|h
  ·split at h
   ·simp only[List.mem_singleton]at h
    exact⟨[],by simp[h]⟩
   ·cases h
  ·obtain⟨e,_,he⟩:=List.mem_flatMap.1 h
   obtain⟨s,hs⟩:=qw n e.2 _ q he
   exact⟨e.1::s,by rw[hs];simp⟩
theorem wI {T:aA} (hT:OkW T) {id:Int}:∀(n:Nat) (a:Int) (p q:List Nm),(aj a T).isSome=true→Kr T n a→(q∈kU T id n a p↔∃s,q=p++s∧aL T a s=(id,0))
 |0,a,p,q,ha,hs=>by
  unfold kU
  constructor
  ·intro h
   split at h
   ·rename_i he
    simp only[List.mem_singleton]at h
    exact⟨[],by simp[h],by simp[aL,he]⟩
   ·cases h
  ·rintro ⟨s,rfl,hl⟩
   cases s with
   |nil=>
    have:a=id:=congrArg Prod.fst hl
    rw[if_pos this]
    simp
   |cons m r=>
    obtain⟨x,k,hx,_,hn,_⟩:=mR hl
    have h1:aY T a=[]:=hs
    rw[gq hx]at h1
    rw[h1]at hn
    cases hn
 |n+1,a,p,q,ha,hs=>by
  unfold kU
  rw[List.mem_append,List.mem_flatMap]
  constructor
  ·rintro (h|⟨e,he,h⟩)
   ·split at h
    ·rename_i he
     simp only[List.mem_singleton]at h
     exact⟨[],by simp[h],by simp[aL,he]⟩
    ·cases h
   ·obtain⟨x,hx,hm⟩:=lC he
    obtain⟨s,h1,h2⟩:=(wI hT n e.2 _ q (hT.leads a x hx e hm).1 (hs e he)).1 h
    refine⟨e.1::s,by rw[h1];simp,?_⟩
    unfold aL
    rw[hx]
    simp only
    rw[if_pos (lD hT hx hm),aI qK (hT.each a x hx).sorted hm]
    exact h2
  ·rintro ⟨s,rfl,hl⟩
   cases s with
   |nil=>
    have:a=id:=congrArg Prod.fst hl
    left
    rw[if_pos this]
    simp
   |cons m r=>
    obtain⟨x,k,hx,_,hn,hr⟩:=mR hl
    have he:(m,k)∈aY T a:=by rw[gq hx];exact bC hn
    exact .inr ⟨(m,k),he,(wI hT n k _ _ (hT.leads a x hx _ (bC hn)).1 (hs _ he)).2 ⟨r,by simp,hr⟩⟩
theorem Dz {T:aA} (hT:OkW T) (a:Int):(aY T a).Pairwise fun e e'=>e.1≠e'.1:=by
 unfold aY
 cases hx:aj a T with
 |none=>exact List.Pairwise.nil
 |some x=>exact(hT.each a x hx).sorted.apart qK
theorem xw {T:aA} (hT:OkW T) {id:Int}:∀(n:Nat) (a:Int) (p:List Nm),(kU T id n a p).Nodup
 |0,a,p=>by
  unfold kU
  split<;>simp
 |n+1,a,p=>by
  unfold kU
  rw[List.nodup_append]
  refine⟨by split<;>simp,?_,fun q hq q' hq'=> ?_⟩
  ·unfold List.Nodup
   rw[List.pairwise_flatMap]
   refine⟨fun e _=>xw hT n e.2 _,(Dz hT a).imp fun{e e'} hne q hq q' hq' he=> ?_⟩
   obtain⟨s,h1⟩:=qw n e.2 _ q hq
   obtain⟨s',h2⟩:=qw n e'.2 _ q' hq'
   rw[h1,h2,List.append_assoc,List.append_assoc]at he
   have:=List.append_cancel_left he
   simp only[List.singleton_append,List.cons.injEq]at this
   exact hne this.1
  ·split at hq
   ·simp only[List.mem_singleton]at hq
    subst hq
    obtain⟨e,_,he⟩:=List.mem_flatMap.1 hq'
    obtain⟨s,h2⟩:=qw n e.2 _ q' he
    intro heq
    have:=congrArg List.length (heq.trans h2)
    simp at this
   ·cases hq
theorem Cq {T:aA} {dep:Int→Nat} (hT:OkW T) (hd:eX T dep):∀(n:Nat) (d:Int),dep d≤n→bI T d=2→∃q,aL T 0 q=(d,0)
 |n,d,hn,hk=>by
  by_cases h0:d=0
  ·exact⟨[],by rw[h0];rfl⟩
  ·obtain⟨x,hx,hxk⟩:=fu hk
   have hc:=hT.counts d x hx h0
   rw[((hT.each d x hx).dir hxk).1]at hc
   have hpos:0<eZ T d:=by omega
   have:∃q∈T,0<cn d q.2:=by
    unfold eZ at hpos
    cases hall:T.all (fun q=>cn d q.2==0)with
    |false=>
     rw[List.all_eq_false]at hall
     obtain⟨q,hq,h1⟩:=hall
     exact⟨q,hq,by simp at h1;omega⟩
    |true=>
     rw[List.all_eq_true]at hall
     have hz:(T.map fun q=>cn d q.2).sum=0:=by
      have:∀l:aA,(∀q∈l,cn d q.2=0)→(l.map fun q=>cn d q.2).sum=0:=by
       intro l
       induction l with
       |nil=>intro _;rfl
       |cons y r ih=>
        intro hh
        rw[List.map_cons,List.sum_cons,hh y (by simp),ih fun q hq=>hh q (by simp[hq])]
      exact this T fun q hq=>by simpa using hall q hq
     omega
   obtain⟨q,hq,hcq⟩:=this
   unfold cn at hcq
   rw[List.countP_pos_iff]at hcq
   obtain⟨e,he,hed⟩:=hcq
   simp only[decide_eq_true_eq]at hed
   have PS:=aI bH hT.sorted hq
   have hup:=(hd.up q.1 q.2 PS e he).2 (by rw[hed];exact hk)
   rw[hed]at hup
   match n,hn with
   |0,hn=>omega
   |n+1,hn=>
    obtain⟨p,hp⟩:=Cq hT hd n q.1 (by omega) ((dD PS).trans (lD hT PS he))
    refine⟨p++[e.1],?_⟩
    rw[fU,hp,if_pos rfl]
    unfold aL
    rw[PS]
    simp only
    rw[if_pos (lD hT PS he),aI qK (hT.each _ _ PS).sorted he]
    simp only
    rw[hed]
    rfl
open Classical in
noncomputable def QN (T:aA) (d:Int):List Nm:=if h:∃q,aL T 0 q=(d,0)then h.choose else[]
theorem uX {T:aA} {d:Int} (h:∃q,aL T 0 q=(d,0)):aL T 0 (QN T d)=(d,0):=by
 unfold QN
 rw[dif_pos h]
 exact h.choose_spec
noncomputable def JJ (T:aA) (id:Int):List (List Nm):=T.flatMap fun d=>(d.2.names.filter fun e=>decide (e.2=id)).map fun e=>QN T d.1++[e.1]
theorem Mf (T:aA) (id:Int):(JJ T id).length=eZ T id:=by
 unfold JJ eZ
 rw[List.length_flatMap]
 congr 1
 apply List.map_congr_left
 intro q _
 rw[List.length_map,cn,List.countP_eq_length_filter]
theorem tZ {α:Type} [DecidableEq α]:∀{l m:List α},l.Nodup→m.Nodup→(∀a,a∈l↔a∈m)→l.Perm m
 |[],m,_,_,h=>by
  have:m=[]:=List.eq_nil_iff_forall_not_mem.2 fun a ha=>by have:=(h a).2 ha;cases this
  rw[this]
 |x::r,m,hl,hm,h=>by
  have hx:x∈m:=(h x).1 (by simp)
  obtain⟨h1,h2⟩:=List.nodup_cons.1 hl
  have hp:=List.perm_cons_erase hx
  refine List.Perm.trans (List.Perm.cons x (tZ h2 (hm.erase x) fun a=> ?_)) hp.symm
  rw[hm.mem_erase_iff]
  constructor
  ·intro ha
   exact⟨fun e=>h1 (e▸ha),(h a).1 (by simp[ha])⟩
  ·rintro ⟨hne,ha⟩
   rcases List.mem_cons.1 ((h a).2 ha)with h3|h3
   ·exact absurd h3 hne
   ·exact h3
theorem FD {T:aA} (hO:Jd T) {id:Int} (h0:id≠0):(kU T id 8 0 []).length=eZ T id:=by
 obtain⟨hT,dep,hd⟩:=hO
 have hS:Kr T 8 0:=hd.Yb hT 0
 have wJ:∀d x,aj d T=some x→∀e∈x.names,aL T 0 (QN T d)=(d,0):=fun d x hx e he=>uX (Cq hT hd (dep d) d (Nat.le_refl _) ((dD hx).trans (lD hT hx he)))
 rw[←Mf]
 refine(tZ (xw hT 8 0 []) ?_ fun q=> ?_).length_eq
 ·unfold JJ List.Nodup
  rw[List.pairwise_flatMap]
  refine⟨fun d TT=> ?_,?_⟩
  ·rw[List.pairwise_map]
   have hs:=(hT.each _ _ (aI bH hT.sorted TT)).sorted.apart qK
   refine(List.Pairwise.filter _ hs).imp fun{e e'} hne he=>hne ?_
   have:=List.append_cancel_left he
   simpa using this
  ·refine(hT.sorted.apart bH).imp_of_mem fun{d d'} TT hdm' hne q hq q' hq' he=> ?_
   obtain⟨e,he1,rfl⟩:=List.mem_map.1 hq
   obtain⟨e',he2,rfl⟩:=List.mem_map.1 hq'
   have hl:=congrArg List.dropLast he
   rw[List.dropLast_concat,List.dropLast_concat]at hl
   have h1:=wJ d.1 d.2 (aI bH hT.sorted TT) e (List.mem_filter.1 he1).1
   have h2:=wJ d'.1 d'.2 (aI bH hT.sorted hdm') e' (List.mem_filter.1 he2).1
   rw[hl,h2]at h1
   exact hne (congrArg Prod.fst h1).symm
 ·rw[wI hT 8 0 [] q (iG hT) hS]
  unfold JJ
  rw[List.mem_flatMap]
  constructor
  ·rintro ⟨s,hqs,hl⟩
   rw[List.nil_append]at hqs
   rw[←hqs]at hl
   clear hqs
   have hs:q≠[]:=fun e=>by
    rw[e]at hl
    exact h0 (congrArg Prod.fst hl).symm
   obtain⟨d,x,n,-,hl1,hx,hxk,hn,_,e1⟩:=fZ hl hs
   have hmem:=bC hn
   have h2:=ny hT q.dropLast.length q.dropLast (QN T d) d (Nat.le_refl _) hl1 (wJ d x hx _ hmem) ((dD hx).trans hxk)
   refine⟨(d,x),bC hx,List.mem_map.2 ⟨(n,id),List.mem_filter.2 ⟨hmem,by simp⟩,?_⟩⟩
   rw[e1,h2]
  ·rintro ⟨d,TT,hq⟩
   obtain⟨e,he,rfl⟩:=List.mem_map.1 hq
   obtain⟨hen,TS⟩:=List.mem_filter.1 he
   simp only[decide_eq_true_eq]at TS
   have hx:=aI bH hT.sorted TT
   refine⟨QN T d.1++[e.1],rfl,?_⟩
   rw[fU,wJ d.1 d.2 hx e hen,if_pos rfl]
   unfold aL
   rw[hx]
   simp only
   rw[if_pos (lD hT hx hen),aI qK (hT.each _ _ hx).sorted hen]
   simp only
   rw[TS]
   rfl
def doneN (left:Nm→Bool) (l:List (Nm×Int)):List (Nm×Int):=l.filter fun e=> !left e.1
theorem t_ {left:Nm→Bool} {k:Nm} {j:Int}:∀{l:List (Nm×Int)},l.Pairwise (fun e e'=>e.1≠e'.1)→(k,j)∈l→left k=true→(doneN (fun z=>left z&& !decide (z=k)) l).Perm (doneN left l++[(k,j)])
 |[],_,h,_=>by cases h
 |y::r,hp,h,hl=>by
  obtain⟨h1,h2⟩:=List.pairwise_cons.1 hp
  unfold doneN
  rw[List.filter_cons,List.filter_cons]
  rcases List.mem_cons.1 h with h3|h3
  ·subst h3
   have hr:r.filter (fun e=> !(left e.1&& !decide (e.1=k)))=r.filter fun e=> !left e.1:=by
    apply List.filter_congr
    intro e he
    have hne:e.1≠k:=fun hh=>h1 e he hh.symm
    simp[hne]
   rw[hr]
   simp only[decide_true,Bool.not_true,Bool.and_false,Bool.not_false,if_true,hl]
   rw[if_neg (by decide)]
   exact(List.perm_append_singleton _ _).symm
  ·have hne:y.1≠k:=h1 (k,j) h3
   have ih:=t_ h2 h3 hl
   unfold doneN at ih
   have e1:(!(left y.1&& !decide (y.1=k)))= !left y.1:=by simp[hne]
   rw[e1]
   cases left y.1 with
   |true=>simpa using ih
   |false=>simpa using ih
theorem Iq {left:Nm→Bool} {l:List (Nm×Int)} (h:∀e∈l,left e.1=true):doneN left l=[]:=by
 unfold doneN
 rw[List.filter_eq_nil_iff]
 intro e he
 simp[h e he]
theorem Mg {left:Nm→Bool} {l:List (Nm×Int)} (h:∀k,left k=false):doneN left l=l:=by
 unfold doneN
 rw[List.filter_eq_self]
 intro e _
 simp[h e.1]
abbrev pF:=List (Int×Nat)
def iQ (C:pF) (j:Int):Nat:=(aj j C).getD 0
def sm (C:pF):Nat:=(C.map (·.2)).sum
def zc (T:aA) (C:pF):Nat:=T.countP fun q=>decide (q.2.kind=2)&&decide (iQ C q.1=0)
def Bn (T:aA) (C:pF):Nat:=sm C+65535*zc T C
def lX (C:pF) (k:Int):pF:=bM fQ k (iQ C k+1) C
theorem jG (C:pF) (k j:Int):iQ (lX C k) j=iQ C j+if j=k then 1 else 0:=by
 unfold lX
 unfold iQ
 rw[dL]
 by_cases h:j=k
 ·subst h;rw[if_pos rfl,if_pos rfl];rfl
 ·rw[if_neg h,if_neg h];rfl
theorem oo (x:Int×Nat) (l:pF):sm (x::l)=x.2+sm l:=by unfold sm;rw[List.map_cons,List.sum_cons]
theorem JK (x:Int×Nat):∀l:pF,sm (gL fQ x l)=sm l+x.2
 |[]=>by unfold gL;rw[oo];omega
 |y::r=>by
  unfold gL
  split
  ·rw[oo,oo];omega
  ·rw[oo,oo,JK x r];omega
theorem DC (k:Int):∀{C:pF},aC fQ C→sm (bF k C)+iQ C k=sm C
 |[],_=>rfl
 |y::r,h=>by
  obtain⟨h1,h2⟩:=List.pairwise_cons.1 h
  by_cases hk:y.1=k
  ·have hn:aj k r=none:=f_.2 fun p hp e=>by
    have:=h1 p hp
    rw[hk,e]at this
    simp at this
   have e1:bF k (y::r)=bF k r:=by unfold bF;rw[List.filter_cons,if_neg (by simp[hk])]
   have e2:iQ (y::r) k=y.2:=by unfold iQ;rw[dZ,if_pos hk];rfl
   rw[e1,e2,jg hn,oo]
   omega
  ·have e1:bF k (y::r)=y::bF k r:=by unfold bF;rw[List.filter_cons,if_pos (by simp[hk])]
   have e2:iQ (y::r) k=iQ r k:=by unfold iQ;rw[dZ,if_neg hk]
   have:=DC k h2
   rw[e1,e2,oo,oo]
   omega
theorem Ir {C:pF} (h:aC fQ C) (k:Int):sm (lX C k)=sm C+1:=by
 have:=DC k h
 unfold lX bM
 rw[JK]
 dsimp only
 omega
theorem S9 {C:pF} (h:aC fQ C) (j:Int):iQ C j≤sm C:=by have:=DC j h;omega
theorem wK (T:aA) (C:pF) (k:Int):zc T (lX C k)≤zc T C:=by
 unfold zc
 apply List.countP_mono_left
 intro q _ h
 simp only[Bool.and_eq_true,decide_eq_true_eq,jG]at h⊢
 exact⟨h.1,by omega⟩
theorem Mh {T:aA} {C:pF} {k:Int} {x:bq} (hk:(k,x)∈T) (hx:x.kind=2) (h0:iQ C k=0):zc T (lX C k)+1≤zc T C:=by
 obtain⟨l1,l2,rfl⟩:=List.append_of_mem hk
 have h1:=wK l1 C k
 have h2:=wK l2 C k
 unfold zc at h1 h2⊢
 rw[List.countP_append,List.countP_append,List.countP_cons,List.countP_cons,if_neg (by simp[jG]),if_pos (by simp[hx,h0])]
 omega
theorem S_ {T:aA} {C:pF} (h:aC fQ C) (k:Int):Bn T (lX C k)≤Bn T C+1:=by
 have h1:=Ir h k
 have h2:=wK T C k
 unfold Bn
 omega
theorem Ta {T:aA} {C:pF} (h:aC fQ C) {k:Int} {x:bq} (hk:(k,x)∈T) (hx:x.kind=2) (h0:iQ C k=0):Bn T (lX C k)+65535≤Bn T C+1:=by
 have h1:=Ir h k
 have h2:=Mh hk hx h0
 unfold Bn
 omega
theorem Ao {C:pF} (h:aC fQ C) (k:Int):aC fQ (lX C k):=h.bM bH k _
def kE (T:aA):Nat→Int→List Int
 |0,_=>[]
 |n+1,id=>(aY T id).flatMap fun e=>e.2::(if bI T e.2=2 then kE T n e.2 else[])
def uY (T:aA):Nat→Int→Prop
 |0,id=>aY T id=[]
 |n+1,id=>∀e∈aY T id,(aj e.2 T).isSome=true∧e.2≠0∧(bI T e.2=2→uY T n e.2)
def gG (T:aA) (C:pF) (n:Nat) (id:Int):Prop:=uY T n id∧∀k∈kE T n id,bI T k=2→iQ C k+(kE T n id).count k≤1
def kF (T:aA) (n:Nat) (e:Nm×Int):List Int:=e.2::(if bI T e.2=2 then kE T n e.2 else[])
def EntOk (T:aA) (n:Nat) (e:Nm×Int):Prop:=(aj e.2 T).isSome=true∧e.2≠0∧(bI T e.2=2→uY T n e.2)
theorem jr (T:aA) (n:Nat) (id:Int):kE T (n+1) id=(aY T id).flatMap (kF T n):=rfl
structure kD (T:aA) (n:Nat) (C:pF) (D:List (Nm×Int)) (C':pF):Prop where
 sorted:aC fQ C'
 cnt:∀j,iQ C' j=iQ C j+(D.flatMap (kF T n)).count j
 ok:∀e∈D,EntOk T n e
 one:∀k∈D.flatMap (kF T n),bI T k=2→iQ C' k≤1
theorem kD.nil {T:aA} {n:Nat} {C:pF} (h:aC fQ C):kD T n C [] C:=⟨h,fun j=>rfl,fun e he=>(by cases he),fun k hk=>(by cases hk)⟩
theorem kD.perm {T:aA} {n:Nat} {C C':pF} {D D':List (Nm×Int)} (h:kD T n C D C') (hp:D'.Perm D):kD T n C D' C':=
 ⟨h.sorted,fun j=>by rw[h.cnt j,(hp.flatMap_right (kF T n)).count_eq],fun e he=>h.ok e (hp.mem_iff.1 he),fun k hk=>h.one k ((hp.flatMap_right (kF T n)).mem_iff.1 hk)⟩
theorem pG {T:aA} {n:Nat} (D:List (Nm×Int)) (e:Nm×Int):(D++[e]).flatMap (kF T n)=D.flatMap (kF T n)++kF T n e:=by simp
theorem kD.file {T:aA} {n:Nat} {C C':pF} {D:List (Nm×Int)} (h:kD T n C D C') {e:Nm×Int} (h1:(aj e.2 T).isSome=true) (h2:e.2≠0) (hk:bI T e.2≠2):kD T n C (D++[e]) (lX C' e.2):=by
 have he:kF T n e=[e.2]:=by unfold kF;rw[if_neg hk]
 refine⟨Ao h.sorted _,fun j=> ?_,fun y hy=> ?_,fun k hkm hk2=> ?_⟩
 ·rw[jG,h.cnt j,pG,he,List.count_append,List.count_singleton]
  by_cases hj:j=e.2
  ·subst hj;simp;omega
  ·simp[hj,Ne.symm hj]
 ·rcases List.mem_append.1 hy with hy|hy
  ·exact h.ok y hy
  ·simp only[List.mem_singleton]at hy
   subst hy
   exact⟨h1,h2,fun hh=>absurd hh hk⟩
 ·rw[pG,he]at hkm
  have hne:k≠e.2:=fun hh=>hk (hh▸hk2)
  rw[jG,if_neg hne,Nat.add_zero]
  rcases List.mem_append.1 hkm with hm|hm
  ·exact h.one k hm hk2
  ·simp only[List.mem_singleton]at hm
   exact absurd hm hne
theorem kD.dir {T:aA} {n:Nat} {C C' C2:pF} {D:List (Nm×Int)} (h:kD T n C D C') {e:Nm×Int} (h1:(aj e.2 T).isSome=true) (h2:e.2≠0) (hk:bI T e.2=2) (hz:iQ C' e.2=0)
  (hs:aC fQ C2) (hc:∀j,iQ C2 j=iQ (lX C' e.2) j+(kE T n e.2).count j) (hL:gG T (lX C' e.2) n e.2):kD T n C (D++[e]) C2:=by
 have he:kF T n e=e.2::kE T n e.2:=by unfold kF;rw[if_pos hk]
 have hce:∀j,iQ C2 j=iQ C' j+(kF T n e).count j:=fun j=>by
  rw[hc j,jG,he,List.count_cons]
  by_cases hj:j=e.2
  ·subst hj;simp;omega
  ·simp[hj,Ne.symm hj]
 have hin:∀k∈kF T n e,bI T k=2→iQ C2 k≤1:=fun k hkm hk2=>by
  rw[hc k]
  rw[he]at hkm
  by_cases hv:k∈kE T n e.2
  ·exact hL.2 k hv hk2
  ·rcases List.mem_cons.1 hkm with hm|hm
   ·subst hm
    rw[List.count_eq_zero_of_not_mem hv,jG,if_pos rfl,hz]
    exact Nat.le_refl _
   ·exact absurd hm hv
 refine⟨hs,fun j=> ?_,fun y hy=> ?_,fun k hkm hk2=> ?_⟩
 ·rw[pG,List.count_append,hce j,h.cnt j,Nat.add_assoc]
 ·rcases List.mem_append.1 hy with hy|hy
  ·exact h.ok y hy
  ·simp only[List.mem_singleton]at hy
   subst hy
   exact⟨h1,h2,fun _=>hL.1⟩
 ·by_cases hm:k∈kF T n e
  ·exact hin k hm hk2
  ·rw[pG]at hkm
   rcases List.mem_append.1 hkm with hm'|hm'
   ·rw[hce k,List.count_eq_zero_of_not_mem hm,Nat.add_zero]
    exact h.one k hm' hk2
   ·exact absurd hm' hm
theorem kD.all {T:aA} {n:Nat} {C C':pF} {id:Int} (h:kD T n C (aY T id) C'):gG T C (n+1) id∧∀j,iQ C' j=iQ C j+(kE T (n+1) id).count j:=by
 refine⟨⟨fun e he=>h.ok e he,fun k hk hk2=> ?_⟩,fun j=>h.cnt j⟩
 have:=h.one k hk hk2
 rw[h.cnt k]at this
 exact this
theorem JL {α:Type} (f:α→Nat) (p:α→Bool):∀l:List α,((l.filter p).map f).sum≤(l.map f).sum
 |[]=>Nat.le_refl _
 |x::r=>by
  have:=JL f p r
  rw[List.filter_cons]
  split
  ·rw[List.map_cons,List.map_cons,List.sum_cons,List.sum_cons];omega
  ·rw[List.map_cons,List.sum_cons];omega
theorem Ap {T:aA} {n:Nat} {l:List (Nm×Int)} {left:Nm→Bool} {e:Nm×Int} (hp:l.Pairwise fun e e'=>e.1≠e'.1) (he:e∈l) (hl:left e.1=true) (j:Int):
  ((doneN left l).flatMap (kF T n)).count j+(kF T n e).count j≤(l.flatMap (kF T n)).count j:=by
 have h1:=t_ (k:=e.1) (j:=e.2) hp he hl
 have h2:=(h1.flatMap_right (kF T n)).count_eq j
 rw[pG,List.count_append]at h2
 rw[←h2,List.count_flatMap,List.count_flatMap]
 exact JL _ _ _
theorem FE {T:aA} {C:pF} {n:Nat} {id:Int} {e:Nm×Int} (he:e∈aY T id) (h:¬((aj e.2 T).isSome=true∧e.2≠0)):¬gG T C (n+1) id:=fun hL=>h ⟨(hL.1 e he).1,(hL.1 e he).2.1⟩
theorem wL {T:aA} {C:pF} {id:Int} {e:Nm×Int} (he:e∈aY T id):¬gG T C 0 id:=fun hL=>by
 have h1:aY T id=[]:=hL.1
 rw[h1]at he
 cases he
theorem Qh {T:aA} {C C':pF} {n:Nat} {id:Int} {left:Nm→Bool} {e:Nm×Int} (hp:(aY T id).Pairwise fun e e'=>e.1≠e'.1) (he:e∈aY T id) (hl:left e.1=true) (h:kD T n C (doneN left (aY T id)) C') (hk:bI T e.2=2) (h1:1<iQ (lX C' e.2) e.2):¬gG T C (n+1) id:=fun hL=>by
 have h2:=Ap (T:=T) (n:=n) hp he hl e.2
 have h3:=hL.2 e.2 (by rw[jr];exact List.mem_flatMap.2 ⟨e,he,by unfold kF;simp⟩) hk
 rw[jr]at h3
 rw[jG,if_pos rfl,h.cnt]at h1
 have h4:1≤(kF T n e).count e.2:=by unfold kF;rw[List.count_cons];simp
 omega
theorem Qi {T:aA} {C C':pF} {n:Nat} {id:Int} {left:Nm→Bool} {e:Nm×Int} (hp:(aY T id).Pairwise fun e e'=>e.1≠e'.1) (he:e∈aY T id) (hl:left e.1=true) (h:kD T n C (doneN left (aY T id)) C') (hk:bI T e.2=2) (h1:¬gG T (lX C' e.2) n e.2):¬gG T C (n+1) id:=fun hL=>by
 refine h1 ⟨(hL.1 e he).2.2 hk,fun k hkv hk2=> ?_⟩
 have h2:=Ap (T:=T) (n:=n) hp he hl k
 have he':kF T n e=e.2::kE T n e.2:=by unfold kF;rw[if_pos hk]
 have h3:=hL.2 k (by rw[jr];exact List.mem_flatMap.2 ⟨e,he,by rw[he'];simp[hkv]⟩) hk2
 rw[jr]at h3
 rw[he',List.count_cons]at h2
 rw[jG,h.cnt]
 by_cases hj:k=e.2
 ·subst hj
  simp only[beq_self_eq_true,if_true]at h2⊢
  omega
 ·rw[if_neg hj]
  omega
def jT (T:aA):Prop:=bI T 0=2∧T.length≤64∧gG T [(0,1)] 8 0∧∀q∈T,(((if q.1=0 then 1 else 0)+(kE T 8 0).count q.1:Nat):Int)=q.2.links∧¬(q.2.links=0∧q.2.closed=true)
theorem FH (j:Int):iQ [(0,1)] j=if j=0 then 1 else 0:=by
 unfold iQ
 rw[dZ]
 by_cases h:(0:Int)=j
 ·rw[if_pos h,if_pos h.symm];rfl
 ·rw[if_neg h,if_neg (Ne.symm h)];rfl
theorem ig.UE {T:aA} (hT:eH T):qI T:=by
 refine⟨fun q hq=> ?_,hT.sorted,by have:=hT.len;omega⟩
 have hx:=aI bH hT.sorted hq
 have O:=hT.each _ _ hx
 have hi:=hT.ids _ _ hx
 have hl:=O.links
 have ht:=O.aP
 have hs:=O.size
 refine⟨⟨hi,?_,?_,?_,?_⟩,?_,O.file,O.sorted,O.good,fun e he=> ?_,by have:=hT.few hx;omega⟩
 ·show 0≤q.2.kind∧q.2.kind≤255
  rcases O.kind with h|h<;>omega
 ·show 0≤q.2.links∧q.2.links≤65535
  omega
 ·show 0≤(q.2.b.length:Int)∧(q.2.b.length:Int)≤65535
  omega
 ·show 0≤q.2.aP∧q.2.aP≤18446744073709551615
  omega
 ·rcases O.kind with h|h
  ·exact .inl ⟨h,by show(q.2.b.length:Int)≤4096;omega,ht.2⟩
  ·have hd:=O.dir h
   refine .inr ⟨h,?_,hd.2.2.2,hd.2.1⟩
   show(q.2.b.length:Int)=0
   rw[hd.2.2.1];rfl
 ·obtain⟨y,hy⟩:=Option.isSome_iff_exists.1 (hT.leads _ _ hx e he).1
  exact hT.ids _ _ hy
theorem eX.vis {T:aA} {dep:Int→Nat} (h:eX T dep) (hT:eH T):∀(n:Nat) (d:Int),8≤n+dep d→uY T n d
 |0,d,hd=>by
  show aY T d=[]
  cases hn:aY T d with
  |nil=>rfl
  |cons e r=>
   obtain⟨x,hx,he⟩:=lC (T:=T) (id:=d) (e:=e) (by rw[hn];simp)
   have:=(h.up d x hx e he).1
   omega
 |n+1,d,hd=>fun e he=>by
  obtain⟨x,hx,he⟩:=lC he
  have hl:=hT.leads d x hx e he
  exact⟨hl.1,hl.2,fun hk=>h.vis hT n e.2 (by have:=(h.up d x hx e he).2 hk;omega)⟩
theorem Aq {T:aA}:∀(n:Nat) (a:Int),uY T n a→(0:Int)∉kE T n a
 |0,a,_=>by unfold kE;simp
 |n+1,a,h=>by
  rw[jr,List.mem_flatMap]
  rintro ⟨e,he,hm⟩
  obtain⟨h1,h2,h3⟩:=h e he
  unfold kF at hm
  rcases List.mem_cons.1 hm with hm|hm
  ·exact h2 hm.symm
  ·split at hm
   ·rename_i hk
    exact Aq n e.2 (h3 hk) hm
   ·cases hm
theorem Iu {T:aA} (hT:eH T) {a:Int} (h:bI T a≠2):aY T a=[]:=by
 unfold aY
 unfold bI at h
 cases hx:aj a T with
 |none=>rfl
 |some x=>
  rw[hx]at h
  exact(hT.each a x hx).file ((hT.each a x hx).kind.resolve_right h)
theorem Cr {T:aA} (hT:eH T) (k:Int):∀(n:Nat) (a:Int) (p:List Nm),(kE T n a).count k+(if a=k then 1 else 0)=(kU T k n a p).length
 |0,a,p=>by
  unfold kE kU
  split<;>simp
 |n+1,a,p=>by
  rw[jr]
  unfold kU
  rw[List.length_append,List.count_flatMap,List.length_flatMap]
  have h1:(if a=k then[p]else[]).length=if a=k then 1 else 0:=by split<;>rfl
  rw[h1,Nat.add_comm]
  congr 1
  congr 1
  apply List.map_congr_left
  intro e he
  rw[←Cr hT k n e.2 (p++[e.1])]
  show(kF T n e).count k=_
  unfold kF
  rw[List.count_cons]
  have h2:(if bI T e.2=2 then kE T n e.2 else[])=kE T n e.2:=by
   split
   ·rfl
   ·rename_i hk
    cases n with
    |zero=>rfl
    |succ n=>
     rw[jr,Iu hT hk]
     rfl
  rw[h2]
  by_cases h3:e.2=k<;>simp[h3]
theorem Iw {T:aA} (hO:ig T):jT T:=by
 have hO':=hO
 obtain⟨hT,dep,hd⟩:=hO
 have hv:=hd.vis hT 8 0 (by omega)
 have h0:=Aq 8 0 hv
 have hcnt:∀k,k≠0→(kE T 8 0).count k=eZ T k:=fun k hk=>by
  have:=Cr hT k 8 0 []
  rw[if_neg (Ne.symm hk),Nat.add_zero,FD hO' hk]at this
  exact this
 refine⟨hT.root,hT.len,⟨hv,fun k hk hk2=> ?_⟩,fun q hq=> ?_⟩
 ·have hk0:k≠0:=fun e=>h0 (e▸hk)
  obtain⟨x,hx,hxk⟩:=fu hk2
  have h1:=hT.counts k x hx hk0
  rw[((hT.each k x hx).dir hxk).1]at h1
  rw[FH,if_neg hk0,hcnt k hk0]
  omega
 ·have hx:=aI bH hT.sorted hq
  have O:=hT.each _ _ hx
  refine⟨?_,fun hh=>by have:=O.gone hh.1;rw[hh.2]at this;cases this⟩
  by_cases hk0:q.1=0
  ·rw[if_pos hk0,hk0,List.count_eq_zero_of_not_mem h0]
   have hk2:q.2.kind=2:=by
    have:=hT.root
    rw[←hk0,dD hx]at this
    exact this
   rw[(O.dir hk2).1]
   rfl
  ·rw[if_neg hk0,hcnt _ hk0,Nat.zero_add]
   exact hT.counts _ _ hx hk0
theorem qI.get {T:aA} (h:qI T) {k:Int} {x:bq} (hx:aj k T=some x):sV k x:=h.each _ (bC hx)
theorem sV.Qj {k:Int} {x:bq} (h:sV k x):x.kind=1∨x.kind=2:=by
 rcases h.right with h1|h1
 ·exact .inl h1.1
 ·exact .inr h1.1
theorem sV.dir_ {k:Int} {x:bq} (h:sV k x) (hk:x.kind=2):x.closed=true∧x.b=[]∧x.aP=0:=by
 rcases h.right with h1|h1
 ·have h2:x.kind=1:=h1.1
  omega
 ·obtain⟨_,h2,h3,h4⟩:=h1
  refine⟨h4,List.eq_nil_of_length_eq_zero ?_,h3⟩
  have h5:(x.b.length:Int)=0:=h2
  omega
theorem Iy {T:aA} (h:qI T) {k:Int} {x:bq} (hx:aj k T=some x) {e:Nm×Int} (he:e∈x.names):x.kind=2:=by
 rcases (h.get hx).Qj with h1|h1
 ·rw[(h.get hx).file h1]at he;cases he
 ·exact h1
theorem wM {T:aA} {a k:Int} {x:bq} {n:Nm} (hx:aj a T=some x) (hk:x.kind=2) (hn:aj n x.names=some k) (r:List Nm):aL T a (n::r)=aL T k r:=by
 rw[aL,hx]
 simp only
 rw[if_pos hk,hn]
theorem FI {T:aA} (h:qI T):∀(n:Nat) (a:Int),uY T n a→∀k∈kE T n a,bI T k=2→∃q m,aL T a q=(k,0)∧q.length+m=n∧uY T m k
 |0,a,hv,k,hk,_=>by unfold kE at hk;cases hk
 |n+1,a,hv,k,hk,hk2=>by
  rw[jr,List.mem_flatMap]at hk
  obtain⟨e,he,hm⟩:=hk
  obtain⟨h1,h2,h3⟩:=hv e he
  obtain⟨x,hx,hex⟩:=lC he
  have hg:aj e.1 x.names=some e.2:=aI qK (h.get hx).sorted hex
  have hxk:=Iy h hx hex
  unfold kF at hm
  rcases List.mem_cons.1 hm with hm|hm
  ·subst hm
   exact⟨[e.1],n,by rw[wM hx hxk hg];rfl,by simp;omega,h3 hk2⟩
  ·split at hm
   ·rename_i hd
    obtain⟨q,m,q1,q2,q3⟩:=FI h n e.2 (h3 hd) k hm hk2
    exact⟨e.1::q,m,by rw[wM hx hxk hg];exact q1,by simp;omega,q3⟩
   ·cases hm
def WX (T:aA) (j d:Int):Nat:=(aY T d).countP fun e=>decide (e.2=j)
def isDir (T:aA) (d:Int):Bool:=decide (bI T d=2)
theorem JM {j:Int} {F G:Nm×Int→Nat}:∀(l:List (Nm×Int)),(∀e∈l,F e=(if e.2=j then 1 else 0)+G e)→(l.map F).sum=l.countP (fun e=>decide (e.2=j))+(l.map G).sum
 |[],_=>rfl
 |e::r,h=>by
  have h1:=h e (by simp)
  have h2:=JM r fun y hy=>h y (by simp[hy])
  rw[List.map_cons,List.map_cons,List.sum_cons,List.sum_cons,List.countP_cons,h1,h2]
  by_cases he:e.2=j<;>simp[he]<;>omega
theorem FJ {g:Int→Nat} {p:Int→Bool} {f:Nm×Int→List Int}:∀(l:List (Nm×Int)),(((l.flatMap f).filter p).map g).sum=(l.map fun e=>(((f e).filter p).map g).sum).sum
 |[]=>rfl
 |e::r=>by
  rw[List.flatMap_cons,List.filter_append,List.map_append,List.sum_append,List.map_cons,List.sum_cons,FJ r]
theorem JN {T:aA} (j:Int):∀(n:Nat) (a:Int),uY T n a→(kE T n a).count j=((a::(kE T n a).filter (isDir T)).map (WX T j)).sum
 |0,a,h=>by
  have h1:aY T a=[]:=h
  unfold kE
  simp[WX,h1]
 |n+1,a,h=>by
  rw[jr,List.count_flatMap,List.map_cons,List.sum_cons,FJ]
  unfold WX
  refine JM (aY T a) fun e he=> ?_
  obtain⟨h1,h2,h3⟩:=h e he
  show(kF T n e).count j=_
  unfold kF
  by_cases hk:bI T e.2=2
  ·rw[if_pos hk,List.count_cons,List.filter_cons,if_pos (show isDir T e.2=true by unfold isDir;exact decide_eq_true hk),JN j n e.2 (h3 hk)]
   unfold WX
   by_cases hj:e.2=j
   ·subst hj;simp;omega
   ·simp[hj]
  ·rw[if_neg hk,List.count_cons,List.filter_cons,if_neg (show ¬isDir T e.2=true by unfold isDir;simpa using hk)]
   by_cases hj:e.2=j<;>simp[hj]
theorem FK {α:Type} {p:α→Bool} {f g:α→Nat}:∀(l:List α),(∀q∈l,(p q=true→f q=g q)∧(p q=false→g q=0))→((l.filter p).map f).sum=(l.map g).sum
 |[],_=>rfl
 |q::r,h=>by
  have h1:=h q (by simp)
  have h2:=FK (p:=p) (f:=f) r fun y hy=>h y (by simp[hy])
  rw[List.filter_cons,List.map_cons,List.sum_cons]
  cases hp:p q with
  |true=>rw[if_pos rfl,List.map_cons,List.sum_cons,h1.1 hp,h2]
  |false=>rw[if_neg (by decide),h2,h1.2 hp];omega
theorem Iz {T:aA} (hP:qI T) (hR:jT T):Jd T:=by
 obtain⟨hroot,hlen,⟨hv,hone⟩,hlk⟩:=hR
 have h0:=Aq 8 0 hv
 have Qk:∀k x,aj k T=some x→x.kind=2→k=0∨k∈kE T 8 0:=fun k x hx hk=>by
  by_cases hk0:k=0
  ·exact .inl hk0
  ·right
   have h1:=hlk _ (bC hx)
   dsimp only at h1
   rw[if_neg hk0]at h1
   refine Decidable.byContradiction fun hm=>h1.2 ⟨?_,((hP.get hx).dir_ hk).1⟩
   have h2:=h1.1
   rw[List.count_eq_zero_of_not_mem hm]at h2
   exact h2.symm
 have wJ:∀k x,aj k T=some x→x.kind=2→∃q m,aL T 0 q=(k,0)∧q.length+m=8∧uY T m k:=fun k x hx hk=>by
  rcases Qk k x hx hk with h1|h1
  ·subst h1
   exact⟨[],8,rfl,rfl,hv⟩
  ·exact FI hP 8 0 hv k h1 (by rw[dD hx];exact hk)
 have hlead:∀k x,aj k T=some x→∀e∈x.names,(aj e.2 T).isSome=true∧e.2≠0∧∃q,aL T 0 q=(k,0)∧q.length<8:=fun k x hx e he=>by
  obtain⟨q,m,h1,h2,h3⟩:=wJ k x hx (Iy hP hx he)
  have hmem:e∈aY T k:=by rw[gq hx];exact he
  cases m with
  |zero=>
   have h4:aY T k=[]:=h3
   rw[h4]at hmem
   cases hmem
  |succ m=>
   have h4:=h3 e hmem
   exact⟨h4.1,h4.2.1,q,h1,by omega⟩
 have hcnt:∀j,(kE T 8 0).count j=eZ T j:=fun j=>by
  rw[JN j 8 0 hv]
  have hperm:((0:Int)::(kE T 8 0).filter (isDir T)).Perm ((T.filter fun q=>decide (q.2.kind=2)).map (·.1)):=by
   refine tZ (List.nodup_cons.2 ⟨fun hm=>h0 (List.mem_filter.1 hm).1,List.nodup_iff_count.2 fun a=> ?_⟩) ?_ fun a=> ?_
   ·by_cases ha:isDir T a=true
    ·rw[List.count_filter ha]
     by_cases hm:a∈kE T 8 0
     ·have:=hone a hm (of_decide_eq_true ha)
      omega
     ·rw[List.count_eq_zero_of_not_mem hm];omega
    ·rw[List.count_eq_zero_of_not_mem (fun hm=>ha (List.mem_filter.1 hm).2)];omega
   ·have h1:(T.filter fun q=>decide (q.2.kind=2)).Pairwise fun p q=>p.1≠q.1:=List.Pairwise.filter _ (hP.sorted.apart bH)
    exact List.pairwise_map.2 h1
   ·rw[List.mem_cons,List.mem_filter,List.mem_map]
    constructor
    ·intro h
     have hk:bI T a=2:=by
      rcases h with h|h
      ·rw[h];exact hroot
      ·exact of_decide_eq_true h.2
     obtain⟨x,hx,hxk⟩:=fu hk
     exact⟨(a,x),List.mem_filter.2 ⟨bC hx,decide_eq_true hxk⟩,rfl⟩
    ·rintro ⟨q,hq,rfl⟩
     obtain⟨hq1,hq2⟩:=List.mem_filter.1 hq
     have hx:=aI bH hP.sorted hq1
     have hk:=of_decide_eq_true hq2
     rcases Qk _ _ hx hk with h|h
     ·exact .inl h
     ·exact .inr ⟨h,decide_eq_true (by rw[dD hx];exact hk)⟩
  rw[(hperm.map (WX T j)).sum_nat,List.map_map]
  unfold eZ
  refine FK T fun q hq=> ?_
  have hx:=aI bH hP.sorted hq
  refine⟨fun _=> ?_,fun hk=> ?_⟩
  ·show WX T j q.1=cn j q.2
   unfold WX cn
   rw[gq hx]
  ·have hk1:q.2.kind=1:=(hP.get hx).Qj.resolve_right (of_decide_eq_false hk)
   unfold cn
   rw[(hP.get hx).file hk1]
   rfl
 have hM:OkW T:=by
  refine⟨⟨hP.sorted,hroot,fun k x hx=> ?_,fun k x hx e he=>⟨(hlead k x hx e he).1,(hlead k x hx e he).2.1⟩,hlen,fun k x hx=> ?_⟩,fun k x hx hk0=> ?_⟩
  ·have hp:=hP.get hx
   have h1:=hlk _ (bC hx)
   have ol:=hp.ok.links
   have ot:=hp.ok.aP
   refine⟨hp.Qj,hp.file,fun hk=> ?_,fun hz=> ?_,hp.sorted,hp.good,?_,ol,⟨ot.1,?_⟩⟩
   ·obtain⟨d1,d2,d3⟩:=hp.dir_ hk
    refine⟨?_,d1,d2,d3⟩
    have h2:=h1.1
    dsimp only at h2
    by_cases hk0:k=0
    ·rw[if_pos hk0,hk0,List.count_eq_zero_of_not_mem h0]at h2
     exact h2.symm
    ·rw[if_neg hk0]at h2
     rcases Qk k x hx hk with h3|h3
     ·exact absurd h3 hk0
     ·have h4:=hone k h3 (by rw[dD hx];exact hk)
      have h5:=List.count_pos_iff.2 h3
      omega
   ·cases hc:x.closed with
    |false=>rfl
    |true=>exact absurd ⟨hz,hc⟩ h1.2
   ·rcases hp.right with h2|h2
    ·have h3:(x.b.length:Int)≤4096:=h2.2.1
     omega
    ·have h3:(x.b.length:Int)=0:=h2.2.1
     omega
   ·rcases hp.right with h2|h2
    ·exact h2.2.2
    ·have h3:x.aP=0:=h2.2.2.1
     show x.aP≤_
     omega
  ·exact(hP.get hx).ok.id
  ·have h1:=(hlk _ (bC hx)).1
   dsimp only at h1
   rw[if_neg hk0,hcnt k,Nat.zero_add]at h1
   exact h1
 refine⟨hM,fun d=>(QN T d).length,?_,fun d x hx e he=> ?_⟩
 ·have:=ny hM _ (QN T 0) [] 0 (Nat.le_refl _) (uX ⟨[],rfl⟩) rfl hroot
  rw[this];rfl
 ·obtain⟨_,_,q,hq,hlt⟩:=hlead d x hx e he
  have hxk:=Iy hP hx he
  have e1:=ny hM _ (QN T d) q d (Nat.le_refl _) (uX ⟨q,hq⟩) hq ((dD hx).trans hxk)
  rw[e1]
  refine⟨hlt,fun hk=> ?_⟩
  have hp2:aL T 0 (q++[e.1])=(e.2,0):=by
   rw[fU,hq,if_pos rfl]
   rw[wM hx hxk (aI qK (hM.each d x hx).sorted he)]
   rfl
  have e2:=ny hM _ (QN T e.2) (q++[e.1]) e.2 (Nat.le_refl _) (uX ⟨_,hp2⟩) hp2 hk
  rw[e2]
  simp
theorem FL (T:aA) (j:Int):gK (bf T) j≠0:=by
 unfold bf
 refine tT _ T j ?_
 by_cases h:j∈iW T
 ·exact .inl h
 ·right
  have hn:aj j T=none:=f_.2 fun q hq e=>h (by unfold iW;exact List.mem_map.2 ⟨q,hq,e⟩)
  unfold gK
  rw[hn]
  decide
theorem Ar:∀(L:List Int) (T:aA),(∀id,gK T id≠0)→L.foldl (fun S id=>(cu S id).2) T=T
 |[],_,_=>rfl
 |a::r,T,h=>by
  rw[List.foldl_cons]
  have e:(cu T a).2=T:=by unfold cu;exact if_neg (h a)
  rw[e]
  exact Ar r T h
theorem DF (T:aA):bf (bf T)=bf T:=Ar _ _ (FL T)
structure rP (S:jc):Prop where
 next:1≤S.next
 last:(S.next=1→S.last=[])∧(S.next≠1→S.last.length=32)
 each:∀x∈S.l,(1≤x.id∧x.id<S.next)∧x.hash.length=32∧bf x.t=x.t
 up:S.l.Pairwise fun x y=>x.id<y.id
theorem rP.new:rP kN:=⟨by decide,⟨fun _=>rfl,fun h=>absurd rfl h⟩,fun x hx=>(by cases hx),List.Pairwise.nil⟩
theorem rP.take {S:jc} (h:rP S) (T:aA):rP (dI S T).2:=by
 unfold dI
 have hn:=h.next
 split
 ·exact h
 ·refine⟨by show 1≤S.next+1;omega,⟨fun e=>by have e1:S.next+1=1:=e;omega,fun _=>rE _⟩,fun x hx=> ?_,?_⟩
  ·rcases List.mem_append.1 hx with hx|hx
   ·have:=h.each x hx
    exact⟨⟨this.1.1,by have:=this.1.2;show x.id<S.next+1;omega⟩,this.2⟩
   ·rw[List.mem_singleton.1 hx]
    exact⟨⟨hn,by show S.next<S.next+1;omega⟩,rE _,DF T⟩
  ·show(S.l++[_]).Pairwise _
   rw[List.pairwise_append]
   refine⟨h.up,List.pairwise_singleton _ _,fun x hx y hy=> ?_⟩
   rw[List.mem_singleton.1 hy]
   exact(h.each x hx).1.2
end Go.Proofs.YtjnhnlabpccgjaaGreat
