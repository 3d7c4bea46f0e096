/- What links of package tree visits, plainly; which loaded tree is right. A loaded tree that is right is one of ours. A node that is loaded is laid into a tree. -/
import Derived.Test.YtohpcppeajijnaaGreatM38
import Derived.Test.YtohpcppeajijnaaGreatM39
import Derived.Test.YtohpcppeajijnaaGreatM13
namespace Go.Proofs.YtohpcppeajijnaaGreat
open Go.ChangeShapes Go.WideShapes Go.ChangeAt Go.RowKit
set_option linter.unusedVariables false
set_option linter.unusedSimpArgs false
abbrev nS:=List (Int×Nat)
def iE (C:nS) (j:Int):Nat:=(aj j C).getD 0
def sm (C:nS):Nat:=(C.map (·.2)).sum
def zc (T:aF) (C:nS):Nat:=T.countP fun q=>decide (q.2.kind=2)&&decide (iE C q.1=0)
def yu (T:aF) (C:nS):Nat:=sm C+65535*zc T C
def kM (C:nS) (k:Int):nS:=bT fT k (iE C k+1) C
theorem jm (C:nS) (k j:Int):iE (kM C k) j=iE C j+if j=k then 1 else 0:=by
 unfold kM
 unfold iE
 rw[eY]
 by_cases h:j=k
 ·subst h;rw[if_pos rfl,if_pos rfl];rfl
 ·rw[if_neg h,if_neg h];rfl
theorem mW (x:Int×Nat) (l:nS):sm (x::l)=x.2+sm l:=by unfold sm;rw[List.map_cons,List.sum_cons]
theorem E5 (x:Int×Nat):∀l:nS,sm (gy fT x l)=sm l+x.2
 |[]=>by unfold gy;rw[mW];omega
 |y::r=>by
  unfold gy
  split
  ·rw[mW,mW];omega
  ·rw[mW,mW,E5 x r];omega
theorem Au (k:Int):∀{C:nS},aI fT C→sm (bg k C)+iE C k=sm C
 |[],_=>rfl
 |y::r,h=>by
  obtain⟨h1,h2⟩:=List.pairwise_cons.1 h
  by_cases hk:y.1=k
  ·have hn:aj k r=none:=gZ.2 fun p hp e=>by
    have:=h1 p hp
    rw[hk,e]at this
    simp at this
   have e1:bg k (y::r)=bg k r:=by unfold bg;rw[List.filter_cons,if_neg (by simp[hk])]
   have e2:iE (y::r) k=y.2:=by unfold iE;rw[eX,if_pos hk];rfl
   rw[e1,e2,iT hn,mW]
   omega
  ·have e1:bg k (y::r)=y::bg k r:=by unfold bg;rw[List.filter_cons,if_pos (by simp[hk])]
   have e2:iE (y::r) k=iE r k:=by unfold iE;rw[eX,if_neg hk]
   have:=Au k h2
   rw[e1,e2,mW,mW]
   omega
theorem DX {C:nS} (h:aI fT C) (k:Int):sm (kM C k)=sm C+1:=by
 have:=Au k h
 unfold kM bT
 rw[E5]
 dsimp only
 omega
theorem LB {C:nS} (h:aI fT C) (j:Int):iE C j≤sm C:=by have:=Au j h;omega
theorem uF (T:aF) (C:nS) (k:Int):zc T (kM C k)≤zc T C:=by
 unfold zc
 apply List.countP_mono_left
 intro q _ h
 simp only[Bool.and_eq_true,decide_eq_true_eq,jm]at h⊢
 exact⟨h.1,by omega⟩
theorem Gv {T:aF} {C:nS} {k:Int} {x:bF} (hk:(k,x)∈T) (hx:x.kind=2) (h0:iE C k=0):zc T (kM C k)+1≤zc T C:=by
 obtain⟨l1,l2,rfl⟩:=List.append_of_mem hk
 have h1:=uF l1 C k
 have h2:=uF l2 C k
 unfold zc at h1 h2⊢
 rw[List.countP_append,List.countP_append,List.countP_cons,List.countP_cons,if_neg (by simp[jm]),if_pos (by simp[hx,h0])]
 omega
theorem LC {T:aF} {C:nS} (h:aI fT C) (k:Int):yu T (kM C k)≤yu T C+1:=by
 have h1:=DX h k
 have h2:=uF T C k
 unfold yu
 omega
theorem LD {T:aF} {C:nS} (h:aI fT C) {k:Int} {x:bF} (hk:(k,x)∈T) (hx:x.kind=2) (h0:iE C k=0):yu T (kM C k)+65535≤yu T C+1:=by
 have h1:=DX h k
 have h2:=Gv hk hx h0
 unfold yu
 omega
theorem xJ {C:nS} (h:aI fT C) (k:Int):aI fT (kM C k):=h.bT dB k _
def ni (T:aF):Nat→Int→List Int
 |0,_=>[]
 |n+1,id=>(aO T id).flatMap fun e=>e.2::(if bq T e.2=2 then ni T n e.2 else[])
def Cq (T:aF):Nat→Int→Prop
 |0,id=>aO T id=[]
 |n+1,id=>∀e∈aO T id,(aj e.2 T).isSome=true∧e.2≠0∧(bq T e.2=2→Cq T n e.2)
def gq (T:aF) (C:nS) (n:Nat) (id:Int):Prop:=Cq T n id∧∀k∈ni T n id,bq T k=2→iE C k+(ni T n id).count k≤1
def kr (T:aF) (n:Nat) (e:Nm×Int):List Int:=e.2::(if bq T e.2=2 then ni T n e.2 else[])
def QM (T:aF) (n:Nat) (e:Nm×Int):Prop:=(aj e.2 T).isSome=true∧e.2≠0∧(bq T e.2=2→Cq T n e.2)
theorem ku (T:aF) (n:Nat) (id:Int):ni T (n+1) id=(aO T id).flatMap (kr T n):=rfl
structure jI (T:aF) (n:Nat) (C:nS) (D:List (Nm×Int)) (C':nS):Prop where
 sorted:aI fT C'
 cnt:∀j,iE C' j=iE C j+(D.flatMap (kr T n)).count j
 ok:∀e∈D,QM T n e
 one:∀k∈D.flatMap (kr T n),bq T k=2→iE C' k≤1
theorem jI.nil {T:aF} {n:Nat} {C:nS} (h:aI fT C):jI T n C [] C:=⟨h,fun j=>rfl,fun e he=>(by cases he),fun k hk=>(by cases hk)⟩
theorem jI.perm {T:aF} {n:Nat} {C C':nS} {D D':List (Nm×Int)} (h:jI T n C D C') (hp:D'.Perm D):jI T n C D' C':=
 ⟨h.sorted,fun j=>by rw[h.cnt j,(hp.flatMap_right (kr T n)).count_eq],fun e he=>h.ok e (hp.mem_iff.1 he),fun k hk=>h.one k ((hp.flatMap_right (kr T n)).mem_iff.1 hk)⟩
theorem nT {T:aF} {n:Nat} (D:List (Nm×Int)) (e:Nm×Int):(D++[e]).flatMap (kr T n)=D.flatMap (kr T n)++kr T n e:=by simp
theorem jI.file {T:aF} {n:Nat} {C C':nS} {D:List (Nm×Int)} (h:jI T n C D C') {e:Nm×Int} (h1:(aj e.2 T).isSome=true) (h2:e.2≠0) (hk:bq T e.2≠2):jI T n C (D++[e]) (kM C' e.2):=by
 have he:kr T n e=[e.2]:=by unfold kr;rw[if_neg hk]
 refine⟨xJ h.sorted _,fun j=> ?_,fun y hy=> ?_,fun k hkm hk2=> ?_⟩
 ·rw[jm,h.cnt j,nT,he,List.count_append,List.count_singleton]
  by_cases hj:j=e.2
  ·subst hj;simp;omega
  ·simp[hj,Ne.symm hj]
 ·rcases List.mem_append.1 hy with hy|hy
  ·exact h.ok y hy
  ·simp only[List.mem_singleton]at hy
   subst hy
   exact⟨h1,h2,fun hh=>absurd hh hk⟩
 ·rw[nT,he]at hkm
  have hne:k≠e.2:=fun hh=>hk (hh▸hk2)
  rw[jm,if_neg hne,Nat.add_zero]
  rcases List.mem_append.1 hkm with hm|hm
  ·exact h.one k hm hk2
  ·simp only[List.mem_singleton]at hm
   exact absurd hm hne
theorem jI.dir {T:aF} {n:Nat} {C C' C2:nS} {D:List (Nm×Int)} (h:jI T n C D C') {e:Nm×Int} (h1:(aj e.2 T).isSome=true) (h2:e.2≠0) (hk:bq T e.2=2) (hz:iE C' e.2=0)
  (hs:aI fT C2) (hc:∀j,iE C2 j=iE (kM C' e.2) j+(ni T n e.2).count j) (hL:gq T (kM C' e.2) n e.2):jI T n C (D++[e]) C2:=by
 have he:kr T n e=e.2::ni T n e.2:=by unfold kr;rw[if_pos hk]
 have hce:∀j,iE C2 j=iE C' j+(kr T n e).count j:=fun j=>by
  rw[hc j,jm,he,List.count_cons]
  by_cases hj:j=e.2
  ·subst hj;simp;omega
  ·simp[hj,Ne.symm hj]
 have hin:∀k∈kr T n e,bq T k=2→iE C2 k≤1:=fun k hkm hk2=>by
  rw[hc k]
  rw[he]at hkm
  by_cases hv:k∈ni T n e.2
  ·exact hL.2 k hv hk2
  ·rcases List.mem_cons.1 hkm with hm|hm
   ·subst hm
    rw[List.count_eq_zero_of_not_mem hv,jm,if_pos rfl,hz]
    exact Nat.le_refl _
   ·exact absurd hm hv
 refine⟨hs,fun j=> ?_,fun y hy=> ?_,fun k hkm hk2=> ?_⟩
 ·rw[nT,List.count_append,hce j,h.cnt j,Nat.add_assoc]
 ·rcases List.mem_append.1 hy with hy|hy
  ·exact h.ok y hy
  ·simp only[List.mem_singleton]at hy
   subst hy
   exact⟨h1,h2,fun _=>hL.1⟩
 ·by_cases hm:k∈kr T n e
  ·exact hin k hm hk2
  ·rw[nT]at hkm
   rcases List.mem_append.1 hkm with hm'|hm'
   ·rw[hce k,List.count_eq_zero_of_not_mem hm,Nat.add_zero]
    exact h.one k hm' hk2
   ·exact absurd hm' hm
theorem jI.all {T:aF} {n:Nat} {C C':nS} {id:Int} (h:jI T n C (aO T id) C'):gq T C (n+1) id∧∀j,iE C' j=iE C j+(ni T (n+1) id).count j:=by
 refine⟨⟨fun e he=>h.ok e he,fun k hk hk2=> ?_⟩,fun j=>h.cnt j⟩
 have:=h.one k hk hk2
 rw[h.cnt k]at this
 exact this
theorem E8 {α:Type} (f:α→Nat) (p:α→Bool):∀l:List α,((l.filter p).map f).sum≤(l.map f).sum
 |[]=>Nat.le_refl _
 |x::r=>by
  have:=E8 f p r
  rw[List.filter_cons]
  split
  ·rw[List.map_cons,List.map_cons,List.sum_cons,List.sum_cons];omega
  ·rw[List.map_cons,List.sum_cons];omega
theorem xK {T:aF} {n:Nat} {l:List (Nm×Int)} {left:Nm→Bool} {e:Nm×Int} (hp:l.Pairwise fun e e'=>e.1≠e'.1) (he:e∈l) (hl:left e.1=true) (j:Int):
  ((doneN left l).flatMap (kr T n)).count j+(kr T n e).count j≤(l.flatMap (kr T n)).count j:=by
 have h1:=rH (k:=e.1) (j:=e.2) hp he hl
 have h2:=(h1.flatMap_right (kr T n)).count_eq j
 rw[nT,List.count_append]at h2
 rw[←h2,List.count_flatMap,List.count_flatMap]
 exact E8 _ _ _
theorem Cr {T:aF} {C:nS} {n:Nat} {id:Int} {e:Nm×Int} (he:e∈aO T id) (h:¬((aj e.2 T).isSome=true∧e.2≠0)):¬gq T C (n+1) id:=fun hL=>h ⟨(hL.1 e he).1,(hL.1 e he).2.1⟩
theorem uG {T:aF} {C:nS} {id:Int} {e:Nm×Int} (he:e∈aO T id):¬gq T C 0 id:=fun hL=>by
 have h1:aO T id=[]:=hL.1
 rw[h1]at he
 cases he
theorem JC {T:aF} {C C':nS} {n:Nat} {id:Int} {left:Nm→Bool} {e:Nm×Int} (hp:(aO T id).Pairwise fun e e'=>e.1≠e'.1) (he:e∈aO T id) (hl:left e.1=true) (h:jI T n C (doneN left (aO T id)) C') (hk:bq T e.2=2) (h1:1<iE (kM C' e.2) e.2):¬gq T C (n+1) id:=fun hL=>by
 have h2:=xK (T:=T) (n:=n) hp he hl e.2
 have h3:=hL.2 e.2 (by rw[ku];exact List.mem_flatMap.2 ⟨e,he,by unfold kr;simp⟩) hk
 rw[ku]at h3
 rw[jm,if_pos rfl,h.cnt]at h1
 have h4:1≤(kr T n e).count e.2:=by unfold kr;rw[List.count_cons];simp
 omega
theorem JD {T:aF} {C C':nS} {n:Nat} {id:Int} {left:Nm→Bool} {e:Nm×Int} (hp:(aO T id).Pairwise fun e e'=>e.1≠e'.1) (he:e∈aO T id) (hl:left e.1=true) (h:jI T n C (doneN left (aO T id)) C') (hk:bq T e.2=2) (h1:¬gq T (kM C' e.2) n e.2):¬gq T C (n+1) id:=fun hL=>by
 refine h1 ⟨(hL.1 e he).2.2 hk,fun k hkv hk2=> ?_⟩
 have h2:=xK (T:=T) (n:=n) hp he hl k
 have he':kr T n e=e.2::ni T n e.2:=by unfold kr;rw[if_pos hk]
 have h3:=hL.2 k (by rw[ku];exact List.mem_flatMap.2 ⟨e,he,by rw[he'];simp[hkv]⟩) hk2
 rw[ku]at h3
 rw[he',List.count_cons]at h2
 rw[jm,h.cnt]
 by_cases hj:k=e.2
 ·subst hj
  simp only[beq_self_eq_true,if_true]at h2⊢
  omega
 ·rw[if_neg hj]
  omega
def kC (T:aF):Prop:=bq T 0=2∧T.length≤64∧gq T [(0,1)] 8 0∧∀q∈T,(((if q.1=0 then 1 else 0)+(ni T 8 0).count q.1:Nat):Int)=q.2.links∧¬(q.2.links=0∧q.2.closed=true)
theorem Ct (j:Int):iE [(0,1)] j=if j=0 then 1 else 0:=by
 unfold iE
 rw[eX]
 by_cases h:(0:Int)=j
 ·rw[if_pos h,if_pos h.symm];rfl
 ·rw[if_neg h,if_neg (Ne.symm h)];rfl
theorem fU.ME {T:aF} (hT:dG T):u7 T:=by
 refine⟨fun q hq=> ?_,hT.sorted,by have:=hT.len;omega⟩
 have hx:=aY dB hT.sorted hq
 have O:=hT.each _ _ hx
 have hi:=hT.ids _ _ hx
 have hl:=O.links
 have ht:=O.aK
 have hs:=O.size
 refine⟨⟨hi,?_,?_,?_,?_⟩,?_,O.file,O.sorted,O.good,fun e he=> ?_,by have:=hT.few hx;omega⟩
 ·show 0≤q.2.kind∧q.2.kind≤255
  rcases O.kind with h|h<;>omega
 ·show 0≤q.2.links∧q.2.links≤65535
  omega
 ·show 0≤(q.2.b.length:Int)∧(q.2.b.length:Int)≤65535
  omega
 ·show 0≤q.2.aK∧q.2.aK≤18446744073709551615
  omega
 ·rcases O.kind with h|h
  ·exact .inl ⟨h,by show(q.2.b.length:Int)≤4096;omega,ht.2⟩
  ·have hd:=O.dir h
   refine .inr ⟨h,?_,hd.2.2.2,hd.2.1⟩
   show(q.2.b.length:Int)=0
   rw[hd.2.2.1];rfl
 ·obtain⟨y,hy⟩:=Option.isSome_iff_exists.1 (hT.leads _ _ hx e he).1
  exact hT.ids _ _ hy
theorem dY.vis {T:aF} {dep:Int→Nat} (h:dY T dep) (hT:dG T):∀(n:Nat) (d:Int),8≤n+dep d→Cq T n d
 |0,d,hd=>by
  show aO T d=[]
  cases hn:aO T d with
  |nil=>rfl
  |cons e r=>
   obtain⟨x,hx,he⟩:=mh (T:=T) (id:=d) (e:=e) (by rw[hn];simp)
   have:=(h.up d x hx e he).1
   omega
 |n+1,d,hd=>fun e he=>by
  obtain⟨x,hx,he⟩:=mh he
  have hl:=hT.leads d x hx e he
  exact⟨hl.1,hl.2,fun hk=>h.vis hT n e.2 (by have:=(h.up d x hx e he).2 hk;omega)⟩
theorem Cu {T:aF}:∀(n:Nat) (a:Int),Cq T n a→(0:Int)∉ni T n a
 |0,a,_=>by unfold ni;simp
 |n+1,a,h=>by
  rw[ku,List.mem_flatMap]
  rintro ⟨e,he,hm⟩
  obtain⟨h1,h2,h3⟩:=h e he
  unfold kr at hm
  rcases List.mem_cons.1 hm with hm|hm
  ·exact h2 hm.symm
  ·split at hm
   ·rename_i hk
    exact Cu n e.2 (h3 hk) hm
   ·cases hm
theorem DY {T:aF} (hT:dG T) {a:Int} (h:bq T a≠2):aO T a=[]:=by
 unfold aO
 unfold bq at h
 cases hx:aj a T with
 |none=>rfl
 |some x=>
  rw[hx]at h
  exact(hT.each a x hx).file ((hT.each a x hx).kind.resolve_right h)
theorem zH {T:aF} (hT:dG T) (k:Int):∀(n:Nat) (a:Int) (p:List Nm),(ni T n a).count k+(if a=k then 1 else 0)=(jP T k n a p).length
 |0,a,p=>by
  unfold ni jP
  split<;>simp
 |n+1,a,p=>by
  rw[ku]
  unfold jP
  rw[List.length_append,List.count_flatMap,List.length_flatMap]
  have h1:(if a=k then[p]else[]).length=if a=k then 1 else 0:=by split<;>rfl
  rw[h1,Nat.add_comm]
  congr 1
  congr 1
  apply List.map_congr_left
  intro e he
  rw[←zH hT k n e.2 (p++[e.1])]
  show(kr T n e).count k=_
  unfold kr
  rw[List.count_cons]
  have h2:(if bq T e.2=2 then ni T n e.2 else[])=ni T n e.2:=by
   split
   ·rfl
   ·rename_i hk
    cases n with
    |zero=>rfl
    |succ n=>
     rw[ku,DY hT hk]
     rfl
  rw[h2]
  by_cases h3:e.2=k<;>simp[h3]
theorem DZ {T:aF} (hO:fU T):kC T:=by
 have XY:=hO
 obtain⟨hT,dep,hd⟩:=hO
 have hv:=hd.vis hT 8 0 (by omega)
 have h0:=Cu 8 0 hv
 have hcnt:∀k,k≠0→(ni T 8 0).count k=fq T k:=fun k hk=>by
  have:=zH hT k 8 0 []
  rw[if_neg (Ne.symm hk),Nat.add_zero,Co XY hk]at this
  exact this
 refine⟨hT.root,hT.len,⟨hv,fun k hk hk2=> ?_⟩,fun q hq=> ?_⟩
 ·have hk0:k≠0:=fun e=>h0 (e▸hk)
  obtain⟨x,hx,hxk⟩:=fG hk2
  have h1:=hT.counts k x hx hk0
  rw[((hT.each k x hx).dir hxk).1]at h1
  rw[Ct,if_neg hk0,hcnt k hk0]
  omega
 ·have hx:=aY dB hT.sorted hq
  have O:=hT.each _ _ hx
  refine⟨?_,fun hh=>by have:=O.gone hh.1;rw[hh.2]at this;cases this⟩
  by_cases hk0:q.1=0
  ·rw[if_pos hk0,hk0,List.count_eq_zero_of_not_mem h0]
   have hk2:q.2.kind=2:=by
    have:=hT.root
    rw[←hk0,bI hx]at this
    exact this
   rw[(O.dir hk2).1]
   rfl
  ·rw[if_neg hk0,hcnt _ hk0,Nat.zero_add]
   exact hT.counts _ _ hx hk0
theorem u7.get {T:aF} (h:u7 T) {k:Int} {x:bF} (hx:aj k T=some x):zC k x:=h.each _ (bR hx)
theorem aJ.add2 {g:Nat→Own} {D D2:Nat→Prop} {w w':World} {p mb:Nat} {ib nb:Int→Nat} {T:aF} (h:aJ g D w p mb ib nb T) {k:Int} {x:bF} {i n:Nat} (hi0:g i= .none∧¬D i) (hn0:x.kind=2→g n= .none∧¬D n) (hin:x.kind=2→i≠n) (hiw:i<w'.heap.size) (hnw:x.kind=2→n<w'.heap.size) (hx0:aj k T=none)
  (hm:MapAt aW w' mb (bT fT k (ptr i) (T.map fun q=>(q.1,ptr (ib q.1))))) (hsz:w.heap.size≤w'.heap.size) (hb:∀b,b<w.heap.size→g b≠ .none∨D b→b≠mb→w'.heap[b]? =w.heap[b]?) (hi:iG D2 w' k i n x) (hD2:∀b,D2 b→g b= .none∧b<w'.heap.size∧b≠i∧(x.kind=2→b≠n)):
  aJ (fun b=>if b=i then .item k else if b=n∧x.kind=2 then .names k else g b) (fun b=>D b∨D2 b) w' p mb (fun j=>if j=k then i else ib j) (fun j=>if j=k then n else nb j) (bT fT k x T):=by
 have hgg:∀b,g b≠ .none→(if b=i then Own.item k else if b=n∧x.kind=2 then .names k else g b)=g b:=fun b hb=>by
  rw[if_neg (fun e:b=i=>hb (by rw[e];exact hi0.1)),if_neg (fun h2:b=n∧x.kind=2=>hb (by rw[h2.1];exact(hn0 h2.2).1))]
 have hp:g p≠ .none:=by rw[h.nV];simp
 have hmm:g mb≠ .none:=by rw[h.iU];simp
 have hbg:∀b,g b≠ .none→b≠mb→w'.heap[b]? =w.heap[b]? :=fun b hg hne=>hb b (h.low b hg) (.inl hg) hne
 refine⟨(hbg p hp (fun e=>by have:=h.nV;rw[e,h.iU]at this;cases this)).trans h.head,?_,?_,(hgg p hp).trans h.nV,(hgg mb hmm).trans h.iU,?_,?_,?_,?_,fun b hb=> ?_⟩
 ·have e1:(bT fT k x T).map (fun q=>(q.1,ptr ((fun j=>if j=k then i else ib j) q.1)))=bT fT k (ptr i) (T.map fun q=>(q.1,ptr (ib q.1))):=by
   rw[tN fT (fun j _=>ptr ((fun j=>if j=k then i else ib j) j))]
   simp only[if_pos]
   congr 1
   apply List.map_congr_left
   intro q hq
   have:q.1≠k:=gZ.1 hx0 q hq
   rw[if_neg this]
  rw[e1]
  exact hm
 ·intro j y hy
  rw[eY]at hy
  by_cases hj:j=k
  ·subst hj
   rw[if_pos rfl]at hy
   cases hy
   simp only[if_pos]
   exact hi.move (Nat.le_refl _) rfl (fun _=>rfl) (fun b hb _=>⟨.inr hb,rfl⟩)
  ·rw[if_neg hj]at hy
   simp only[if_neg hj]
   have t1:=h.l5 j y hy
   refine(h.item j y hy).move hsz (hbg _ (by rw[t1];simp) (fun e=>by rw[e,h.iU]at t1;cases t1)) (fun hk=>hbg _ (by rw[h.kI j y hy hk];simp) (fun e=>by have t2:=h.kI j y hy hk;rw[e,h.iU]at t2;cases t2)) ?_
   intro b rT hbw
   exact⟨.inl rT,hb b hbw (.inr rT) (fun e=>by have:=h.data b rT;rw[e,h.iU]at this;cases this)⟩
 ·intro j y hy
  rw[eY]at hy
  by_cases hj:j=k
  ·subst hj;simp
  ·rw[if_neg hj]at hy
   have t1:=h.l5 j y hy
   simp only[if_neg hj]
   rw[hgg _ (by rw[t1];simp)]
   exact t1
 ·intro j y hy hk
  rw[eY]at hy
  by_cases hj:j=k
  ·subst hj
   rw[if_pos rfl]at hy
   cases hy
   simp only[if_pos]
   rw[if_neg (Ne.symm (hin hk)),if_pos ⟨trivial,hk⟩]
  ·rw[if_neg hj]at hy
   have t1:=h.kI j y hy hk
   simp only[if_neg hj]
   rw[hgg _ (by rw[t1];simp)]
   exact t1
 ·intro b rT
  rcases rT with rT|rT
  ·rw[if_neg (fun e:b=i=>hi0.2 (by rw[←e];exact rT)),if_neg (fun h2:b=n∧x.kind=2=>(hn0 h2.2).2 (by rw[←h2.1];exact rT))]
   exact h.data b rT
  ·obtain⟨d1,d2,d3,d4⟩:=hD2 b rT
   rw[if_neg d3,if_neg (fun h2=>d4 h2.2 h2.1)]
   exact d1
 ·intro b hbn
  by_cases h1:b=i
  ·omega
  ·by_cases h2:b=n∧x.kind=2
   ·have:=hnw h2.2;omega
   ·simp only[if_neg h1,if_neg h2]at hbn
    exact Nat.lt_of_lt_of_le (h.low b hbn) hsz
 ·rcases hb with rT|rT
  ·exact Nat.lt_of_lt_of_le (h.nW b rT) hsz
  ·exact(hD2 b rT).2.1
theorem zI {κ α:Type} (lt:κ→κ→Bool) (x:κ×α):∀{l:List (κ×α)},(∀q∈l,lt x.1 q.1=false)→gy lt x l=l++[x]
 |[],_=>rfl
 |y::r,h=>by
  unfold gy
  rw[if_neg (by rw[h y (by simp)];decide),zI lt x fun q hq=>h q (by simp[hq])]
  rfl
theorem zJ {κ α:Type} [DecidableEq κ] (lt:κ→κ→Bool) {k:κ} (v:α) {l:List (κ×α)} (h:∀q∈l,q.1≠k∧lt k q.1=false):bT lt k v l=l++[(k,v)]:=by
 unfold bT
 rw[iT (gZ.2 fun q hq=>(h q hq).1)]
 exact zI lt (k,v) fun q hq=>(h q hq).2
def qJ (w:World) (p:Nat) (T:aF) (w':World):Prop:=
 ∃g D mb ib nb,aJ g D w' p mb ib nb T∧(∀b,g b≠ .none→w.heap.size≤b)∧(∀b,D b→w.heap.size≤b)∧Below w.heap.size w w'
end Go.Proofs.YtohpcppeajijnaaGreat
