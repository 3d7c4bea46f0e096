/- A loaded tree that is right is one of ours. A node that is loaded is laid into a tree. tree: read, one node of a reader's bytes. -/
import Derived.Test.YtjnhnlabpccgjaaGreatM31
import Derived.Test.YtjnhnlabpccgjaaGreatM12
import Derived.Test.YtjnhnlabpccgjaaGreatM08
import Derived.Test.YtjnhnlabpccgjaaGreatM26
import Derived.Test.YtjnhnlabpccgjaaGreatM20
import Derived.Test.YtjnhnlabpccgjaaGreatM05
import Derived.Test.YtjnhnlabpccgjaaGreatM04
import Derived.Deep.QuietTactic
import Derived.BigQuiet
namespace Go.Proofs.YtjnhnlabpccgjaaGreat
open Go.ChangeShapes Go.WideShapes Go.ChangeAt Go.RowKit
set_option linter.unusedVariables false
set_option linter.unusedSimpArgs false
theorem qX.get {T:aF} (h:qX T) {k:Int} {x:bA} (hx:ah k T=some x):sH k x:=h.each _ (bq hx)
theorem sH.ND {k:Int} {x:bA} (h:sH k x):x.kind=1∨x.kind=2:=by
 rcases h.right with h1|h1
 ·exact .inl h1.1
 ·exact .inr h1.1
theorem sH.Vn {k:Int} {x:bA} (h:sH k x) (hk:x.kind=2):x.closed=true∧x.b=[]∧x.aO=0:=by
 rcases h.right with h1|h1
 ·have h2:x.kind=1:=h1.1
  omega
 ·obtain⟨_,h2,h3,h4⟩:=h1
  refine⟨h4,List.eq_nil_of_length_eq_zero ?_,h3⟩
  have h5:(x.b.length:Int)=0:=h2
  omega
theorem GY {T:aF} (h:qX T) {k:Int} {x:bA} (hx:ah k T=some x) {e:Nm×Int} (he:e∈x.names):x.kind=2:=by
 rcases (h.get hx).ND with h1|h1
 ·rw[(h.get hx).file h1]at he;cases he
 ·exact h1
theorem wD {T:aF} {a k:Int} {x:bA} {n:Nm} (hx:ah a T=some x) (hk:x.kind=2) (hn:ah n x.names=some k) (r:List Nm):aA T a (n::r)=aA T k r:=by
 rw[aA,hx]
 simp only
 rw[if_pos hk,hn]
theorem EY {T:aF} (h:qX T):∀(n:Nat) (a:Int),u_ T n a→∀k∈jW T n a,bf T k=2→∃q m,aA T a q=(k,0)∧q.length+m=n∧u_ T m k
 |0,a,hv,k,hk,_=>by unfold jW at hk;cases hk
 |n+1,a,hv,k,hk,hk2=>by
  rw[jk,List.mem_flatMap]at hk
  obtain⟨e,he,hm⟩:=hk
  obtain⟨h1,h2,h3⟩:=hv e he
  obtain⟨x,hx,hex⟩:=kK he
  have hg:ah e.1 x.names=some e.2:=aL nk (h.get hx).sorted hex
  have hxk:=GY h hx hex
  unfold jX at hm
  rcases List.mem_cons.1 hm with hm|hm
  ·subst hm
   exact⟨[e.1],n,by rw[wD hx hxk hg];rfl,by simp;omega,h3 hk2⟩
  ·split at hm
   ·rename_i hd
    obtain⟨q,m,q1,q2,q3⟩:=EY h n e.2 (h3 hd) k hm hk2
    exact⟨e.1::q,m,by rw[wD hx hxk hg];exact q1,by simp;omega,q3⟩
   ·cases hm
def SH (T:aF) (j d:Int):Nat:=(aJ T d).countP fun e=>decide (e.2=j)
def isDir (T:aF) (d:Int):Bool:=decide (bf T d=2)
theorem IU {j:Int} {F G:Nm×Int→Nat}:∀(l:List (Nm×Int)),(∀e∈l,F e=(if e.2=j then 1 else 0)+G e)→(l.map F).sum=l.countP (fun e=>decide (e.2=j))+(l.map G).sum
 |[],_=>rfl
 |e::r,h=>by
  have h1:=h e (by simp)
  have h2:=IU r fun y hy=>h y (by simp[hy])
  rw[List.map_cons,List.map_cons,List.sum_cons,List.sum_cons,List.countP_cons,h1,h2]
  by_cases he:e.2=j<;>simp[he]<;>omega
theorem EZ {g:Int→Nat} {p:Int→Bool} {f:Nm×Int→List Int}:∀(l:List (Nm×Int)),(((l.flatMap f).filter p).map g).sum=(l.map fun e=>(((f e).filter p).map g).sum).sum
 |[]=>rfl
 |e::r=>by
  rw[List.flatMap_cons,List.filter_append,List.map_append,List.sum_append,List.map_cons,List.sum_cons,EZ r]
theorem IV {T:aF} (j:Int):∀(n:Nat) (a:Int),u_ T n a→(jW T n a).count j=((a::(jW T n a).filter (isDir T)).map (SH T j)).sum
 |0,a,h=>by
  have h1:aJ T a=[]:=h
  unfold jW
  simp[SH,h1]
 |n+1,a,h=>by
  rw[jk,List.count_flatMap,List.map_cons,List.sum_cons,EZ]
  unfold SH
  refine IU (aJ T a) fun e he=> ?_
  obtain⟨h1,h2,h3⟩:=h e he
  show(jX T n e).count j=_
  unfold jX
  by_cases hk:bf T e.2=2
  ·rw[if_pos hk,List.count_cons,List.filter_cons,if_pos (show isDir T e.2=true by unfold isDir;exact decide_eq_true hk),IV j n e.2 (h3 hk)]
   unfold SH
   by_cases hj:e.2=j
   ·subst hj;simp;omega
   ·simp[hj]
  ·rw[if_neg hk,List.count_cons,List.filter_cons,if_neg (show ¬isDir T e.2=true by unfold isDir;simpa using hk)]
   by_cases hj:e.2=j<;>simp[hj]
theorem E5 {α:Type} {p:α→Bool} {f g:α→Nat}:∀(l:List α),(∀q∈l,(p q=true→f q=g q)∧(p q=false→g q=0))→((l.filter p).map f).sum=(l.map g).sum
 |[],_=>rfl
 |q::r,h=>by
  have h1:=h q (by simp)
  have h2:=E5 (p:=p) (f:=f) r fun y hy=>h y (by simp[hy])
  rw[List.filter_cons,List.map_cons,List.sum_cons]
  cases hp:p q with
  |true=>rw[if_pos rfl,List.map_cons,List.sum_cons,h1.1 hp,h2]
  |false=>rw[if_neg (by decide),h2,h1.2 hp];omega
theorem GZ {T:aF} (hP:qX T) (hR:ku T):mU T:=by
 obtain⟨hroot,hlen,⟨hv,hone⟩,hlk⟩:=hR
 have h0:=zM 8 0 hv
 have NG:∀k x,ah k T=some x→x.kind=2→k=0∨k∈jW T 8 0:=fun k x hx hk=>by
  by_cases hk0:k=0
  ·exact .inl hk0
  ·right
   have h1:=hlk _ (bq hx)
   dsimp only at h1
   rw[if_neg hk0]at h1
   refine Decidable.byContradiction fun hm=>h1.2 ⟨?_,((hP.get hx).Vn hk).1⟩
   have h2:=h1.1
   rw[List.count_eq_zero_of_not_mem hm]at h2
   exact h2.symm
 have vM:∀k x,ah k T=some x→x.kind=2→∃q m,aA T 0 q=(k,0)∧q.length+m=8∧u_ T m k:=fun k x hx hk=>by
  rcases NG k x hx hk with h1|h1
  ·subst h1
   exact⟨[],8,rfl,rfl,hv⟩
  ·exact EY hP 8 0 hv k h1 (by rw[aY hx];exact hk)
 have hlead:∀k x,ah k T=some x→∀e∈x.names,(ah e.2 T).isSome=true∧e.2≠0∧∃q,aA T 0 q=(k,0)∧q.length<8:=fun k x hx e he=>by
  obtain⟨q,m,h1,h2,h3⟩:=vM k x hx (GY hP hx he)
  have hmem:e∈aJ T k:=by rw[bT hx];exact he
  cases m with
  |zero=>
   have h4:aJ T k=[]:=h3
   rw[h4]at hmem
   cases hmem
  |succ m=>
   have h4:=h3 e hmem
   exact⟨h4.1,h4.2.1,q,h1,by omega⟩
 have hcnt:∀j,(jW T 8 0).count j=eB T j:=fun j=>by
  rw[IV j 8 0 hv]
  have hperm:((0:Int)::(jW T 8 0).filter (isDir T)).Perm ((T.filter fun q=>decide (q.2.kind=2)).map (·.1)):=by
   refine sJ (List.nodup_cons.2 ⟨fun hm=>h0 (List.mem_filter.1 hm).1,List.nodup_iff_count.2 fun a=> ?_⟩) ?_ fun a=> ?_
   ·by_cases ha:isDir T a=true
    ·rw[List.count_filter ha]
     by_cases hm:a∈jW T 8 0
     ·have:=hone a hm (of_decide_eq_true ha)
      omega
     ·rw[List.count_eq_zero_of_not_mem hm];omega
    ·rw[List.count_eq_zero_of_not_mem (fun hm=>ha (List.mem_filter.1 hm).2)];omega
   ·have h1:(T.filter fun q=>decide (q.2.kind=2)).Pairwise fun p q=>p.1≠q.1:=List.Pairwise.filter _ (hP.sorted.apart bW)
    exact List.pairwise_map.2 h1
   ·rw[List.mem_cons,List.mem_filter,List.mem_map]
    constructor
    ·intro h
     have hk:bf T a=2:=by
      rcases h with h|h
      ·rw[h];exact hroot
      ·exact of_decide_eq_true h.2
     obtain⟨x,hx,hxk⟩:=eX hk
     exact⟨(a,x),List.mem_filter.2 ⟨bq hx,decide_eq_true hxk⟩,rfl⟩
    ·rintro ⟨q,hq,rfl⟩
     obtain⟨hq1,hq2⟩:=List.mem_filter.1 hq
     have hx:=aL bW hP.sorted hq1
     have hk:=of_decide_eq_true hq2
     rcases NG _ _ hx hk with h|h
     ·exact .inl h
     ·exact .inr ⟨h,decide_eq_true (by rw[aY hx];exact hk)⟩
  rw[(hperm.map (SH T j)).sum_nat,List.map_map]
  unfold eB
  refine E5 T fun q hq=> ?_
  have hx:=aL bW hP.sorted hq
  refine⟨fun _=> ?_,fun hk=> ?_⟩
  ·show SH T j q.1=cn j q.2
   unfold SH cn
   rw[bT hx]
  ·have hk1:q.2.kind=1:=(hP.get hx).ND.resolve_right (of_decide_eq_false hk)
   unfold cn
   rw[(hP.get hx).file hk1]
   rfl
 have hM:OkW T:=by
  refine⟨⟨hP.sorted,hroot,fun k x hx=> ?_,fun k x hx e he=>⟨(hlead k x hx e he).1,(hlead k x hx e he).2.1⟩,hlen,fun k x hx=> ?_⟩,fun k x hx hk0=> ?_⟩
  ·have hp:=hP.get hx
   have h1:=hlk _ (bq hx)
   have ol:=hp.ok.links
   have ot:=hp.ok.aO
   refine⟨hp.ND,hp.file,fun hk=> ?_,fun hz=> ?_,hp.sorted,hp.good,?_,ol,⟨ot.1,?_⟩⟩
   ·obtain⟨d1,d2,d3⟩:=hp.Vn hk
    refine⟨?_,d1,d2,d3⟩
    have h2:=h1.1
    dsimp only at h2
    by_cases hk0:k=0
    ·rw[if_pos hk0,hk0,List.count_eq_zero_of_not_mem h0]at h2
     exact h2.symm
    ·rw[if_neg hk0]at h2
     rcases NG k x hx hk with h3|h3
     ·exact absurd h3 hk0
     ·have h4:=hone k h3 (by rw[aY hx];exact hk)
      have h5:=List.count_pos_iff.2 h3
      omega
   ·cases hc:x.closed with
    |false=>rfl
    |true=>exact absurd ⟨hz,hc⟩ h1.2
   ·rcases hp.right with h2|h2
    ·have h3:(x.b.length:Int)≤4096:=h2.2.1
     omega
    ·have h3:(x.b.length:Int)=0:=h2.2.1
     omega
   ·rcases hp.right with h2|h2
    ·exact h2.2.2
    ·have h3:x.aO=0:=h2.2.2.1
     show x.aO≤_
     omega
  ·exact(hP.get hx).ok.id
  ·have h1:=(hlk _ (bq hx)).1
   dsimp only at h1
   rw[if_neg hk0,hcnt k,Nat.zero_add]at h1
   exact h1
 refine⟨hM,fun d=>(NU T d).length,?_,fun d x hx e he=> ?_⟩
 ·have:=mR hM _ (NU T 0) [] 0 (Nat.le_refl _) (uq ⟨[],rfl⟩) rfl hroot
  rw[this];rfl
 ·obtain⟨_,_,q,hq,hlt⟩:=hlead d x hx e he
  have hxk:=GY hP hx he
  have e1:=mR hM _ (NU T d) q d (Nat.le_refl _) (uq ⟨q,hq⟩) hq ((aY hx).trans hxk)
  rw[e1]
  refine⟨hlt,fun hk=> ?_⟩
  have hp2:aA T 0 (q++[e.1])=(e.2,0):=by
   rw[fO,hq,if_pos rfl]
   rw[wD hx hxk (aL nk (hM.each d x hx).sorted he)]
   rfl
  have e2:=mR hM _ (NU T e.2) (q++[e.1]) e.2 (Nat.le_refl _) (uq ⟨_,hp2⟩) hp2 hk
  rw[e2]
  simp
theorem aH.add2 {g:Nat→Own} {D D2:Nat→Prop} {w w':World} {p mb:Nat} {ib nb:Int→Nat} {T:aF} (h:aH g D w p mb ib nb T) {k:Int} {x:bA} {i n:Nat} (hi0:g i= .none∧¬D i) (hn0:x.kind=2→g n= .none∧¬D n) (hin:x.kind=2→i≠n) (hiw:i<w'.heap.size) (hnw:x.kind=2→n<w'.heap.size) (hx0:ah k T=none)
  (hm:MapAt aV w' mb (bZ gH k (ptr i) (T.map fun q=>(q.1,ptr (ib q.1))))) (hsz:w.heap.size≤w'.heap.size) (hb:∀b,b<w.heap.size→g b≠ .none∨D b→b≠mb→w'.heap[b]? =w.heap[b]?) (hi:iN D2 w' k i n x) (hD2:∀b,D2 b→g b= .none∧b<w'.heap.size∧b≠i∧(x.kind=2→b≠n)):
  aH (fun b=>if b=i then .item k else if b=n∧x.kind=2 then .names k else g b) (fun b=>D b∨D2 b) w' p mb (fun j=>if j=k then i else ib j) (fun j=>if j=k then n else nb j) (bZ gH k x T):=by
 have hgg:∀b,g b≠ .none→(if b=i then Own.item k else if b=n∧x.kind=2 then .names k else g b)=g b:=fun b hb=>by
  rw[if_neg (fun e:b=i=>hb (by rw[e];exact hi0.1)),if_neg (fun h2:b=n∧x.kind=2=>hb (by rw[h2.1];exact(hn0 h2.2).1))]
 have hp:g p≠ .none:=by rw[h.oM];simp
 have hmm:g mb≠ .none:=by rw[h.je];simp
 have hbg:∀b,g b≠ .none→b≠mb→w'.heap[b]? =w.heap[b]? :=fun b hg hne=>hb b (h.low b hg) (.inl hg) hne
 refine⟨(hbg p hp (fun e=>by have:=h.oM;rw[e,h.je]at this;cases this)).trans h.head,?_,?_,(hgg p hp).trans h.oM,(hgg mb hmm).trans h.je,?_,?_,?_,?_,fun b hb=> ?_⟩
 ·have e1:(bZ gH k x T).map (fun q=>(q.1,ptr ((fun j=>if j=k then i else ib j) q.1)))=bZ gH k (ptr i) (T.map fun q=>(q.1,ptr (ib q.1))):=by
   rw[vE gH (fun j _=>ptr ((fun j=>if j=k then i else ib j) j))]
   simp only[if_pos]
   congr 1
   apply List.map_congr_left
   intro q hq
   have:q.1≠k:=iq.1 hx0 q hq
   rw[if_neg this]
  rw[e1]
  exact hm
 ·intro j y hy
  rw[eY]at hy
  by_cases hj:j=k
  ·subst hj
   rw[if_pos rfl]at hy
   cases hy
   simp only[if_pos]
   exact hi.move (Nat.le_refl _) rfl (fun _=>rfl) (fun b hb _=>⟨.inr hb,rfl⟩)
  ·rw[if_neg hj]at hy
   simp only[if_neg hj]
   have t1:=h.mK j y hy
   refine(h.item j y hy).move hsz (hbg _ (by rw[t1];simp) (fun e=>by rw[e,h.je]at t1;cases t1)) (fun hk=>hbg _ (by rw[h.kG j y hy hk];simp) (fun e=>by have t2:=h.kG j y hy hk;rw[e,h.je]at t2;cases t2)) ?_
   intro b tQ hbw
   exact⟨.inl tQ,hb b hbw (.inr tQ) (fun e=>by have:=h.data b tQ;rw[e,h.je]at this;cases this)⟩
 ·intro j y hy
  rw[eY]at hy
  by_cases hj:j=k
  ·subst hj;simp
  ·rw[if_neg hj]at hy
   have t1:=h.mK j y hy
   simp only[if_neg hj]
   rw[hgg _ (by rw[t1];simp)]
   exact t1
 ·intro j y hy hk
  rw[eY]at hy
  by_cases hj:j=k
  ·subst hj
   rw[if_pos rfl]at hy
   cases hy
   simp only[if_pos]
   rw[if_neg (Ne.symm (hin hk)),if_pos ⟨trivial,hk⟩]
  ·rw[if_neg hj]at hy
   have t1:=h.kG j y hy hk
   simp only[if_neg hj]
   rw[hgg _ (by rw[t1];simp)]
   exact t1
 ·intro b tQ
  rcases tQ with tQ|tQ
  ·rw[if_neg (fun e:b=i=>hi0.2 (by rw[←e];exact tQ)),if_neg (fun h2:b=n∧x.kind=2=>(hn0 h2.2).2 (by rw[←h2.1];exact tQ))]
   exact h.data b tQ
  ·obtain⟨d1,d2,d3,d4⟩:=hD2 b tQ
   rw[if_neg d3,if_neg (fun h2=>d4 h2.2 h2.1)]
   exact d1
 ·intro b hbn
  by_cases h1:b=i
  ·omega
  ·by_cases h2:b=n∧x.kind=2
   ·have:=hnw h2.2;omega
   ·simp only[if_neg h1,if_neg h2]at hbn
    exact Nat.lt_of_lt_of_le (h.low b hbn) hsz
 ·rcases hb with tQ|tQ
  ·exact Nat.lt_of_lt_of_le (h.oO b tQ) hsz
  ·exact(hD2 b tQ).2.1
theorem BL {κ α:Type} (lt:κ→κ→Bool) (x:κ×α):∀{l:List (κ×α)},(∀q∈l,lt x.1 q.1=false)→gK lt x l=l++[x]
 |[],_=>rfl
 |y::r,h=>by
  unfold gK
  rw[if_neg (by rw[h y (by simp)];decide),BL lt x fun q hq=>h q (by simp[hq])]
  rfl
theorem BM {κ α:Type} [DecidableEq κ] (lt:κ→κ→Bool) {k:κ} (v:α) {l:List (κ×α)} (h:∀q∈l,q.1≠k∧lt k q.1=false):bZ lt k v l=l++[(k,v)]:=by
 unfold bZ
 rw[jd (iq.2 fun q hq=>(h q hq).1)]
 exact BL lt (k,v) fun q hq=>(h q hq).2
def CQ (w:World) (p:Nat) (T:aF) (w':World):Prop:=
 ∃g D mb ib nb,aH g D w' p mb ib nb T∧(∀b,g b≠ .none→w.heap.size≤b)∧(∀b,D b→w.heap.size≤b)∧Below w.heap.size w w'
theorem G5 {fp:Nat→Prop} {w w1:World} (h:Keeps fp w w1):Keeps fp w w1.drew:=⟨h.os,h.tape,h.output,h.size,h.block⟩
theorem qZ {fp:Nat→Prop} {w w1:World} (n:Nat) (h:Keeps fp w w1):Keeps fp w (w1.drewN n):=⟨h.os,h.tape,h.output,h.size,h.block⟩
theorem jc {fp:Nat→Prop} {w w1 w2:World} (h:Keeps fp w w1) (hb:Below w1.heap.size w1 w2):Keeps fp w w2:=h.trans (Keeps.below hb) fun z hz hz'=>by have:=h.size;omega
theorem wE (s:Rd):(aQ s).1.length≤65535:=by
 have hr:=fI s 2
 have hp:(256:Int)^2=65536:=rfl
 unfold aQ
 obtain⟨k,hk⟩:∃k:Nat,(bO s 2).1=(k:Int):=⟨(bO s 2).1.toNat,by omega⟩
 rw[hk]
 have:=IG (bO s 2).2 k
 omega
theorem bJ.drew {D:Nat→Prop} {w:World} {x:Nat} {s:Rd} (h:bJ D w x s):bJ D w.drew x s:=h.kept (Nat.le_refl _) rfl fun _ _ _=>rfl
theorem bJ.drewN {D:Nat→Prop} {w:World} {x:Nat} {s:Rd} (n:Nat) (h:bJ D w x s):bJ D (w.drewN n) x s:=h.kept (Nat.le_refl _) rfl fun _ _ _=>rfl
theorem pU:∀a b:List UInt8,Op.bytesLess a b=bytesBefore a b
 |[],[]=>rfl
 |[],_::_=>rfl
 |_::_,[]=>rfl
 |x::r,y::s=>by
  unfold Op.bytesLess bytesBefore
  rw[pU r s]
def kU (D:Nat→Prop) (w:World) (x:Nat) (s:Rd) (e:Ending) (w':World):Prop:=
 Keeps (fun b=>b=x) w w'∧match gZ s with
  |none=>∃v,e= .returned (.tuple #[v, .bool false])
  |some q=>∃(i n:Nat) (D2:Nat→Prop),e= .returned (.tuple #[ptr i, .bool true])∧bJ D w' x q.2∧iN D2 w' q.1.1 i n q.1.2∧w.heap.size≤i∧i<w'.heap.size∧(q.1.2.kind=2→w.heap.size≤n∧n<w'.heap.size∧i≠n)∧∀b,D2 b→w.heap.size≤b∧b<w'.heap.size∧b≠i∧(q.1.2.kind=2→b≠n)
theorem kU.none_ {D:Nat→Prop} {w w':World} {x:Nat} {s:Rd} {v:Value} (hk:Keeps (fun b=>b=x) w w') (h:gZ s=none):kU D w x s (.returned (.tuple #[v, .bool false])) w':=by
 refine⟨hk,?_⟩
 rw[h]
 exact⟨v,rfl⟩
def Vo (D:Nat→Prop) (w8:World) (x m cnt:Nat) (s0:Rd) (lv iv:Value) (wr:World):Prop:=
 ∃(k:Nat) (sr:Rd) (last:Nm) (acc:List (Nm×Int)),iv= .int .i64 k∧k≤cnt∧lv= .string (strOf last)∧gY (cnt-k) sr last acc=gY cnt s0 [] []∧(∀e∈acc,e.1=last∨bytesBefore e.1 last=true)∧acc.length=k∧bJ D wr x sr∧MapAt cK wr m (acc.map fun e=>(e.1, .int .i64 e.2))∧Keeps (fun b=>b=x∨b=m) w8 wr
theorem wY {k:Nat} {s:Rd} {last:Nm} {acc:List (Nm×Int)} (h1:(bO (aQ s).2 2).2.2=0) (h2:bV (aQ s).1=true) (h3:bytesBefore last (aQ s).1=true):
  gY (k+1) s last acc=gY k (bO (aQ s).2 2).2 (aQ s).1 (acc++[((aQ s).1,(bO (aQ s).2 2).1)]):=by
 rw[gY]
 rw[if_neg (by rw[h1,h2,h3];simp)]
theorem E8 {k:Nat} {s:Rd} {last:Nm} {acc:List (Nm×Int)} (h:(bO (aQ s).2 2).2.2≠0∨bV (aQ s).1=false∨bytesBefore last (aQ s).1=false):gY (k+1) s last acc=none:=by
 rw[gY]
 rw[if_pos h]
theorem Kr {s:Rd} {cnt:Nat} (hd:(bY (aQ s).1).2=0) (hl:((aQ (aQ s).2).1.length:Int)=(bY (aQ s).1).1.size) (hk:(bY (aQ s).1).1.kind≠1) (hc:(bO (aQ (aQ s).2).2 2).1=(cnt:Int)) (h:gY cnt (bO (aQ (aQ s).2).2 2).2 [] []=none):gZ s=none:=by
 unfold gZ
 dsimp only
 rw[if_neg (by rw[hd,hl];simp),if_neg hk,hc,Int.toNat_natCast,h]
theorem Kt {s:Rd} {cnt:Nat} {q:List (Nm×Int)×Rd} (hd:(bY (aQ s).1).2=0) (hl:((aQ (aQ s).2).1.length:Int)=(bY (aQ s).1).1.size) (hk:(bY (aQ s).1).1.kind≠1) (hc:(bO (aQ (aQ s).2).2 2).1=(cnt:Int)) (h:gY cnt (bO (aQ (aQ s).2).2 2).2 [] []=some q):
  gZ s=some (((bY (aQ s).1).1.id,uY (bY (aQ s).1).1 (aQ (aQ s).2).1 q.1),q.2):=by
 unfold gZ
 dsimp only
 rw[if_neg (by rw[hd,hl];simp),if_neg hk,hc,Int.toNat_natCast,h]
theorem zN {acc:List (Nm×Int)} {last nm:Nm} (h:∀e∈acc,e.1=last∨bytesBefore e.1 last=true) (hb:bytesBefore last nm=true):∀e∈acc,bytesBefore e.1 nm=true:=fun e he=>by
 rcases h e he with h1|h1
 ·rw[h1];exact hb
 ·exact mJ _ _ _ h1 hb
theorem IW {acc:List (Nm×Int)} {last nm:Nm} (h:∀e∈acc,e.1=last∨bytesBefore e.1 last=true) (hb:bytesBefore last nm=true) (v:Int):
  bZ bytesBefore nm (.int .i64 v:Value) (acc.map fun e=>(e.1,(.int .i64 e.2:Value)))=(acc++[(nm,v)]).map fun e=>(e.1,(.int .i64 e.2:Value)):=by
 rw[BM bytesBefore _ fun q hq=> ?_]
 ·simp
 ·obtain⟨e,he,rfl⟩:=List.mem_map.1 hq
  have h1:=zN h hb e he
  dsimp only
  refine⟨fun e1=> ?_,?_⟩
  ·rw[e1,Go.WideAt.bytes_irrefl]at h1;cases h1
  ·cases h2:bytesBefore nm e.1 with
   |false=>rfl
   |true=>
    have h3:=mJ _ _ _ h1 h2
    rw[Go.WideAt.bytes_irrefl]at h3
    cases h3
section
variable {D:Nat→Prop} {x:Nat} {w:World} {s:Rd}
set_option maxRecDepth 100000 in
set_option maxHeartbeats 16000000 in
theorem Ku (h:bJ D w x s):Calls Tryz.prog 56 #[ptr x] w (kU D w x s):=by
 have hxw:=h.lt
 have HB0:=Lib.hid (zD h)
 have hl1:=wE s
 obtain⟨b1,P_⟩:∃b,b=(aQ s).1:=⟨_,rfl⟩
 obtain⟨s1,SI⟩:∃t,t=(aQ s).2:=⟨_,rfl⟩
 rw[←P_,←SI]at HB0
 rw[←P_]at hl1
 have SK:=Lib.hid (And.intro P_ SI)
 clear h P_ SI
 go_enter Tryz.func56,Tryz.ntmps56
 go_wp2_with fail
 (with_reducible refine HB0.out.mono ?_)
 rintro e w1 ⟨a1,c1,rfl,hc1,hr1,mQ,hK1⟩
 have wN:=Lib.hid hK1
 have HR1:=Lib.hid mQ
 have HD:=Lib.hid (GR a1 b1.length c1 b1 w1 (by omega) hr1)
 clear hc1 hr1 mQ hK1 HB0
 obtain⟨⟨id,kind,links,size,aO,closed⟩,hN⟩:∃N,N=(bY b1).1:=⟨_,rfl⟩
 obtain⟨z,hz⟩:∃z,z=(bY b1).2:=⟨_,rfl⟩
 rw[←hN,←hz]at HD
 unfold SG at HD
 dsimp only at HD
 have HN:=Lib.hid (And.intro hN hz)
 clear hN hz
 go_wp2_with fail
 (with_reducible refine HD.out.mono ?_)
 rintro e w2 ⟨rfl,hb2⟩
 have BZ:=Lib.hid (jc wN.out hb2)
 have HR2:=Lib.hid (HR1.out.below hb2 (Nat.le_refl _))
 have hx2:x<w2.heap.size:=HR2.out.lt
 clear hb2 HD wN HR1
 go_wp2_with fail
 obtain⟨w3,hw3⟩:∃w3,w3=w2.alloc (.cells #[.int .i64 id, .int .i64 kind, .int .i64 links, .int .i64 size, .int .u64 aO, .bool closed] 101):=⟨_,rfl⟩
 rw[←hw3]
 have Yp:w3.heap[w2.heap.size]? =some (.cells #[.int .i64 id, .int .i64 kind, .int .i64 links, .int .i64 size, .int .u64 aO, .bool closed] 101 (0,0)):=by rw[hw3];exact(MapKept.heap_alloc w2 _).1
 have hb3:Below w2.heap.size w2 w3:=by rw[hw3];exact wall w2 _
 have QW:=Lib.hid (jc BZ.out hb3)
 have HR3:=Lib.hid (HR2.out.below hb3 (Nat.le_refl _))
 have hvw:=(Array.getElem?_eq_some_iff.1 Yp).1
 have TL:Hid (∀w',Keeps (fun b=>b=x) w3 w'→w'.heap[w2.heap.size]? =some (.cells #[.int .i64 id, .int .i64 kind, .int .i64 links, .int .i64 size, .int .u64 aO, .bool closed] 101 (0,0))):=fun w' hK=>(hK.block _ hvw (fun(e:w2.heap.size=x)=>by omega)).trans Yp
 have kV:Hid (∀w',Keeps (fun b=>b=x) w3 w'→w'.cell? ⟨w2.heap.size,0,none⟩=some (.int .i64 id)∧w'.cell? ⟨w2.heap.size,1,none⟩=some (.int .i64 kind)∧w'.cell? ⟨w2.heap.size,2,none⟩=some (.int .i64 links)∧w'.cell? ⟨w2.heap.size,3,none⟩=some (.int .i64 size)∧w'.cell? ⟨w2.heap.size,4,none⟩=some (.int .u64 aO)∧w'.cell? ⟨w2.heap.size,5,none⟩=some (.bool closed)):=fun w' hK=>
  ⟨eZ (TL.out w' hK) 0,eZ (TL.out w' hK) 1,eZ (TL.out w' hK) 2,eZ (TL.out w' hK) 3,eZ (TL.out w' hK) 4,eZ (TL.out w' hK) 5⟩
 have hs2:=BZ.out.size
 clear hw3 hb3 Yp BZ HR2
 have HB3:=Lib.hid (zD HR3.out.drew)
 have hl4:=wE s1
 obtain⟨b4,Qa⟩:∃b,b=(aQ s1).1:=⟨_,rfl⟩
 obtain⟨s4,SL⟩:∃t,t=(aQ s1).2:=⟨_,rfl⟩
 rw[←Qa,←SL]at HB3
 rw[←Qa]at hl4
 have Fp:=Lib.hid (And.intro Qa SL)
 clear Qa SL HR3
 obtain⟨L,hL⟩:∃L,L=b4.length:=⟨_,rfl⟩
 have HL:=Lib.hid hL
 rw[←hL]at hl4
 clear hL
 refine KQ ((fun w'=>w'.cell? ⟨w2.heap.size,0,none⟩=some (.int .i64 id)∧w'.cell? ⟨w2.heap.size,1,none⟩=some (.int .i64 kind)∧w'.cell? ⟨w2.heap.size,2,none⟩=some (.int .i64 links)∧w'.cell? ⟨w2.heap.size,3,none⟩=some (.int .i64 size)∧w'.cell? ⟨w2.heap.size,4,none⟩=some (.int .u64 aO)∧w'.cell? ⟨w2.heap.size,5,none⟩=some (.bool closed))) ?_ fun hS=> ?_
 ·exact kV.out _ (G5 (Keeps.refl _ _))
 refine dJ 0 hS ?_
 refine dJ 1 hS ?_
 refine sw 2 fun K hK=> ?_
 go_simp
 (with_reducible refine HB3.out.mono ?_)
 rintro e w4 ⟨a4,c4,rfl,hc4,hr4,KM,hK4⟩
 have NH:Hid (Keeps (fun b=>b=x) w3 w4):=⟨hK4.os,hK4.tape,hK4.output,hK4.size,hK4.block⟩
 rw[←HL.out]at hc4 hr4
 rw[←HL.out]
 have TK:=Lib.hid hc4
 have HR4:=Lib.hid hr4
 have Kv:=Lib.hid KM
 have hs4:w3.heap.size≤w4.heap.size:=hK4.size
 clear hc4 hr4 KM hK4 HB3
 go_wp2_with fail
 refine sD hK (kV.out _ NH.out) fun hS=> ?_
 clear hK K
 refine dJ 3 hS ?_
 refine sw 4 fun K hK=> ?_
 go_simp
 refine sD hK (kV.out _ (jc NH.out (wall w4 _))) fun hS=> ?_
 clear hK K
 refine dJ 5 hS ?_
 refine KP ?_
 obtain⟨w5,V8⟩:∃w5,w5=w4.alloc (.cells #[.int .i64 id, .int .i64 kind, .int .i64 links, .int .i64 size, .int .u64 aO, .bool closed, .slice a4 L c4, .map none] 112):=⟨_,rfl⟩
 rw[←V8]
 have hit:w5.heap[w4.heap.size]? =some (.cells #[.int .i64 id, .int .i64 kind, .int .i64 links, .int .i64 size, .int .u64 aO, .bool closed, .slice a4 L c4, .map none] 112 (0,0)):=by rw[V8];exact(MapKept.heap_alloc w4 _).1
 have hb5:Below w4.heap.size w4 w5:=by rw[V8];exact wall w4 _
 have iQ:=Lib.hid hb5
 have HIT:=Lib.hid hit
 have N_:=kV.out _ (jc NH.out hb5)
 obtain⟨-,hq1,-,hq3,-,-⟩:=N_
 have hi6:w5.cell? ⟨w4.heap.size,6,none⟩=some (.slice a4 L c4):=eZ hit 6
 have Jg:=Lib.hid (QW.out.trans (jc NH.out hb5) fun b _ hb=>hb)
 have hiw:=(Array.getElem?_eq_some_iff.1 hit).1
 clear V8 hit hb5
 go_wp2_with fail
 by_cases hz:z=0
 ·have HZ:=Lib.hid hz
  have g1:(z==0)=true:=by simpa using hz
  have g2:(z !=0)=false:=by simpa using hz
  clear hz
  by_cases hln:(L:Int)=size
  ·have NZ:=Lib.hid hln
   have g3:((L:Int)==size)=true:=by simpa using hln
   have g4:((L:Int) !=size)=false:=by simpa using hln
   clear hln
   go_quiet (fail)
   have Bp:Keeps (fun b=>b=x) w (w5.drewN nq):=qZ nq Jg.out
   have SN:bJ D (w5.drewN nq) x s4:=(Kv.out.below iQ.out (Nat.le_refl _)).drewN nq
   have SQ:(w5.drewN nq).heap[w4.heap.size]? =some (.cells #[.int .i64 id, .int .i64 kind, .int .i64 links, .int .i64 size, .int .u64 aO, .bool closed, .slice a4 L c4, .map none] 112 (0,0)):=HIT.out
   have QX:aj (fun b=>w3.drew.heap.size≤b∧b<w4.heap.size) (w5.drewN nq) a4 L (b4.map bv):=(HR4.out.below iQ.out (Nat.le_refl _)).kept (Nat.le_refl _) fun _ _ _=>rfl
   have ZX:(w5.drewN nq).cell? ⟨w2.heap.size,1,none⟩=some (.int .i64 kind):=hq1
   have Yq:w2.heap.size<(w5.drewN nq).heap.size:=Nat.lt_of_lt_of_le hvw (Nat.le_trans hs4 iQ.out.size)
   clear hq1 hq3 hi6 HIT Jg
   generalize w5.drewN nq=w6 at*
   have HS:=Lib.hid (ng SN)
   have hrg:=fI s4 2
   obtain⟨cnt,hcnt⟩:∃cnt:Nat,(bO s4 2).1=(cnt:Int):=⟨(bO s4 2).1.toNat,by omega⟩
   have hcb:cnt<65536:=by
    have:(256:Int)^2=65536:=rfl
    omega
   obtain⟨s5,hs5⟩:∃t,t=(bO s4 2).2:=⟨_,rfl⟩
   rw[hcnt,←hs5]at HS
   have G6:=Lib.hid (And.intro hcnt hs5)
   have Vp:=Lib.hid QX
   have Yr:=Lib.hid SQ
   have xB:=Lib.hid Bp
   have hx6:=SN.lt
   have Vq:=(Array.getElem?_eq_some_iff.1 SQ).1
   have hix:w4.heap.size≠x:=by have:=Kv.out.lt;omega
   clear hrg hcnt hs5 QX SQ Bp SN
   go_wp2_with fail
   (with_reducible refine HS.out.mono ?_)
   rintro e w7 ⟨rfl,ZY,TM⟩
   have hvx:w2.heap.size≠x:=by omega
   have hk7:w7.cell? ⟨w2.heap.size,1,none⟩=some (.int .i64 kind):=(World.cell?_of_block (w:=w6) (w':=w7) (a:=⟨w2.heap.size,1,none⟩) (TM.block _ Yq hvx)).trans ZX
   have Vr:=(TM.block _ Vq hix).trans Yr.out
   have hs7:=TM.size
   have SS:=Lib.hid (xB.out.trans TM fun b _ hb=>hb)
   have QY:Hid (aj (fun b=>w3.drew.heap.size≤b∧b<w4.heap.size) w7 a4 L (b4.map bv)):=Vp.out.kept hs7 fun b hb hbw=>TM.block b hbw fun(e:b=x)=>by have:=Kv.out.lt;have:=NH.out.size;have h9:w3.heap.size≤b:=hb.1;have:=QW.out.size;omega
   have SE:=Lib.hid ZY
   have Qb:=Lib.hid Vr
   have mq:Hid ((bY (aQ s).1).1=⟨id,kind,links,size,aO,closed⟩∧(bY (aQ s).1).2=0∧(aQ (aQ s).2).1=b4∧(aQ (aQ s).2).2=s4):=by
    refine⟨?_,?_,?_,?_⟩
    ·rw[←SK.out.1,←HN.out.1]
    ·rw[←SK.out.1,←HN.out.2,HZ.out]
    ·rw[←SK.out.2,←Fp.out.1]
    ·rw[←SK.out.2,←Fp.out.2]
   have hs30:=QW.out.size
   have hs34:=hs4
   have hs45:=iQ.out.size
   have Vs:∀(l:List (Nm×Int)) (nb:Nat) (v:Value),v=fD (uY ⟨id,kind,links,size,aO,closed⟩ b4 l) nb→iL id (uY ⟨id,kind,links,size,aO,closed⟩ b4 l) a4 c4 nb= #[.int .i64 id, .int .i64 kind, .int .i64 links, .int .i64 size, .int .u64 aO, .bool closed, .slice a4 L c4,v]:=fun l nb v hv=>by
    rw[hv]
    unfold iL uY
    dsimp only
    rw[←HL.out,NZ.out]
   have Vt:=Lib.hid Vs
   have HLX:=Kv.out.lt
   clear ZY TM Vr Vs HS ZX
   by_cases hk1:kind=1
   ·have g5:(kind==1)=true:=by simpa using hk1
    by_cases hc0:cnt=0
    ·have HF:Hid (gZ s=some ((id,uY ⟨id,kind,links,size,aO,closed⟩ b4 []),s5)):=by
      show _=_
      unfold gZ
      dsimp only
      rw[mq.out.1,mq.out.2.1,mq.out.2.2.1,mq.out.2.2.2,if_neg (by
       dsimp only
       rw[←HL.out,NZ.out]
       simp),if_pos hk1,if_pos (by rw[G6.out.1,hc0];rfl),G6.out.2]
     subst hc0
     have G7:=Lib.hid hk1
     clear hk1
     go_wp2_with fail
     go_ret2
     refine⟨SS.out,?_⟩
     rw[HF.out]
     refine⟨w4.heap.size,0,fun b=>w3.drew.heap.size≤b∧b<w4.heap.size,rfl,SE.out,⟨⟨a4,c4,?_,?_,?_⟩,fun hk=> ?_⟩,by omega,by omega,fun hk=> ?_,fun b hb=> ?_⟩
     ·rw[Vt.out [] 0 (.map none) (if_neg (by show ¬kind=2;rw[G7.out];decide)).symm]
      exact Qb.out
     ·show lu b4.length c4
      rw[←HL.out];exact TK.out
     ·show aj _ w7 a4 b4.length _
      rw[←HL.out];exact QY.out
     ·have h9:kind=2:=hk
      rw[G7.out]at h9;cases h9
     ·have h9:kind=2:=hk
      rw[G7.out]at h9;cases h9
     ·have h9:w3.heap.size≤b:=hb.1
      have h8:=hb.2
      exact⟨by omega,by omega,by omega,fun hk=>by
       have h9:kind=2:=hk
       rw[G7.out]at h9;cases h9⟩
    ·have HF:Hid (gZ s=none):=by
      show _=_
      unfold gZ
      dsimp only
      rw[mq.out.1,mq.out.2.1,mq.out.2.2.1,mq.out.2.2.2,if_neg (by
       dsimp only
       rw[←HL.out,NZ.out]
       simp),if_pos hk1,if_neg (by rw[G6.out.1];omega)]
     have g6:((cnt:Int)==0)=false:=by simpa using hc0
     clear hk1 hc0
     go_wp2_with fail
     go_ret2
     exact kU.none_ SS.out HF.out
   ·have g5:(kind==1)=false:=by simpa using hk1
    have hk2:kind=2:=by
     have h9:=(zF mq.out.2.1).2.1
     rw[mq.out.1]at h9
     rcases h9 with h9|h9
     ·exact absurd h9.1 hk1
     ·exact h9.1
    have Yt:=Lib.hid hk2
    have G7:=Lib.hid hk1
    have hmm:= @run_makeMap Tryz.prog
    have hf7:w7.frozen? ⟨w4.heap.size,7,none⟩=false:=by simp only[World.frozen?,Qb.out];rfl
    have hc7:w7.cell? ⟨w4.heap.size,7,none⟩=some (.map none):=eZ Qb.out 7
    have Yu:w4.heap.size<w7.heap.size:=Nat.lt_of_lt_of_le Vq hs7
    clear hk1 hk2
    go_wp2_with fail
    obtain⟨w8,hw8⟩:∃w8,w8=(w7.setCell ⟨w4.heap.size,7,none⟩ (.map (some w7.heap.size))).alloc (.map #[] 0):=⟨_,rfl⟩
    have Qc:(w7.setCell ⟨w4.heap.size,7,none⟩ (.map (some w7.heap.size))).heap.size=w7.heap.size:=size_set _ _ _
    rw[←hw8]
    have Ip:w8.heap.size=w7.heap.size+1:=by rw[hw8,World.size_alloc,Qc]
    have Z0:MapAt cK w8 w7.heap.size []:=by
     have:=MapAt.made (F:=cK) (w7.setCell ⟨w4.heap.size,7,none⟩ (.map (some w7.heap.size)))
     rw[Qc]at this
     rw[hw8]
     exact this
    have hold:∀b,b<w7.heap.size→b≠w4.heap.size→w8.heap[b]? =w7.heap[b]? :=fun b hb hn=>by
     rw[hw8]
     exact((wall _ _).block b (by rw[Qc];exact hb)).trans (bI _ _ _ _ hn)
    have Z4:w8.heap[w4.heap.size]? =some (.cells #[.int .i64 id, .int .i64 kind, .int .i64 links, .int .i64 size, .int .u64 aO, .bool closed, .slice a4 L c4, .map (some w7.heap.size)] 112 (0,0)):=by
     rw[hw8,(wall (w7.setCell ⟨w4.heap.size,7,none⟩ (.map (some w7.heap.size))) _).block _ (by rw[Qc];exact Yu),bX Qb.out]
     rfl
    have Z5:Keeps (fun b=>b=x) w w8:=by
     have hk:Keeps (fun b=>b=w4.heap.size) w7 w8:=by
      rw[hw8]
      exact jc (Keeps.iG w7 ⟨w4.heap.size,7,none⟩ _) (wall _ _)
     exact⟨hk.os.trans SS.out.os,hk.tape.trans SS.out.tape,hk.output.trans SS.out.output,by have:=SS.out.size;omega,fun b hb hn=>(hold b (by omega) (by omega)).trans (SS.out.block b hb hn)⟩
    have TA:=Lib.hid (SE.out.kept (w1:=w8) (by omega) (hold x (by omega) (by omega)) fun b hb hbw=>hold b hbw (fun e=>by have:=Kv.out.low b hb;omega))
    have Ob:=Lib.hid Z0
    have MP:=Lib.hid Z4
    have Z6:=Lib.hid Z5
    have HOLD:=Lib.hid hold
    clear hw8 Z0 Z4 Z5 hold hf7 hc7 hmm hk7
    go_loopw [8,46] (fun lv iv wr=>Vo D w8 x w7.heap.size cnt s5 lv iv wr) (fun _ iv _=>cnt-(intOf iv).toNat)
    case atStart=>exact⟨0,s5,[],[],rfl,Nat.zero_le _,rfl,rfl,fun e he=>(by cases he),rfl,TA.out,Ob.out,Keeps.refl _ _⟩
    case round=>
     obtain⟨k,sr,last,acc,rfl,hk,rfl,hrn,hal,hac,hRr,Z7,hKr⟩:=hrel
     have QK:=Lib.hid hrn
     have SV:=Lib.hid hal
     have TN:=Lib.hid hac
     have HRR:=Lib.hid hRr
     have Yv:=Lib.hid Z7
     have SX:=Lib.hid hKr
     clear hrn hal hac hRr Z7 hKr
     by_cases hlt:k<cnt
     ·have hmr:=Yv.out.lt
      have U2:=Ob.out.lt
      have hsr:=SX.out.size
      have hxr:=HRR.out.lt
      have hI:wr.heap[w4.heap.size]? =some (.cells #[.int .i64 id, .int .i64 kind, .int .i64 links, .int .i64 size, .int .u64 aO, .bool closed, .slice a4 L c4, .map (some w7.heap.size)] 112 (0,0)):=(SX.out.block _ (by omega) (by omega)).trans MP.out
      have HI:=Lib.hid hI
      have Yw:=Lib.hid (zD HRR.out)
      have hnl:=wE sr
      obtain⟨nm,hnm⟩:∃b,b=(aQ sr).1:=⟨_,rfl⟩
      obtain⟨t1,ht1⟩:∃t,t=(aQ sr).2:=⟨_,rfl⟩
      rw[←hnm,←ht1]at Yw
      rw[←hnm]at hnl
      have lW:=Lib.hid (And.intro hnm ht1)
      have KO:Hid (∀w',Keeps (fun b=>b=x∨b=w7.heap.size) w8 w'→Keeps (fun b=>b=x) w w'):=fun w' hK=>Z6.out.trans hK fun z hz hzx=>hzx.resolve_right fun e=>by omega
      clear hnm ht1 hI
      go_wp2_with fail
      (with_reducible refine Yw.out.mono ?_)
      rintro e wa ⟨aa,ca,rfl,hca,hra,Z8,hKa⟩
      have hcv:(convert 23 9 (.slice aa nm.length ca)).run Tryz.prog wa= .ok (.string (strOf nm)) wa:=lq (c:=ca) hra
      have Sg:=Lib.hid Z8
      have HKA:=Lib.hid hKa
      have hsa:=hKa.size
      have HMA:=Lib.hid (Yv.out.kept (hKa.block _ hmr (by omega)))
      have Z9:=Lib.hid ((hKa.block _ (by omega) hix).trans HI.out)
      clear hca hra Z8 hKa Yw
      go_wp2_with fail
      clear hcv
      have L_:=Lib.hid (ng Sg.out.drew)
      obtain⟨v,hv⟩:∃v,v=(bO t1 2).1:=⟨_,rfl⟩
      obtain⟨t2,ht2⟩:∃t,t=(bO t1 2).2:=⟨_,rfl⟩
      rw[←hv,←ht2]at L_
      have HV:=Lib.hid (And.intro hv ht2)
      clear hv ht2
      refine KN 7 ((fun w'=>w'.cell? ⟨w4.heap.size,7,none⟩=some (.map (some w7.heap.size)))) ?_ fun hS=> ?_
      ·exact eZ Z9.out 7
      refine bU 0 hS ?_
      refine bU 1 hS ?_
      refine bU 2 hS ?_
      refine bU 3 hS ?_
      refine bU 4 hS ?_
      refine bU 5 hS ?_
      refine iO 6 fun K hK=> ?_
      go_simp
      (with_reducible refine L_.out.mono ?_)
      rintro e wb ⟨rfl,hRb,hKb⟩
      have Z_:wb.heap[w4.heap.size]? =some (.cells #[.int .i64 id, .int .i64 kind, .int .i64 links, .int .i64 size, .int .u64 aO, .bool closed, .slice a4 L c4, .map (some w7.heap.size)] 112 (0,0)):=(hKb.block _ (by show w4.heap.size<wa.heap.size;omega) hix).trans Z9.out
      have hMb:MapAt cK wb w7.heap.size (acc.map fun e=>(e.1, .int .i64 e.2)):=HMA.out.kept (hKb.block _ (by show w7.heap.size<wa.heap.size;omega) (by omega))
      have hsb:wa.heap.size≤wb.heap.size:=hKb.size
      have Ka:=Lib.hid hRb
      have Xd:Hid (Keeps (fun b=>b=x) wa wb):=⟨hKb.os,hKb.tape,hKb.output,hKb.size,hKb.block⟩
      clear hRb hKb L_
      go_wp2_with fail
      refine iX hK (eZ Z_ 7) fun hS=> ?_
      clear hK K
      refine iO 7 fun K hK=> ?_
      go_simp
      obtain⟨wc,hrun,hMc,Vu⟩:=hMb.ru cK Tryz.underlying110 (by rw[List.length_map,TN.out];unfold maxLen;omega) nm (.int .i64 v) (by show nm.length≤maxLen;unfold maxLen;omega)
      have hval:cK.val nm= .string (strOf nm):=rfl
      rw[hval]at hrun
      rw[hrun]
      go_simp
      refine Bl hK ?_
      clear hS hK K
      have hsc:=iB Vu
      have PL:=Lib.hid hMc
      have V9:=Lib.hid (Ka.out.kept (w1:=wc) (by omega) (dG Vu x (by have:=Ka.out.lt;omega) (by omega)) fun b hb hbw=>dG Vu b hbw (fun e=>by have:=Kv.out.low b hb;omega))
      have HKC:Hid (Keeps (fun b=>b=x∨b=w7.heap.size) w8 wc):=((SX.out.trans HKA.out fun z _ hz=> .inl hz).trans Xd.out fun z _ hz=> .inl hz).trans (Keeps.turned Vu) fun z _ hz=> .inr hz
      clear hrun hMc Vu hMb Z_ hval
      have Qd:=Lib.hid (fun w'=>Db (strOf nm) w' (by rw[eT];unfold maxLen;omega))
      have hgl:(strOf nm).data.toList=nm:=by simp[strOf]
      rw[hgl]at Qd
      have Od:=Lib.hid (PY V9.out)
      have Gc:=Lib.hid (GL V9.out)
      have qj:Hid ((t2.2≠0∨bV nm=false∨bytesBefore last nm=false)→gZ s=none):=fun hh=>by
       refine Kr (cnt:=cnt) mq.out.2.1 (by rw[mq.out.2.2.1,mq.out.1];dsimp only;rw[←HL.out,NZ.out]) (by rw[mq.out.1];exact G7.out) (by rw[mq.out.2.2.2];exact G6.out.1) ?_
       rw[mq.out.2.2.2,←G6.out.2,←QK.out,show cnt-k=(cnt-(k+1))+1 by omega]
       refine E8 ?_
       rw[←lW.out.1,←lW.out.2,←HV.out.2]
       exact hh
      clear hgl
      by_cases he:t2.2=0
      ·have hgo:∀w',Below wc.heap.size wc w'→Keeps (fun b=>b=x∨b=w7.heap.size) w8 w':=fun w' hb=>jc HKC.out hb
       have CX:=Lib.hid hgo
       have HE0:=Lib.hid he
       clear hgo
       rcases Nat.eq_zero_or_pos t2.1.length with hl0|hl0
       ·have hlf:qW t2=0:=by unfold qW;rw[if_neg (by simp[he])];exact hl0
        have hen:oH t2=0:=by unfold oH;rw[if_neg (fun hh=>by omega)];exact he
        rw[hlf]at Od
        rw[hen]at Gc
        clear hlf hen hl0 he
        go_wp2_with fail
        (with_reducible refine Od.out.mono ?_)
        rintro e _ ⟨rfl,rfl⟩
        go_wp2_with fail
        (with_reducible refine Gc.out.mono ?_)
        rintro e _ ⟨rfl,rfl⟩
        go_wp2_with fail
        cases hg:bV nm with
        |false=>
         rw[hg]at Qd
         have HF:=Lib.hid (qj.out (.inr (.inl hg)))
         clear hg qj
         (with_reducible refine(Qd.out _).mono ?_)
         rintro e wd ⟨rfl,hbd⟩
         have NI:=Lib.hid (KO.out _ (CX.out _ hbd))
         clear hbd
         go_wp2_with fail
         go_ret2
         exact kU.none_ NI.out HF.out
        |true=>
         rw[hg]at Qd
         have HG:=Lib.hid hg
         clear hg
         (with_reducible refine(Qd.out _).mono ?_)
         rintro e wd ⟨rfl,hbd⟩
         have Qe:=Lib.hid hbd
         clear hbd
         cases hb:bytesBefore last nm with
         |false=>
          have HF:=Lib.hid (qj.out (.inr (.inr hb)))
          have NI:=Lib.hid (KO.out _ (CX.out _ Qe.out))
          clear qj
          by_cases heq:nm=last
          ·subst heq
           have e1:Op.bytesLess (strOf nm).toList (strOf nm).toList=false:=by rw[dD,pU];exact Go.WideAt.bytes_irrefl _
           have e2:((strOf nm).toList==(strOf nm).toList)=true:=by simp
           clear hb
           go_wp2_with fail
           go_ret2
           exact kU.none_ NI.out HF.out
          ·have e1:Op.bytesLess (strOf nm).toList (strOf last).toList=true:=by
            rw[dD,dD,pU]
            rcases Go.WideAt.bytes_total nm last heq with h9|h9
            ·exact h9
            ·rw[hb]at h9;cases h9
           clear hb heq
           go_wp2_with fail
           go_ret2
           exact kU.none_ NI.out HF.out
         |true=>
          have e1:Op.bytesLess (strOf nm).toList (strOf last).toList=false:=by
           rw[dD,dD,pU]
           cases h9:bytesBefore nm last with
           |false=>rfl
           |true=>
            have h8:=mJ _ _ _ hb h9
            rw[Go.WideAt.bytes_irrefl]at h8
            cases h8
          have e2:((strOf nm).toList==(strOf last).toList)=false:=by
           rw[dD,dD]
           have hne:nm≠last:=fun h9=>by rw[h9,Go.WideAt.bytes_irrefl]at hb;cases hb
           simpa using hne
          have zT:=Lib.hid hb
          clear hb qj
          go_wp2_with fail
          go_roundw
          case rel=>
           refine⟨k+1,t2,nm,acc++[(nm,v)],by go_num,by omega,rfl,?_,fun e he=> ?_,by rw[List.length_append,TN.out];rfl,V9.out.below Qe.out (Nat.le_refl _),?_,CX.out _ Qe.out⟩
           ·rw[←QK.out,show cnt-k=(cnt-(k+1))+1 by omega]
            rw[wY (by rw[←lW.out.2,←HV.out.2];exact HE0.out) (by rw[←lW.out.1];exact HG.out) (by rw[←lW.out.1];exact zT.out),←lW.out.1,←lW.out.2,←HV.out.1,←HV.out.2]
           ·rcases List.mem_append.1 he with h9|h9
            ·exact .inr (zN SV.out zT.out e h9)
            ·simp only[List.mem_singleton]at h9
             subst h9
             exact .inl rfl
           ·rw[←IW SV.out zT.out v]
            exact PL.out.kept (Qe.out.block _ PL.out.lt)
          case measure=>simp[intOf];omega
       ·have hlf:qW t2=t2.1.length:=by unfold qW;rw[if_neg (by simp[he])]
        rw[hlf]at Od
        have glf:((t2.1.length:Int)==0)=false:=beq_eq_false_iff_ne.2 (by omega)
        clear hlf hl0 he
        go_wp2_with fail
        (with_reducible refine Od.out.mono ?_)
        rintro e _ ⟨rfl,rfl⟩
        go_wp2_with fail
        clear glf
        cases hg:bV nm with
        |false=>
         rw[hg]at Qd
         have HF:=Lib.hid (qj.out (.inr (.inl hg)))
         clear hg qj
         (with_reducible refine(Qd.out _).mono ?_)
         rintro e wd ⟨rfl,hbd⟩
         have NI:=Lib.hid (KO.out _ (CX.out _ hbd))
         clear hbd
         go_wp2_with fail
         go_ret2
         exact kU.none_ NI.out HF.out
        |true=>
         rw[hg]at Qd
         have HG:=Lib.hid hg
         clear hg
         (with_reducible refine(Qd.out _).mono ?_)
         rintro e wd ⟨rfl,hbd⟩
         have Qe:=Lib.hid hbd
         clear hbd
         cases hb:bytesBefore last nm with
         |false=>
          have HF:=Lib.hid (qj.out (.inr (.inr hb)))
          have NI:=Lib.hid (KO.out _ (CX.out _ Qe.out))
          clear qj
          by_cases heq:nm=last
          ·subst heq
           have e1:Op.bytesLess (strOf nm).toList (strOf nm).toList=false:=by rw[dD,pU];exact Go.WideAt.bytes_irrefl _
           have e2:((strOf nm).toList==(strOf nm).toList)=true:=by simp
           clear hb
           go_wp2_with fail
           go_ret2
           exact kU.none_ NI.out HF.out
          ·have e1:Op.bytesLess (strOf nm).toList (strOf last).toList=true:=by
            rw[dD,dD,pU]
            rcases Go.WideAt.bytes_total nm last heq with h9|h9
            ·exact h9
            ·rw[hb]at h9;cases h9
           clear hb heq
           go_wp2_with fail
           go_ret2
           exact kU.none_ NI.out HF.out
         |true=>
          have e1:Op.bytesLess (strOf nm).toList (strOf last).toList=false:=by
           rw[dD,dD,pU]
           cases h9:bytesBefore nm last with
           |false=>rfl
           |true=>
            have h8:=mJ _ _ _ hb h9
            rw[Go.WideAt.bytes_irrefl]at h8
            cases h8
          have e2:((strOf nm).toList==(strOf last).toList)=false:=by
           rw[dD,dD]
           have hne:nm≠last:=fun h9=>by rw[h9,Go.WideAt.bytes_irrefl]at hb;cases hb
           simpa using hne
          have zT:=Lib.hid hb
          clear hb qj
          go_wp2_with fail
          go_roundw
          case rel=>
           refine⟨k+1,t2,nm,acc++[(nm,v)],by go_num,by omega,rfl,?_,fun e he=> ?_,by rw[List.length_append,TN.out];rfl,V9.out.below Qe.out (Nat.le_refl _),?_,CX.out _ Qe.out⟩
           ·rw[←QK.out,show cnt-k=(cnt-(k+1))+1 by omega]
            rw[wY (by rw[←lW.out.2,←HV.out.2];exact HE0.out) (by rw[←lW.out.1];exact HG.out) (by rw[←lW.out.1];exact zT.out),←lW.out.1,←lW.out.2,←HV.out.1,←HV.out.2]
           ·rcases List.mem_append.1 he with h9|h9
            ·exact .inr (zN SV.out zT.out e h9)
            ·simp only[List.mem_singleton]at h9
             subst h9
             exact .inl rfl
           ·rw[←IW SV.out zT.out v]
            exact PL.out.kept (Qe.out.block _ PL.out.lt)
          case measure=>simp[intOf];omega
      ·have hlf:qW t2=0:=by unfold qW;rw[if_pos he]
       have hen:oH t2=t2.2:=by unfold oH;rw[if_neg (fun hh=>he hh.1)]
       have HF:=Lib.hid (qj.out (.inl he))
       have g7:(t2.2 !=0)=true:=by simpa using he
       have g8:(t2.2==0)=false:=by simpa using he
       rw[hlf]at Od
       rw[hen]at Gc
       have NI:=Lib.hid (KO.out _ HKC.out)
       clear hlf hen he qj
       go_wp2_with fail
       (with_reducible refine Od.out.mono ?_)
       rintro e _ ⟨rfl,rfl⟩
       go_wp2_with fail
       (with_reducible refine Gc.out.mono ?_)
       rintro e _ ⟨rfl,rfl⟩
       go_wp2_with fail
       go_ret2
       exact kU.none_ NI.out HF.out
     ·obtain rfl:k=cnt:=by omega
      have HF:Hid (gZ s=some ((id,uY ⟨id,kind,links,size,aO,closed⟩ b4 acc),sr)):=by
       show _=_
       rw[Kt (cnt:=k) (q:=(acc,sr)) mq.out.2.1 (by rw[mq.out.2.2.1,mq.out.1];dsimp only;rw[←HL.out,NZ.out]) (by rw[mq.out.1];exact G7.out) (by rw[mq.out.2.2.2];exact G6.out.1) (by rw[mq.out.2.2.2,←G6.out.2,←QK.out,Nat.sub_self];rfl),mq.out.1,mq.out.2.2.1]
      go_wp2_with fail
      go_ret2
      have U2:=Ob.out.lt
      have hsr:=SX.out.size
      refine⟨Z6.out.trans SX.out fun z hz hzx=>hzx.resolve_right fun e=>by omega,?_⟩
      rw[HF.out]
      refine⟨w4.heap.size,w7.heap.size,fun b=>w3.drew.heap.size≤b∧b<w4.heap.size,rfl,HRR.out,⟨⟨a4,c4,?_,?_,?_⟩,fun hk=> ?_⟩,by omega,by omega,fun hk=>⟨by omega,by omega,by omega⟩,fun b hb=> ?_⟩
      ·rw[Vt.out acc w7.heap.size (.map (some w7.heap.size)) (if_pos (show kind=2 from Yt.out)).symm]
       exact(SX.out.block _ (by omega) (by omega)).trans MP.out
      ·show lu b4.length c4
       rw[←HL.out];exact TK.out
      ·show aj _ wr a4 b4.length _
       rw[←HL.out]
       exact QY.out.kept (by omega) fun b hb hbw=>by
        have h9:w3.heap.size≤b:=hb.1
        have h8:=hb.2
        exact(SX.out.block b (by omega) (by omega)).trans (HOLD.out b hbw (by omega))
      ·exact Yv.out
      ·have h9:w3.heap.size≤b:=hb.1
       have h8:=hb.2
       exact⟨by omega,by omega,by omega,fun _=>by omega⟩
  ·have g3:((L:Int)==size)=false:=by simpa using hln
   have g4:((L:Int) !=size)=true:=by simpa using hln
   have HF:Hid (gZ s=none):=by
    show _=_
    unfold gZ
    dsimp only
    rw[if_pos]
    right
    rw[←SK.out.1,←HN.out.1,←SK.out.2,←Fp.out.1,←HL.out]
    exact hln
   clear hln
   go_quiet (fail)
   go_wp2_with fail
   go_ret2
   exact kU.none_ (qZ _ Jg.out) HF.out
 ·have g1:(z==0)=false:=by simpa using hz
  have g2:(z !=0)=true:=by simpa using hz
  have HF:Hid (gZ s=none):=by
   show _=_
   unfold gZ
   dsimp only
   rw[if_pos]
   left
   rw[←SK.out.1,←HN.out.2]
   exact hz
  clear hz
  go_quiet (fail)
  go_wp2_with fail
  go_ret2
  exact kU.none_ (qZ _ Jg.out) HF.out
end
end Go.Proofs.YtjnhnlabpccgjaaGreat
