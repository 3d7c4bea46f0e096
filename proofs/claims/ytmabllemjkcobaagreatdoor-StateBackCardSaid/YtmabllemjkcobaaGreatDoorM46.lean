/- A node that is loaded is laid into a tree. -/
import Derived.Test.YtmabllemjkcobaaGreatDoorM44
import Derived.Test.YtmabllemjkcobaaGreatDoorM13
namespace Go.Proofs.YtmabllemjkcobaaGreatDoor
open Go.ChangeShapes Go.WideShapes Go.ChangeAt Go.RowKit
set_option linter.unusedVariables false
set_option linter.unusedSimpArgs false
theorem aC.add2 {g:Nat→Own} {D D2:Nat→Prop} {w w':World} {p mb:Nat} {ib nb:Int→Nat} {T:aK} (h:aC g D w p mb ib nb T) {k:Int} {x:eB} {i n:Nat} (hi0:g i= .none∧¬D i) (hn0:x.kind=2→g n= .none∧¬D n) (hin:x.kind=2→i≠n) (hiw:i<w'.heap.size) (hnw:x.kind=2→n<w'.heap.size) (hx0:ah k T=none)
  (hm:MapAt aP w' mb (cO jw k (ptr i) (T.map fun q=>(q.1,ptr (ib q.1))))) (hsz:w.heap.size≤w'.heap.size) (hb:∀b,b<w.heap.size→g b≠ .none∨D b→b≠mb→w'.heap[b]? =w.heap[b]?) (hi:iA D2 w' k i n x) (hD2:∀b,D2 b→g b= .none∧b<w'.heap.size∧b≠i∧(x.kind=2→b≠n)):
  aC (fun b=>if b=i then .item k else if b=n∧x.kind=2 then .names k else g b) (fun b=>D b∨D2 b) w' p mb (fun j=>if j=k then i else ib j) (fun j=>if j=k then n else nb j) (cO jw k x T):=by
 have hgg:∀b,g b≠ .none→(if b=i then Own.item k else if b=n∧x.kind=2 then .names k else g b)=g b:=fun b hb=>by
  rw[if_neg (fun e:b=i=>hb (by rw[e];exact hi0.1)),if_neg (fun h2:b=n∧x.kind=2=>hb (by rw[h2.1];exact(hn0 h2.2).1))]
 have hp:g p≠ .none:=by rw[h.nC];simp
 have hmm:g mb≠ .none:=by rw[h.iG];simp
 have hbg:∀b,g b≠ .none→b≠mb→w'.heap[b]? =w.heap[b]? :=fun b hg hne=>hb b (h.low b hg) (.inl hg) hne
 refine⟨(hbg p hp (fun e=>by have:=h.nC;rw[e,h.iG]at this;cases this)).trans h.head,?_,?_,(hgg p hp).trans h.nC,(hgg mb hmm).trans h.iG,?_,?_,?_,?_,fun b hb=> ?_⟩
 ·have e1:(cO jw k x T).map (fun q=>(q.1,ptr ((fun j=>if j=k then i else ib j) q.1)))=cO jw k (ptr i) (T.map fun q=>(q.1,ptr (ib q.1))):=by
   rw[rz jw (fun j _=>ptr ((fun j=>if j=k then i else ib j) j))]
   simp only[if_pos]
   congr 1
   apply List.map_congr_left
   intro q hq
   have:q.1≠k:=ji.1 hx0 q hq
   rw[if_neg this]
  rw[e1]
  exact hm
 ·intro j y hy
  rw[dW]at hy
  by_cases hj:j=k
  ·subst hj
   rw[if_pos rfl]at hy
   cases hy
   simp only[if_pos]
   exact hi.move (Nat.le_refl _) rfl (fun _=>rfl) (fun b hb _=>⟨.inr hb,rfl⟩)
  ·rw[if_neg hj]at hy
   simp only[if_neg hj]
   have t1:=h.lZ j y hy
   refine(h.item j y hy).move hsz (hbg _ (by rw[t1];simp) (fun e=>by rw[e,h.iG]at t1;cases t1)) (fun hk=>hbg _ (by rw[h.kD j y hy hk];simp) (fun e=>by have t2:=h.kD j y hy hk;rw[e,h.iG]at t2;cases t2)) ?_
   intro b qF hbw
   exact⟨.inl qF,hb b hbw (.inr qF) (fun e=>by have:=h.data b qF;rw[e,h.iG]at this;cases this)⟩
 ·intro j y hy
  rw[dW]at hy
  by_cases hj:j=k
  ·subst hj;simp
  ·rw[if_neg hj]at hy
   have t1:=h.lZ j y hy
   simp only[if_neg hj]
   rw[hgg _ (by rw[t1];simp)]
   exact t1
 ·intro j y hy hk
  rw[dW]at hy
  by_cases hj:j=k
  ·subst hj
   rw[if_pos rfl]at hy
   cases hy
   simp only[if_pos]
   rw[if_neg (Ne.symm (hin hk)),if_pos ⟨trivial,hk⟩]
  ·rw[if_neg hj]at hy
   have t1:=h.kD j y hy hk
   simp only[if_neg hj]
   rw[hgg _ (by rw[t1];simp)]
   exact t1
 ·intro b qF
  rcases qF with qF|qF
  ·rw[if_neg (fun e:b=i=>hi0.2 (by rw[←e];exact qF)),if_neg (fun h2:b=n∧x.kind=2=>(hn0 h2.2).2 (by rw[←h2.1];exact qF))]
   exact h.data b qF
  ·obtain⟨d1,d2,d3,d4⟩:=hD2 b qF
   rw[if_neg d3,if_neg (fun h2=>d4 h2.2 h2.1)]
   exact d1
 ·intro b hbn
  by_cases h1:b=i
  ·omega
  ·by_cases h2:b=n∧x.kind=2
   ·have:=hnw h2.2;omega
   ·simp only[if_neg h1,if_neg h2]at hbn
    exact Nat.lt_of_lt_of_le (h.low b hbn) hsz
 ·rcases hb with qF|qF
  ·exact Nat.lt_of_lt_of_le (h.l5 b qF) hsz
  ·exact(hD2 b qF).2.1
theorem AB {κ α:Type} (lt:κ→κ→Bool) (x:κ×α):∀{l:List (κ×α)},(∀q∈l,lt x.1 q.1=false)→iL lt x l=l++[x]
 |[],_=>rfl
 |y::r,h=>by
  unfold iL
  rw[if_neg (by rw[h y (by simp)];decide),AB lt x fun q hq=>h q (by simp[hq])]
  rfl
theorem AJ {κ α:Type} [DecidableEq κ] (lt:κ→κ→Bool) {k:κ} (v:α) {l:List (κ×α)} (h:∀q∈l,q.1≠k∧lt k q.1=false):cO lt k v l=l++[(k,v)]:=by
 unfold cO
 rw[oz (ji.2 fun q hq=>(h q hq).1)]
 exact AB lt (k,v) fun q hq=>(h q hq).2
def nX (w:World) (p:Nat) (T:aK) (w':World):Prop:=
 ∃g D mb ib nb,aC g D w' p mb ib nb T∧(∀b,g b≠ .none→w.heap.size≤b)∧(∀b,D b→w.heap.size≤b)∧Below w.heap.size w w'
end Go.Proofs.YtmabllemjkcobaaGreatDoor
