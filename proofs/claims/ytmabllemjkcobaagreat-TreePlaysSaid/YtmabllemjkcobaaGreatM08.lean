/- What holds of each tree holds of it behind each call: counts, and the parts of it. -/
import Derived.Test.YtmabllemjkcobaaGreatM07
namespace Go.Proofs.YtmabllemjkcobaaGreat
open Go.ChangeShapes Go.WideShapes Go.ChangeAt Go.RowKit
set_option linter.unusedVariables false
set_option linter.unusedSimpArgs false
theorem dU:nT g_:=WH
theorem lg {T:aG} (hs:aS g_ T) {d:Int} {x:bW} (f:bW→bW) (hx:aj d T=some x) (k:Int):gy (bH d f T) k+cn k x=gy T k+cn k (f x):=by
 induction T with
 |nil=>cases hx
 |cons y r ih=>
  have hp:=hs.apart dU
  obtain⟨h1,h2⟩:=List.pairwise_cons.1 hp
  rw[fZ]at hx
  by_cases hy:y.1=d
  ·rw[if_pos hy]at hx
   cases hx
   have hr:bH d f r=r:=by
    unfold bH
    conv=>rhs;rw[←List.map_id r]
    apply List.map_congr_left
    intro q hq
    have:=h1 q hq
    rw[if_neg (fun e=>this (hy.trans e.symm))]
    rfl
   have e:bH d f (y::r)=(y.1,f y.2)::r:=by
    have:bH d f (y::r)=(if y.1=d then(y.1,f y.2)else y)::bH d f r:=rfl
    rw[this,hr,if_pos hy]
   rw[e]
   simp[gy]
   omega
  ·rw[if_neg hy]at hx
   have:=ih (List.pairwise_cons.1 hs).2 hx
   have e:bH d f (y::r)=y::bH d f r:=by
    have:bH d f (y::r)=(if y.1=d then(y.1,f y.2)else y)::bH d f r:=rfl
    rw[this,if_neg hy]
   rw[e]
   simp[gy]at this⊢
   omega
theorem Cm (x:Int×bW):∀(T:aG) (k:Int),gy (iE g_ x T) k=gy T k+cn k x.2
 |[],k=>by simp[iE,gy]
 |y::r,k=>by
  unfold iE
  split
  ·simp[gy];omega
  ·have:=Cm x r k
   simp[gy]at this⊢
   omega
theorem wY {T:aG} (hs:aS g_ T) {d:Int} {x:bW} (hx:aj d T=some x) (k:Int):gy (bR d T) k+cn k x=gy T k:=by
 induction T with
 |nil=>cases hx
 |cons y r ih=>
  have hp:=hs.apart dU
  obtain⟨h1,h2⟩:=List.pairwise_cons.1 hp
  rw[fZ]at hx
  by_cases hy:y.1=d
  ·rw[if_pos hy]at hx
   cases hx
   have hr:bR d r=r:=by
    unfold bR
    rw[List.filter_eq_self]
    intro q hq
    have:=h1 q hq
    simp only[Bool.not_eq_true',decide_eq_false_iff_not]
    exact fun e=>this (hy.trans e.symm)
   have e:bR d (y::r)=r:=by
    have:bR d (y::r)=if (!decide (y.1=d))=true then y::bR d r else bR d r:=by simp[bR,List.filter_cons]
    rw[this,hr];simp[hy]
   rw[e]
   simp[gy]
   omega
  ·rw[if_neg hy]at hx
   have:=ih (List.pairwise_cons.1 hs).2 hx
   have e:bR d (y::r)=y::bR d r:=by
    have:bR d (y::r)=if (!decide (y.1=d))=true then y::bR d r else bR d r:=by simp[bR,List.filter_cons]
    rw[this];simp[hy]
   rw[e]
   simp[gy]at this⊢
   omega
theorem SF {T:aG} {k j:Int} {x:bW} (hx:aj j T=some x):cn k x≤gy T k:=by
 have hm:=bP hx
 have:∀(l:aG),(j,x)∈l→cn k x≤(l.map fun q=>cn k q.2).sum:=by
  intro l
  induction l with
  |nil=>simp
  |cons y r ih=>
   intro h
   simp only[List.map_cons,List.sum_cons]
   rcases List.mem_cons.1 h with rfl|h
   ·exact Nat.le_add_right _ _
   ·have:=ih h;omega
 exact this T hm
theorem yZ {T:aG} {k:Int} (h:gy T k=0) {j:Int} {x:bW} (hx:aj j T=some x):∀e∈x.names,e.2≠k:=by
 have h1:cn k x=0:=by have:=SF (k:=k) hx;omega
 unfold cn at h1
 rw[List.countP_eq_zero]at h1
 intro e he
 have:=h1 e he
 simpa using this
theorem yQ.bH {T:aG} (h:yQ T) {k:Int} {x:bW} {f:bW→bW} (hx:aj k T=some x) (h1:JI (f x)) (hk:(f x).kind=x.kind) (hn:∀e∈(f x).names,(aj e.2 T).isSome=true∧e.2≠0):yQ (Go.Proofs.YtmabllemjkcobaaGreat.bH k f T):=by
 have hget:∀j y,aj j (Go.Proofs.YtmabllemjkcobaaGreat.bH k f T)=some y→(j=k∧y=f x)∨(j≠k∧aj j T=some y):=fun j y hy=>by
  rw[bq]at hy
  by_cases hj:j=k
  ·subst hj
   rw[if_pos rfl,hx]at hy
   simp only[Option.map_some,Option.some.injEq]at hy
   exact .inl ⟨rfl,hy.symm⟩
  ·rw[if_neg hj]at hy;exact .inr ⟨hj,hy⟩
 have hsome:∀j,(aj j T).isSome=true→(aj j (Go.Proofs.YtmabllemjkcobaaGreat.bH k f T)).isSome=true:=fun j hj=>by
  rw[bq];split<;>simp[hj]
 refine⟨kr k f h.sorted,?_,fun j y hy=> ?_,fun j y hy e he=> ?_,by rw[h_];exact h.len,fun j y hy=> ?_⟩
 ·have hr:=h.root
  unfold bO at hr⊢
  rw[bq]
  by_cases h0:(0:Int)=k
  ·subst h0
   rw[if_pos rfl,hx]
   rw[hx]at hr
   exact hk.trans hr
  ·rw[if_neg h0];exact hr
 ·rcases hget j y hy with⟨rfl,rfl⟩|⟨_,hy⟩
  ·exact h1
  ·exact h.each j y hy
 ·rcases hget j y hy with⟨rfl,rfl⟩|⟨_,hy⟩
  ·exact⟨hsome _ (hn e he).1,(hn e he).2⟩
  ·exact⟨hsome _ (h.leads j y hy e he).1,(h.leads j y hy e he).2⟩
 ·rcases hget j y hy with⟨rfl,rfl⟩|⟨_,hy⟩
  ·exact h.ids j x hx
  ·exact h.ids j y hy
theorem dX.bH {T:aG} (h:dX T) {k:Int} {x:bW} {f:bW→bW} (hx:aj k T=some x) (h1:JI (f x)) (hk:(f x).kind=x.kind) (hn:∀e∈(f x).names,(aj e.2 T).isSome=true∧e.2≠0)
  (hc:∀j y,aj j (Go.Proofs.YtmabllemjkcobaaGreat.bH k f T)=some y→j≠0→(gy (Go.Proofs.YtmabllemjkcobaaGreat.bH k f T) j:Int)=y.links):dX (Go.Proofs.YtmabllemjkcobaaGreat.bH k f T):=⟨h.toyQ.bH hx h1 hk hn,hc⟩
theorem dX.wZ {T:aG} (h:dX T) {k:Int} {x:bW} {f:bW→bW} (hx:aj k T=some x) (h1:JI (f x)) (hk:(f x).kind=x.kind) (hn:(f x).names=x.names) (hl:(f x).links=x.links):dX (Go.Proofs.YtmabllemjkcobaaGreat.bH k f T):=by
 refine h.bH hx h1 hk (by rw[hn];exact h.leads k x hx) fun j y hy hj=> ?_
 have hcn:cn j (f x)=cn j x:=by unfold cn;rw[hn]
 have:=lg h.sorted f hx j
 rw[hcn]at this
 have e:gy (Go.Proofs.YtmabllemjkcobaaGreat.bH k f T) j=gy T j:=by omega
 rw[e]
 rw[bq]at hy
 by_cases hjk:j=k
 ·subst hjk
  rw[if_pos rfl,hx]at hy
  simp only[Option.map_some,Option.some.injEq]at hy
  rw[←hy,hl]
  exact h.counts j x hx hj
 ·rw[if_neg hjk]at hy
  exact h.counts j y hy hj
theorem MV:∀(m:Nat) (T:aG),aS g_ T→(∀i:Nat,1≤i→i≤m→(aj (i:Int) T).isSome=true)→m≤T.length
 |0,_,_,_=>Nat.zero_le _
 |m+1,T,hs,h=>by
  obtain⟨x,hx⟩:=Option.isSome_iff_exists.1 (h (m+1) (by omega) (by omega))
  have h1:=rV dU hs hx
  have h2:=MV m (bR ((m+1:Nat):Int) T) (hs.bR _) (fun i hi him=>by
   rw[fO,if_neg (by omega)]
   exact h i hi (by omega))
  omega
theorem Hy {T:aG} (hs:aS g_ T):∃f:Nat,zq T=f∧1≤f∧f≤T.length+1∧aj (f:Int) T=none∧∀i:Nat,1≤i→i<f→(aj (i:Int) T).isSome=true:=by
 unfold zq
 cases hf:(((List.range (T.length+1)).map fun n:Nat=>(n:Int)+1).find? fun n=>(aj n T).isNone)with
 |none=>
  exfalso
  have h1:=List.find?_eq_none.1 hf
  have:=MV (T.length+1) T hs (fun i hi him=>by
   have:=h1 (i:Int) (List.mem_map.2 ⟨i-1,by simp;omega,by omega⟩)
   cases hq:aj (i:Int) T with
   |none=>rw[hq]at this;simp at this
   |some v=>rfl)
  omega
 |some n=>
  rw[List.find?_eq_some_iff_append]at hf
  obtain⟨hn,xs,ys,hab,hpre⟩:=hf
  have hl:(xs++n::ys).length=T.length+1:=by rw[←hab];simp
  have hidx:∀i (hi:i<xs.length+1),(xs++n::ys)[i]? =some ((i:Int)+1):=fun i hi=>by
   rw[←hab]
   simp only[List.length_append,List.length_cons]at hl
   simp[List.getElem?_range (show i<T.length+1 by omega)]
  have hne:n=(xs.length:Int)+1:=by
   have:=hidx xs.length (by omega)
   simpa using this
  simp only[List.length_append,List.length_cons]at hl
  refine⟨xs.length+1,by simp[hne],by omega,by omega,?_,fun i hi hif=> ?_⟩
  ·have:((xs.length+1:Nat):Int)=n:=by omega
   rw[this]
   simpa using hn
  ·have h2:=hidx (i-1) (by omega)
   rw[List.getElem?_append_left (by omega)]at h2
   have h3:=hpre _ (List.mem_of_getElem? h2)
   have e:((i-1:Nat):Int)+1=i:=by omega
   rw[e]at h3
   cases hq:aj (i:Int) T with
   |none=>rw[hq]at h3;simp at h3
   |some v=>rfl
theorem dX.free {T:aG} (h:dX T):∃f:Nat,zq T=f∧1≤f∧f≤T.length+1∧aj (f:Int) T=none∧∀i:Nat,1≤i→i<f→(aj (i:Int) T).isSome=true:=Hy h.sorted
theorem yc {α:Type} {l:List (Int×α)} {k:Int} (v:α) (h:aj k l=none):(dF g_ k v l).length=l.length+1:=by
 unfold dF
 rw[rT,jM h]
theorem Hz {α:Type} (t:α→Int) (m:Nat):∀(ks:List Int) (E:List α),(∀e∈E,t e∈ks)→(∀k∈ks,E.countP (fun e=>decide (t e=k))≤m)→E.length≤m*ks.length
 |[],E,h,_=>by
  cases E with
  |nil=>simp
  |cons e r=>have:=h e (by simp);simp at this
 |k::ks,E,h,hc=>by
  have h1:=Hz t m ks (E.filter fun e=> !decide (t e=k)) (fun e he=>by
   obtain⟨h1,h2⟩:=List.mem_filter.1 he
   rcases List.mem_cons.1 (h e h1)with h3|h3
   ·simp[h3]at h2
   ·exact h3) (fun j hj=>by
    rw[List.countP_filter]
    refine Nat.le_trans (List.countP_mono_left fun e _ he=> ?_) (hc j (by simp[hj]))
    simp at he⊢
    exact he.1)
  have h2:=hc k (by simp)
  have h3:E.length=E.countP (fun e=>decide (t e=k))+(E.filter fun e=> !decide (t e=k)).length:=by
   rw[←List.countP_eq_length_filter]
   exact(List.length_eq_countP_add_countP (fun e=>decide (t e=k))).trans (by
    have:List.countP (fun a=>decide (¬decide (t a=k)=true)) E=List.countP (fun e=> !decide (t e=k)) E:=List.countP_congr (fun e _=>by simp)
    rw[this])
  rw[List.length_cons,Nat.mul_succ]
  omega
theorem dX.few {T:aG} (h:dX T) {k:Int} {x:bW} (hx:aj k T=some x):x.names.length≤4096:=by
 have h1:=Hz (fun e:Nm×Int=>e.2) 64 (T.map (·.1)) x.names (fun e he=>by
  obtain⟨y,hy⟩:=Option.isSome_iff_exists.1 (h.leads k x hx e he).1
  exact List.mem_map.2 ⟨_,bP hy,rfl⟩) (fun j hj=>by
   by_cases h0:j=0
   ·subst h0
    have:x.names.countP (fun e=>decide (e.2=0))=0:=by
     rw[List.countP_eq_zero]
     intro e he
     have:=(h.leads k x hx e he).2
     simpa using this
    omega
   ·obtain⟨q,hq,rfl⟩:=List.mem_map.1 hj
    have hy:=bf dU h.sorted hq
    have h2:=h.counts _ _ hy h0
    have h3:=(h.each _ _ hy).links
    have h4:=SF (k:=q.1) hx
    unfold cn at h4
    omega)
 have:=h.len
 rw[List.length_map]at h1
 omega
theorem rX {T:aG} (hs:aS g_ T) {k j:Int} {x y:bW} (h:aj j (dF g_ k x T)=some y):(j=k∧y=x)∨(j≠k∧aj j T=some y):=by
 rw[f_]at h
 by_cases hj:j=k
 ·rw[if_pos hj]at h
  exact .inl ⟨hj,by simpa using h.symm⟩
 ·rw[if_neg hj]at h
  exact .inr ⟨hj,h⟩
theorem Cn {kind:Int} (hk:kind=1∨kind=2):JI (bZ kind):=by
 refine⟨hk,fun _=>rfl,fun h=>⟨rfl,?_,rfl,rfl⟩,(fun h=>by cases h),by simp[bZ,aS],by simp[bZ],by simp[bZ],by simp[bZ],by simp[bZ]⟩
 have:kind=2:=h
 simp[bZ,this]
theorem yQ.add {T:aG} (h:yQ T) {f:Int} {kind:Int} (hk:kind=1∨kind=2) (hf:aj f T=none) (h1:0≤f) (h2:f≤65535) (hl:T.length<64):yQ (dF g_ f (bZ kind) T):=by
 refine⟨h.sorted.dF dU _ _,?_,fun j y hy=> ?_,fun j y hy e he=> ?_,by rw[yc _ hf];omega,fun j y hy=> ?_⟩
 ·obtain⟨x,hx,hk0⟩:=gM h.root
  unfold bO
  rw[f_,if_neg (fun e=>by rw[e,hf]at hx;cases hx),hx]
  exact hk0
 ·rcases rX h.sorted hy with⟨rfl,rfl⟩|⟨_,hy⟩
  ·exact Cn hk
  ·exact h.each j y hy
 ·rcases rX h.sorted hy with⟨rfl,rfl⟩|⟨_,hy⟩
  ·cases he
  ·have:=h.leads j y hy e he
   refine⟨?_,this.2⟩
   rw[f_]
   split
   ·rfl
   ·exact this.1
 ·rcases rX h.sorted hy with⟨rfl,rfl⟩|⟨_,hy⟩
  ·exact⟨h1,h2⟩
  ·exact h.ids j y hy
theorem MW {T:aG} {f kind:Int} (hf:aj f T=none) (k:Int):gy (dF g_ f (bZ kind) T) k=gy T k:=by
 unfold dF
 rw[jM hf,Cm]
 simp[cn,bZ]
theorem JJ (n:Nm) (id k:Int):∀l:List (Nm×Int),(iE bytesBefore (n,id) l).countP (fun e=>decide (e.2=k))=l.countP (fun e=>decide (e.2=k))+if id=k then 1 else 0
 |[]=>by simp[iE,List.countP_cons]
 |y::r=>by
  unfold iE
  split
  ·simp[List.countP_cons]
  ·simp only[List.countP_cons,JJ n id k r]
   omega
theorem H9 {x:bW} {n:Nm} {id:Int} (h:aj n x.names=none) (k:Int):cn k {x with names:=dF bytesBefore n id x.names}=cn k x+if id=k then 1 else 0:=by
 unfold cn dF
 simp only
 rw[jM h,JJ]
theorem KJ {T:aG} (h:yQ T) {f:Int} (hf:aj f T=none):gy T f=0:=by
 have:∀l:aG,(∀q∈l,cn f q.2=0)→gy l f=0:=by
  intro l
  induction l with
  |nil=>intro _;rfl
  |cons y r ih=>
   intro hh
   have h1:=ih (fun q hq=>hh q (by simp[hq]))
   have h2:=hh y (by simp)
   unfold gy at h1⊢
   simp only[List.map_cons,List.sum_cons]
   omega
 refine this T fun q hq=> ?_
 unfold cn
 rw[List.countP_eq_zero]
 intro e he hd
 have h1:=h.leads _ _ (bf dU h.sorted hq) e he
 simp only[decide_eq_true_eq]at hd
 rw[hd,hf]at h1
 cases h1.1
theorem Qi {x:bW} (h:JI x) (hk:x.kind=2) {n:Nm} (hn:dw n=true) (id:Int):JI {x with names:=dF bytesBefore n id x.names}:=by
 refine⟨h.kind,fun h1=> ?_,h.dir,h.gone,h.sorted.dF l8 _ _,fun e he=> ?_,h.size,h.links,h.aQ⟩
 ·have:x.kind=1:=h1
  omega
 ·rcases (l6 bytesBefore).1 he with h1|h1
  ·rw[h1];exact hn
  ·exact h.good e (List.mem_filter.1 h1).1
theorem Co {x:bW} {n:Nm} {id:Int} {P:Nm×Int→Prop} (h:∀e∈x.names,P e) (h1:P (n,id)):∀e∈dF bytesBefore n id x.names,P e:=by
 intro e he
 rcases (l6 bytesBefore).1 he with h2|h2
 ·rw[h2];exact h1
 ·exact h e (List.mem_filter.1 h2).1
theorem yQ.set {T:aG} (h:yQ T) {d:Int} {x:bW} {n:Nm} {id:Int} (hx:aj d T=some x) (hk:x.kind=2) (hn:dw n=true) (hid:(aj id T).isSome=true∧id≠0):yQ (setName T d n id):=
 h.bH hx (Qi (h.each d x hx) hk hn id) rfl (Co (h.leads d x hx) hid)
theorem dX.make {T:aG} (h:dX T) {d kind f:Int} {x:bW} {n:Nm} (hk:kind=1∨kind=2) (hf:aj f T=none) (h1:1≤f) (h2:f≤65535) (hl:T.length<64) (hx:aj d T=some x) (hxk:x.kind=2) (hn:dw n=true) (hnn:aj n x.names=none):
  dX (setName (dF g_ f (bZ kind) T) d n f):=by
 have hP:=h.toyQ.add hk hf (by omega) h2 hl
 have hdf:d≠f:=fun e=>by rw[e,hf]at hx;cases hx
 have hx':aj d (dF g_ f (bZ kind) T)=some x:=by rw[f_,if_neg hdf];exact hx
 have hff:aj f (dF g_ f (bZ kind) T)=some (bZ kind):=by rw[f_,if_pos rfl]
 refine⟨hP.set hx' hxk hn ⟨by rw[hff];rfl,by omega⟩,fun j y hy hj=> ?_⟩
 have h3:=lg hP.sorted (fun x=>{x with names:=dF bytesBefore n f x.names}) hx' j
 have h4:=H9 (id:=f) hnn j
 have h5:=MW (kind:=kind) hf j
 have hgt:∀z,aj j (dF g_ f (bZ kind) T)=some z→z.links=y.links→(gy (setName (dF g_ f (bZ kind) T) d n f) j:Int)=y.links:=by
  intro z hz hzl
  unfold setName
  rcases rX h.sorted hz with⟨rfl,rfl⟩|⟨hjf,hz⟩
  ·have:=KJ h.toyQ hf
   rw[if_pos rfl]at h4
   have e:gy (Go.Proofs.YtmabllemjkcobaaGreat.bH d (fun x=>{x with names:=dF bytesBefore n j x.names}) (dF g_ j (bZ kind) T)) j=1:=by omega
   rw[e,←hzl]
   rfl
  ·rw[if_neg (Ne.symm hjf)]at h4
   have:=h.counts j z hz hj
   have e:gy (Go.Proofs.YtmabllemjkcobaaGreat.bH d (fun x=>{x with names:=dF bytesBefore n f x.names}) (dF g_ f (bZ kind) T)) j=gy T j:=by omega
   rw[e,this,hzl]
 unfold setName at hy
 rw[bq]at hy
 by_cases hjd:j=d
 ·subst hjd
  rw[if_pos rfl,hx']at hy
  simp only[Option.map_some,Option.some.injEq]at hy
  exact hgt x hx' (by rw[←hy])
 ·rw[if_neg hjd]at hy
  exact hgt y hy rfl
end Go.Proofs.YtmabllemjkcobaaGreat
