/- What holds of each tree holds of it behind each call: counts, and the parts of it. -/
import Derived.Test.YtmabllemjkcobaaGreatDoorM06
namespace Go.Proofs.YtmabllemjkcobaaGreatDoor
open Go.ChangeShapes Go.WideShapes Go.ChangeAt Go.RowKit
set_option linter.unusedVariables false
set_option linter.unusedSimpArgs false
theorem dQ:mJ jw:=VH
theorem kV {T:aK} (hs:aN jw T) {d:Int} {x:eB} (f:eB→eB) (hx:ah d T=some x) (k:Int):fK (bX d f T) k+cn k x=fK T k+cn k (f x):=by
 induction T with
 |nil=>cases hx
 |cons y r ih=>
  have hp:=hs.apart dQ
  obtain⟨h1,h2⟩:=List.pairwise_cons.1 hp
  rw[fB]at hx
  by_cases hy:y.1=d
  ·rw[if_pos hy]at hx
   cases hx
   have hr:bX d f r=r:=by
    unfold bX
    conv=>rhs;rw[←List.map_id r]
    apply List.map_congr_left
    intro q hq
    have:=h1 q hq
    rw[if_neg (fun e=>this (hy.trans e.symm))]
    rfl
   have e:bX d f (y::r)=(y.1,f y.2)::r:=by
    have:bX d f (y::r)=(if y.1=d then(y.1,f y.2)else y)::bX d f r:=rfl
    rw[this,hr,if_pos hy]
   rw[e]
   simp[fK]
   omega
  ·rw[if_neg hy]at hx
   have:=ih (List.pairwise_cons.1 hs).2 hx
   have e:bX d f (y::r)=y::bX d f r:=by
    have:bX d f (y::r)=(if y.1=d then(y.1,f y.2)else y)::bX d f r:=rfl
    rw[this,if_neg hy]
   rw[e]
   simp[fK]at this⊢
   omega
theorem zN (x:Int×eB):∀(T:aK) (k:Int),fK (iL jw x T) k=fK T k+cn k x.2
 |[],k=>by simp[iL,fK]
 |y::r,k=>by
  unfold iL
  split
  ·simp[fK];omega
  ·have:=zN x r k
   simp[fK]at this⊢
   omega
theorem uJ {T:aK} (hs:aN jw T) {d:Int} {x:eB} (hx:ah d T=some x) (k:Int):fK (bI d T) k+cn k x=fK T k:=by
 induction T with
 |nil=>cases hx
 |cons y r ih=>
  have hp:=hs.apart dQ
  obtain⟨h1,h2⟩:=List.pairwise_cons.1 hp
  rw[fB]at hx
  by_cases hy:y.1=d
  ·rw[if_pos hy]at hx
   cases hx
   have hr:bI d r=r:=by
    unfold bI
    rw[List.filter_eq_self]
    intro q hq
    have:=h1 q hq
    simp only[Bool.not_eq_true',decide_eq_false_iff_not]
    exact fun e=>this (hy.trans e.symm)
   have e:bI d (y::r)=r:=by
    have:bI d (y::r)=if (!decide (y.1=d))=true then y::bI d r else bI d r:=by simp[bI,List.filter_cons]
    rw[this,hr];simp[hy]
   rw[e]
   simp[fK]
   omega
  ·rw[if_neg hy]at hx
   have:=ih (List.pairwise_cons.1 hs).2 hx
   have e:bI d (y::r)=y::bI d r:=by
    have:bI d (y::r)=if (!decide (y.1=d))=true then y::bI d r else bI d r:=by simp[bI,List.filter_cons]
    rw[this];simp[hy]
   rw[e]
   simp[fK]at this⊢
   omega
theorem RF {T:aK} {k j:Int} {x:eB} (hx:ah j T=some x):cn k x≤fK T k:=by
 have hm:=dB hx
 have:∀(l:aK),(j,x)∈l→cn k x≤(l.map fun q=>cn k q.2).sum:=by
  intro l
  induction l with
  |nil=>simp
  |cons y r ih=>
   intro h
   simp only[List.map_cons,List.sum_cons]
   rcases List.mem_cons.1 h with rfl|h
   ·exact Nat.le_add_right _ _
   ·have:=ih h;omega
 exact this T hm
theorem wM {T:aK} {k:Int} (h:fK T k=0) {j:Int} {x:eB} (hx:ah j T=some x):∀e∈x.names,e.2≠k:=by
 have h1:cn k x=0:=by have:=RF (k:=k) hx;omega
 unfold cn at h1
 rw[List.countP_eq_zero]at h1
 intro e he
 have:=h1 e he
 simpa using this
theorem zl.bX {T:aK} (h:zl T) {k:Int} {x:eB} {f:eB→eB} (hx:ah k T=some x) (h1:IY (f x)) (hk:(f x).kind=x.kind) (hn:∀e∈(f x).names,(ah e.2 T).isSome=true∧e.2≠0):zl (Go.Proofs.YtmabllemjkcobaaGreatDoor.bX k f T):=by
 have hget:∀j y,ah j (Go.Proofs.YtmabllemjkcobaaGreatDoor.bX k f T)=some y→(j=k∧y=f x)∨(j≠k∧ah j T=some y):=fun j y hy=>by
  rw[aV]at hy
  by_cases hj:j=k
  ·subst hj
   rw[if_pos rfl,hx]at hy
   simp only[Option.map_some,Option.some.injEq]at hy
   exact .inl ⟨rfl,hy.symm⟩
  ·rw[if_neg hj]at hy;exact .inr ⟨hj,hy⟩
 have hsome:∀j,(ah j T).isSome=true→(ah j (Go.Proofs.YtmabllemjkcobaaGreatDoor.bX k f T)).isSome=true:=fun j hj=>by
  rw[aV];split<;>simp[hj]
 refine⟨Cy k f h.sorted,?_,fun j y hy=> ?_,fun j y hy e he=> ?_,by rw[Cx];exact h.len,fun j y hy=> ?_⟩
 ·have hr:=h.root
  unfold bB at hr⊢
  rw[aV]
  by_cases h0:(0:Int)=k
  ·subst h0
   rw[if_pos rfl,hx]
   rw[hx]at hr
   exact hk.trans hr
  ·rw[if_neg h0];exact hr
 ·rcases hget j y hy with⟨rfl,rfl⟩|⟨_,hy⟩
  ·exact h1
  ·exact h.each j y hy
 ·rcases hget j y hy with⟨rfl,rfl⟩|⟨_,hy⟩
  ·exact⟨hsome _ (hn e he).1,(hn e he).2⟩
  ·exact⟨hsome _ (h.leads j y hy e he).1,(h.leads j y hy e he).2⟩
 ·rcases hget j y hy with⟨rfl,rfl⟩|⟨_,hy⟩
  ·exact h.ids j x hx
  ·exact h.ids j y hy
theorem dI.bX {T:aK} (h:dI T) {k:Int} {x:eB} {f:eB→eB} (hx:ah k T=some x) (h1:IY (f x)) (hk:(f x).kind=x.kind) (hn:∀e∈(f x).names,(ah e.2 T).isSome=true∧e.2≠0)
  (hc:∀j y,ah j (Go.Proofs.YtmabllemjkcobaaGreatDoor.bX k f T)=some y→j≠0→(fK (Go.Proofs.YtmabllemjkcobaaGreatDoor.bX k f T) j:Int)=y.links):dI (Go.Proofs.YtmabllemjkcobaaGreatDoor.bX k f T):=⟨h.tozl.bX hx h1 hk hn,hc⟩
theorem dI.uK {T:aK} (h:dI T) {k:Int} {x:eB} {f:eB→eB} (hx:ah k T=some x) (h1:IY (f x)) (hk:(f x).kind=x.kind) (hn:(f x).names=x.names) (hl:(f x).links=x.links):dI (Go.Proofs.YtmabllemjkcobaaGreatDoor.bX k f T):=by
 refine h.bX hx h1 hk (by rw[hn];exact h.leads k x hx) fun j y hy hj=> ?_
 have hcn:cn j (f x)=cn j x:=by unfold cn;rw[hn]
 have:=kV h.sorted f hx j
 rw[hcn]at this
 have e:fK (Go.Proofs.YtmabllemjkcobaaGreatDoor.bX k f T) j=fK T j:=by omega
 rw[e]
 rw[aV]at hy
 by_cases hjk:j=k
 ·subst hjk
  rw[if_pos rfl,hx]at hy
  simp only[Option.map_some,Option.some.injEq]at hy
  rw[←hy,hl]
  exact h.counts j x hx hj
 ·rw[if_neg hjk]at hy
  exact h.counts j y hy hj
theorem Lg:∀(m:Nat) (T:aK),aN jw T→(∀i:Nat,1≤i→i≤m→(ah (i:Int) T).isSome=true)→m≤T.length
 |0,_,_,_=>Nat.zero_le _
 |m+1,T,hs,h=>by
  obtain⟨x,hx⟩:=Option.isSome_iff_exists.1 (h (m+1) (by omega) (by omega))
  have h1:=qD dQ hs hx
  have h2:=Lg m (bI ((m+1:Nat):Int) T) (hs.bI _) (fun i hi him=>by
   rw[eZ,if_neg (by omega)]
   exact h i hi (by omega))
  omega
theorem EL {T:aK} (hs:aN jw T):∃f:Nat,xB T=f∧1≤f∧f≤T.length+1∧ah (f:Int) T=none∧∀i:Nat,1≤i→i<f→(ah (i:Int) T).isSome=true:=by
 unfold xB
 cases hf:(((List.range (T.length+1)).map fun n:Nat=>(n:Int)+1).find? fun n=>(ah n T).isNone)with
 |none=>
  exfalso
  have h1:=List.find?_eq_none.1 hf
  have:=Lg (T.length+1) T hs (fun i hi him=>by
   have:=h1 (i:Int) (List.mem_map.2 ⟨i-1,by simp;omega,by omega⟩)
   cases hq:ah (i:Int) T with
   |none=>rw[hq]at this;simp at this
   |some v=>rfl)
  omega
 |some n=>
  rw[List.find?_eq_some_iff_append]at hf
  obtain⟨hn,xs,ys,hab,hpre⟩:=hf
  have hl:(xs++n::ys).length=T.length+1:=by rw[←hab];simp
  have hidx:∀i (hi:i<xs.length+1),(xs++n::ys)[i]? =some ((i:Int)+1):=fun i hi=>by
   rw[←hab]
   simp only[List.length_append,List.length_cons]at hl
   simp[List.getElem?_range (show i<T.length+1 by omega)]
  have hne:n=(xs.length:Int)+1:=by
   have:=hidx xs.length (by omega)
   simpa using this
  simp only[List.length_append,List.length_cons]at hl
  refine⟨xs.length+1,by simp[hne],by omega,by omega,?_,fun i hi hif=> ?_⟩
  ·have:((xs.length+1:Nat):Int)=n:=by omega
   rw[this]
   simpa using hn
  ·have h2:=hidx (i-1) (by omega)
   rw[List.getElem?_append_left (by omega)]at h2
   have h3:=hpre _ (List.mem_of_getElem? h2)
   have e:((i-1:Nat):Int)+1=i:=by omega
   rw[e]at h3
   cases hq:ah (i:Int) T with
   |none=>rw[hq]at h3;simp at h3
   |some v=>rfl
theorem dI.free {T:aK} (h:dI T):∃f:Nat,xB T=f∧1≤f∧f≤T.length+1∧ah (f:Int) T=none∧∀i:Nat,1≤i→i<f→(ah (i:Int) T).isSome=true:=EL h.sorted
theorem Cz {α:Type} {l:List (Int×α)} {k:Int} (v:α) (h:ah k l=none):(cO jw k v l).length=l.length+1:=by
 unfold cO
 rw[qB,oz h]
theorem Lh {α:Type} (t:α→Int) (m:Nat):∀(ks:List Int) (E:List α),(∀e∈E,t e∈ks)→(∀k∈ks,E.countP (fun e=>decide (t e=k))≤m)→E.length≤m*ks.length
 |[],E,h,_=>by
  cases E with
  |nil=>simp
  |cons e r=>have:=h e (by simp);simp at this
 |k::ks,E,h,hc=>by
  have h1:=Lh t m ks (E.filter fun e=> !decide (t e=k)) (fun e he=>by
   obtain⟨h1,h2⟩:=List.mem_filter.1 he
   rcases List.mem_cons.1 (h e h1)with h3|h3
   ·simp[h3]at h2
   ·exact h3) (fun j hj=>by
    rw[List.countP_filter]
    refine Nat.le_trans (List.countP_mono_left fun e _ he=> ?_) (hc j (by simp[hj]))
    simp at he⊢
    exact he.1)
  have h2:=hc k (by simp)
  have h3:E.length=E.countP (fun e=>decide (t e=k))+(E.filter fun e=> !decide (t e=k)).length:=by
   rw[←List.countP_eq_length_filter]
   exact(List.length_eq_countP_add_countP (fun e=>decide (t e=k))).trans (by
    have:List.countP (fun a=>decide (¬decide (t a=k)=true)) E=List.countP (fun e=> !decide (t e=k)) E:=List.countP_congr (fun e _=>by simp)
    rw[this])
  rw[List.length_cons,Nat.mul_succ]
  omega
theorem dI.few {T:aK} (h:dI T) {k:Int} {x:eB} (hx:ah k T=some x):x.names.length≤4096:=by
 have h1:=Lh (fun e:Nm×Int=>e.2) 64 (T.map (·.1)) x.names (fun e he=>by
  obtain⟨y,hy⟩:=Option.isSome_iff_exists.1 (h.leads k x hx e he).1
  exact List.mem_map.2 ⟨_,dB hy,rfl⟩) (fun j hj=>by
   by_cases h0:j=0
   ·subst h0
    have:x.names.countP (fun e=>decide (e.2=0))=0:=by
     rw[List.countP_eq_zero]
     intro e he
     have:=(h.leads k x hx e he).2
     simpa using this
    omega
   ·obtain⟨q,hq,rfl⟩:=List.mem_map.1 hj
    have hy:=aY dQ h.sorted hq
    have h2:=h.counts _ _ hy h0
    have h3:=(h.each _ _ hy).links
    have h4:=RF (k:=q.1) hx
    unfold cn at h4
    omega)
 have:=h.len
 rw[List.length_map]at h1
 omega
theorem qG {T:aK} (hs:aN jw T) {k j:Int} {x y:eB} (h:ah j (cO jw k x T)=some y):(j=k∧y=x)∨(j≠k∧ah j T=some y):=by
 rw[dW]at h
 by_cases hj:j=k
 ·rw[if_pos hj]at h
  exact .inl ⟨hj,by simpa using h.symm⟩
 ·rw[if_neg hj]at h
  exact .inr ⟨hj,h⟩
theorem zO {kind:Int} (hk:kind=1∨kind=2):IY (dO kind):=by
 refine⟨hk,fun _=>rfl,fun h=>⟨rfl,?_,rfl,rfl⟩,(fun h=>by cases h),by simp[dO,aN],by simp[dO],by simp[dO],by simp[dO],by simp[dO]⟩
 have:kind=2:=h
 simp[dO,this]
theorem zl.add {T:aK} (h:zl T) {f:Int} {kind:Int} (hk:kind=1∨kind=2) (hf:ah f T=none) (h1:0≤f) (h2:f≤65535) (hl:T.length<64):zl (cO jw f (dO kind) T):=by
 refine⟨h.sorted.cO dQ _ _,?_,fun j y hy=> ?_,fun j y hy e he=> ?_,by rw[Cz _ hf];omega,fun j y hy=> ?_⟩
 ·obtain⟨x,hx,hk0⟩:=gG h.root
  unfold bB
  rw[dW,if_neg (fun e=>by rw[e,hf]at hx;cases hx),hx]
  exact hk0
 ·rcases qG h.sorted hy with⟨rfl,rfl⟩|⟨_,hy⟩
  ·exact zO hk
  ·exact h.each j y hy
 ·rcases qG h.sorted hy with⟨rfl,rfl⟩|⟨_,hy⟩
  ·cases he
  ·have:=h.leads j y hy e he
   refine⟨?_,this.2⟩
   rw[dW]
   split
   ·rfl
   ·exact this.1
 ·rcases qG h.sorted hy with⟨rfl,rfl⟩|⟨_,hy⟩
  ·exact⟨h1,h2⟩
  ·exact h.ids j y hy
theorem Li {T:aK} {f kind:Int} (hf:ah f T=none) (k:Int):fK (cO jw f (dO kind) T) k=fK T k:=by
 unfold cO
 rw[oz hf,zN]
 simp[cn,dO]
theorem GZ (n:Nm) (id k:Int):∀l:List (Nm×Int),(iL bytesBefore (n,id) l).countP (fun e=>decide (e.2=k))=l.countP (fun e=>decide (e.2=k))+if id=k then 1 else 0
 |[]=>by simp[iL,List.countP_cons]
 |y::r=>by
  unfold iL
  split
  ·simp[List.countP_cons]
  ·simp only[List.countP_cons,GZ n id k r]
   omega
theorem EM {x:eB} {n:Nm} {id:Int} (h:ah n x.names=none) (k:Int):cn k {x with names:=cO bytesBefore n id x.names}=cn k x+if id=k then 1 else 0:=by
 unfold cn cO
 simp only
 rw[oz h,GZ]
theorem IZ {T:aK} (h:zl T) {f:Int} (hf:ah f T=none):fK T f=0:=by
 have:∀l:aK,(∀q∈l,cn f q.2=0)→fK l f=0:=by
  intro l
  induction l with
  |nil=>intro _;rfl
  |cons y r ih=>
   intro hh
   have h1:=ih (fun q hq=>hh q (by simp[hq]))
   have h2:=hh y (by simp)
   unfold fK at h1⊢
   simp only[List.map_cons,List.sum_cons]
   omega
 refine this T fun q hq=> ?_
 unfold cn
 rw[List.countP_eq_zero]
 intro e he hd
 have h1:=h.leads _ _ (aY dQ h.sorted hq) e he
 simp only[decide_eq_true_eq]at hd
 rw[hd,hf]at h1
 cases h1.1
theorem Po {x:eB} (h:IY x) (hk:x.kind=2) {n:Nm} (hn:dM n=true) (id:Int):IY {x with names:=cO bytesBefore n id x.names}:=by
 refine⟨h.kind,fun h1=> ?_,h.dir,h.gone,h.sorted.cO uD _ _,fun e he=> ?_,h.size,h.links,h.au⟩
 ·have:x.kind=1:=h1
  omega
 ·rcases (ow bytesBefore).1 he with h1|h1
  ·rw[h1];exact hn
  ·exact h.good e (List.mem_filter.1 h1).1
theorem I4 {x:eB} {n:Nm} {id:Int} {P:Nm×Int→Prop} (h:∀e∈x.names,P e) (h1:P (n,id)):∀e∈cO bytesBefore n id x.names,P e:=by
 intro e he
 rcases (ow bytesBefore).1 he with h2|h2
 ·rw[h2];exact h1
 ·exact h e (List.mem_filter.1 h2).1
theorem zl.set {T:aK} (h:zl T) {d:Int} {x:eB} {n:Nm} {id:Int} (hx:ah d T=some x) (hk:x.kind=2) (hn:dM n=true) (hid:(ah id T).isSome=true∧id≠0):zl (setName T d n id):=
 h.bX hx (Po (h.each d x hx) hk hn id) rfl (I4 (h.leads d x hx) hid)
theorem dI.make {T:aK} (h:dI T) {d kind f:Int} {x:eB} {n:Nm} (hk:kind=1∨kind=2) (hf:ah f T=none) (h1:1≤f) (h2:f≤65535) (hl:T.length<64) (hx:ah d T=some x) (hxk:x.kind=2) (hn:dM n=true) (hnn:ah n x.names=none):
  dI (setName (cO jw f (dO kind) T) d n f):=by
 have hP:=h.tozl.add hk hf (by omega) h2 hl
 have hdf:d≠f:=fun e=>by rw[e,hf]at hx;cases hx
 have hx':ah d (cO jw f (dO kind) T)=some x:=by rw[dW,if_neg hdf];exact hx
 have hff:ah f (cO jw f (dO kind) T)=some (dO kind):=by rw[dW,if_pos rfl]
 refine⟨hP.set hx' hxk hn ⟨by rw[hff];rfl,by omega⟩,fun j y hy hj=> ?_⟩
 have h3:=kV hP.sorted (fun x=>{x with names:=cO bytesBefore n f x.names}) hx' j
 have h4:=EM (id:=f) hnn j
 have h5:=Li (kind:=kind) hf j
 have hgt:∀z,ah j (cO jw f (dO kind) T)=some z→z.links=y.links→(fK (setName (cO jw f (dO kind) T) d n f) j:Int)=y.links:=by
  intro z hz hzl
  unfold setName
  rcases qG h.sorted hz with⟨rfl,rfl⟩|⟨hjf,hz⟩
  ·have:=IZ h.tozl hf
   rw[if_pos rfl]at h4
   have e:fK (Go.Proofs.YtmabllemjkcobaaGreatDoor.bX d (fun x=>{x with names:=cO bytesBefore n j x.names}) (cO jw j (dO kind) T)) j=1:=by omega
   rw[e,←hzl]
   rfl
  ·rw[if_neg (Ne.symm hjf)]at h4
   have:=h.counts j z hz hj
   have e:fK (Go.Proofs.YtmabllemjkcobaaGreatDoor.bX d (fun x=>{x with names:=cO bytesBefore n f x.names}) (cO jw f (dO kind) T)) j=fK T j:=by omega
   rw[e,this,hzl]
 unfold setName at hy
 rw[aV]at hy
 by_cases hjd:j=d
 ·subst hjd
  rw[if_pos rfl,hx']at hy
  simp only[Option.map_some,Option.some.injEq]at hy
  exact hgt x hx' (by rw[←hy])
 ·rw[if_neg hjd]at hy
  exact hgt y hy rfl
end Go.Proofs.YtmabllemjkcobaaGreatDoor
