/- How deep a tree is; Rename, as plain data. What holds of a tree, and how deep it is, whatever is done. -/
import Derived.Test.YtohpcppeajijnaaGreatM17
namespace Go.Proofs.YtohpcppeajijnaaGreat
open Go.ChangeShapes Go.WideShapes Go.ChangeAt Go.RowKit
set_option linter.unusedVariables false
set_option linter.unusedSimpArgs false
structure fq (T:aH) (dep:Int→Nat):Prop where
 zero:dep 0=0
 up:∀d x,aj d T=some x→∀e∈x.names,dep d<8∧(bZ T e.2=2→dep e.2=dep d+1)
theorem dQ {T:aH} {id:Int} {x:bF} (hx:aj id T=some x):bB T id=x.names:=by unfold bB;rw[hx]
theorem uX {T:aH} {id:Int} {e:Nm×Int} (h:e∈bB T id):∃x,aj id T=some x∧e∈x.names:=by
 unfold bB at h
 cases hx:aj id T with
 |none=>rw[hx]at h;cases h
 |some x=>rw[hx]at h;exact⟨x,rfl,h⟩
theorem w_ {T:aH} (hT:dA T) {id:Int} {x:bF} (hx:aj id T=some x) {e:Nm×Int} (he:e∈x.names):x.kind=2:=by
 rcases (hT.each id x hx).kind with h|h
 ·rw[(hT.each id x hx).file h]at he;cases he
 ·exact h
theorem Gi {T:aH} {id:Int} (h:bB T id=[]):∀n,uW T n id
 |0=>h
 |n+1=>fun e he=>by rw[h]at he;cases he
theorem fq.AQ {T:aH} {dep:Int→Nat} (h:fq T dep) (hT:dA T):∀(n:Nat) (d:Int),8≤n+dep d→uW T n d
 |0,d,hd=>by
  show bB T d=[]
  cases hn:bB T d with
  |nil=>rfl
  |cons e r=>
   obtain⟨x,hx,he⟩:=uX (T:=T) (id:=d) (e:=e) (by rw[hn];simp)
   have:=(h.up d x hx e he).1
   omega
 |n+1,d,hd=>fun e he=>by
  obtain⟨x,hx,he⟩:=uX he
  by_cases hk:bZ T e.2=2
  ·have:=(h.up d x hx e he).2 hk
   exact h.AQ hT n e.2 (by omega)
  ·refine Gi ?_ n
   obtain⟨y,hy⟩:=Option.isSome_iff_exists.1 (hT.leads d x hx e he).1
   rw[b_ hy]at hk
   rw[dQ hy]
   exact(hT.each _ y hy).file ((hT.each _ y hy).kind.resolve_right hk)
theorem fq.Ov {T:aH} {dep:Int→Nat} (h:fq T dep) (hT:dA T) (d:Int):uW T 8 d:=h.AQ hT 8 d (by omega)
theorem oW {T:aH} {a d:Int} {n:Nm} {r:List Nm} (h:aF T a (n::r)=(d,0)):∃x k,aj a T=some x∧x.kind=2∧aj n x.names=some k∧aF T k r=(d,0):=by
 simp only[aF]at h
 cases hx:aj a T with
 |none=>rw[hx]at h;cases h
 |some x=>
  rw[hx]at h
  simp only at h
  by_cases hk:x.kind=2
  ·rw[if_pos hk]at h
   cases hn:aj n x.names with
   |none=>rw[hn]at h;cases h
   |some k=>rw[hn]at h;exact⟨x,k,rfl,hk,hn,h⟩
  ·rw[if_neg hk]at h;cases h
theorem oF {T:aH} {dep:Int→Nat} (h:fq T dep):∀(p:List Nm) (a d:Int),aF T a p=(d,0)→bZ T d=2→dep d=dep a+p.length
 |[],a,d,hl,_=>by
  have:a=d:=congrArg Prod.fst hl
  subst this;rfl
 |n::r,a,d,hl,hd=>by
  obtain⟨x,k,hx,hk,hn,hl⟩:=oW hl
  have hkk:bZ T k=2:=by
   cases r with
   |nil=>
    have:k=d:=congrArg Prod.fst hl
    rw[this];exact hd
   |cons m s=>
    obtain⟨y,j,hy,hyk,_⟩:=oW hl
    rw[b_ hy];exact hyk
  have h1:=(h.up a x hx _ (cu hn)).2 hkk
  have h2:=oF h r k d hl hd
  simp only at h1
  rw[List.length_cons]
  omega
theorem qK {T:aH} (hT:dA T) {a b k:Int} {x y:bF} {n m:Nm} (hx:aj a T=some x) (hn:aj n x.names=some k) (hy:aj b T=some y) (hm:aj m y.names=some k) (hk:bZ T k=2):a=b∧n=m:=by
 obtain⟨z,hz,Ow⟩:=jf hk
 have h0:=(hT.leads a x hx _ (cu hn)).2
 have hc:=hT.counts k z hz h0
 rw[((hT.each k z hz).dir Ow).1]at hc
 have h1:=mF hT.totF hx hn k
 rw[if_pos rfl]at h1
 have h2:fZ (aA T a n) k=0:=by omega
 by_cases hab:b=a
 ·subst hab
  rw[hx]at hy;cases hy
  refine⟨rfl,?_⟩
  by_cases hnm:m=n
  ·exact hnm.symm
  ·have hg:aj b (aA T b n)=some {x with names:=bH n x.names}:=by unfold aA;rw[aS,if_pos rfl,hx];rfl
   have hm':aj m (bH n x.names)=some k:=by rw[kg hnm];exact hm
   exact absurd rfl (tT h2 hg _ (cu hm'))
 ·have hg:aj b (aA T a n)=some y:=by unfold aA;rw[aS,if_neg hab];exact hy
  exact absurd rfl (tT h2 hg _ (cu hm))
theorem uY {T:aH} (hT:dA T):∀(l:Nat) (p q:List Nm) (d:Int),p.length≤l→aF T 0 p=(d,0)→aF T 0 q=(d,0)→bZ T d=2→p=q
 |l,p,q,d,hl,hp,hq,hd=>by
  by_cases h1:p=[]
  ·subst h1
   by_cases h2:q=[]
   ·exact h2.symm
   ·obtain⟨d',x,n,-,-,hx,_,hn,_⟩:=bS hq h2
    have h0:(0:Int)=d:=congrArg Prod.fst hp
    have:=(hT.leads d' x hx _ (cu hn)).2
    exact absurd h0.symm this
  ·obtain⟨d1,x,n,-,hl1,hx,hxk,hn,_,e1⟩:=bS hp h1
   by_cases h2:q=[]
   ·subst h2
    have h0:(0:Int)=d:=congrArg Prod.fst hq
    have:=(hT.leads d1 x hx _ (cu hn)).2
    exact absurd h0.symm this
   ·obtain⟨d2,y,m,-,hl2,hy,_,hm,_,e2⟩:=bS hq h2
    obtain⟨hab,hnm⟩:=qK hT hx hn hy hm hd
    subst hab hnm
    have hlen:p.dropLast.length<p.length:=by
     rw[List.length_dropLast]
     have:p.length≠0:=fun e=>h1 (List.eq_nil_of_length_eq_zero e)
     omega
    match l,hl with
    |0,hl=>exact absurd (List.eq_nil_of_length_eq_zero (by omega)) h1
    |l+1,hl=>
     have:=uY hT l p.dropLast q.dropLast d1 (by omega) hl1 hl2 ((b_ hx).trans hxk)
     rw[e1,e2,this]
def AU (T:aH) (id d:Int):Prop:=∃q,aF T id q=(d,0)
theorem Cy {T:aH} (hT:dA T):∀(q:List Nm) (id d:Int) (x:bF) (e:Nm×Int) (n:Nat),aF T id q=(d,0)→aj d T=some x→e∈x.names→q.length<n→q.length+1≤gy T n id
 |[],id,d,x,e,n+1,hl,hx,he,hn=>by
  have:id=d:=congrArg Prod.fst hl
  subst this
  have:1+gy T n e.2≤maxD (gy T n) (bB T id):=qJ _ (by rw[dQ hx];exact he)
  show 0+1≤maxD (gy T n) (bB T id)
  omega
 |m::r,id,d,x,e,n+1,hl,hx,he,hn=>by
  obtain⟨y,k,hy,hyk,hm,hl⟩:=oW hl
  rw[List.length_cons]at hn
  have h1:=Cy hT r k d x e n hl hx he (by omega)
  have:1+gy T n k≤maxD (gy T n) (bB T id):=qJ (gy T n) (e:=(m,k)) (by rw[dQ hy];exact cu hm)
  show(m::r).length+1≤maxD (gy T n) (bB T id)
  rw[List.length_cons]
  omega
 |q,_,_,_,_,0,_,_,_,hn=>by omega
def iA (p q:List Nm):Bool:=decide (p.take q.length=q)
def gK (T:aH) (p tq:List Nm):Int:=
 if ig p tq≠0 then ig p tq else
 if (aF T 0 p).2≠0 then(aF T 0 p).2 else
 if (aF T 0 p).1=0 then 1 else
 if (aC T tq).2.2≠0 then(aC T tq).2.2 else
 if bZ T (aF T 0 p).1=2∧iA tq p=true then 1 else
 match aj (aC T tq).2.1 (bB T (aC T tq).1)with
 |some k=>if k=(aF T 0 p).1 then 0 else 21
 |none=>if 8<tq.length+gy T 8 (aF T 0 p).1 then 3 else 0
def mH (T:aH) (p tq:List Nm):aH:=setName (aA T (aC T p).1 (aC T p).2.1) (aC T tq).1 (aC T tq).2.1 (aF T 0 p).1
def aY (T:aH) (p tq:List Nm):Int×aH:=
 (gK T p tq,if gK T p tq=0∧(aj (aC T tq).2.1 (bB T (aC T tq).1)).isSome=false then mH T p tq else T)
theorem dA.move {T:aH} (h:dA T) {d1 d2 id:Int} {x1 x2:bF} {n1 n2:Nm} (hx1:aj d1 T=some x1) (hk1:x1.kind=2) (hn1:aj n1 x1.names=some id) (hx2:aj d2 T=some x2) (hk2:x2.kind=2) (hg2:dG n2=true) (hn2:aj n2 x2.names=none):
  dA (setName (aA T d1 n1) d2 n2 id):=by
 have hid:=h.leads d1 x1 hx1 _ (cu hn1)
 have hP:=h.totF.cut (n:=n1) hx1 hk1
 obtain⟨x3,hx3,hk3,Ox⟩:∃x3,aj d2 (aA T d1 n1)=some x3∧x3.kind=2∧aj n2 x3.names=none:=by
  unfold aA
  rw[aS]
  by_cases hd:d2=d1
  ·subst hd
   rw[hx1]at hx2;cases hx2
   rw[if_pos rfl,hx1]
   refine⟨_,rfl,hk1,?_⟩
   show aj n2 (bH n1 x1.names)=none
   rw[eD]
   split
   ·rfl
   ·exact hn2
  ·rw[if_neg hd];exact⟨x2,hx2,hk2,hn2⟩
 have RD:(aj id (aA T d1 n1)).isSome=true:=by
  unfold aA;rw[aS]
  split<;>simp[hid.1]
 refine⟨hP.set hx3 hk3 hg2 ⟨RD,hid.2⟩,fun j z hz hj=> ?_⟩
 have h1:=mF h.totF hx1 hn1 j
 have h2:=jL hP.sorted (fun x=>{x with names:=bY bytesBefore n2 id x.names}) hx3 j
 have h3:=Ak (id:=id) Ox j
 have e:fZ (setName (aA T d1 n1) d2 n2 id) j=fZ T j:=by
  unfold setName
  omega
 rw[e]
 unfold setName at hz
 rw[aS]at hz
 obtain⟨z1,hz1,hl1⟩:∃z1,aj j (aA T d1 n1)=some z1∧z.links=z1.links:=by
  by_cases hjd:j=d2
  ·rw[if_pos hjd]at hz
   cases hq:aj j (aA T d1 n1)with
   |none=>rw[hq]at hz;cases hz
   |some z1=>
    rw[hq]at hz
    simp only[Option.map_some,Option.some.injEq]at hz
    exact⟨z1,rfl,by rw[←hz]⟩
  ·rw[if_neg hjd]at hz;exact⟨z,hz,rfl⟩
 obtain⟨z2,hz2,hl2,_⟩:=xP hz1
 rw[hl1,hl2]
 exact h.counts j z2 hz2 hj
theorem zi {T:aH} (hT:dA T) {id a k:Int} {x:bF} {n:Nm} (hx:aj a T=some x) (hn:aj n x.names=some k) (hk:bZ T k=2) (hki:k≠id):AU T id k↔AU T id a:=by
 constructor
 ·rintro ⟨q,hq⟩
  rcases List.eq_nil_or_concat q with rfl|⟨r,m,rfl⟩
  ·exact absurd (congrArg Prod.fst hq).symm hki
  ·rw[List.concat_eq_append,iR]at hq
   by_cases he:(aF T id r).2=0
   ·rw[if_pos he]at hq
    obtain⟨y,j,hy,hyk,hm,hl⟩:=oW hq
    have:j=k:=congrArg Prod.fst hl
    subst this
    obtain⟨hab,_⟩:=qK hT hx hn hy hm hk
    exact⟨r,Prod.ext hab.symm he⟩
   ·rw[if_neg he]at hq
    rw[hq]at he
    exact absurd rfl he
 ·rintro ⟨q,hq⟩
  refine⟨q++[n],?_⟩
  rw[iR,hq]
  simp only[if_pos]
  have:=w_ hT hx (cu hn)
  simp only[aF,hx,if_pos this,hn]
theorem uZ {T:aH} {d1 d2 id:Int} {n1 n2:Nm} {a:Int} {x:bF} (h:aj a (setName (aA T d1 n1) d2 n2 id)=some x):∃y,aj a T=some y∧x.kind=y.kind∧∀e∈x.names,(e∈y.names∧¬(a=d1∧e.1=n1))∨(a=d2∧e=(n2,id)):=by
 obtain⟨z,hz,hk,hc⟩:∃z,aj a (aA T d1 n1)=some z∧x.kind=z.kind∧∀e∈x.names,e∈z.names∨(a=d2∧e=(n2,id)):=by
  unfold setName at h
  rw[aS]at h
  by_cases hd:a=d2
  ·rw[if_pos hd]at h
   cases hz:aj a (aA T d1 n1)with
   |none=>rw[hz]at h;cases h
   |some z=>
    rw[hz]at h
    simp only[Option.map_some,Option.some.injEq]at h
    refine⟨z,rfl,by rw[←h],fun e he=> ?_⟩
    rw[←h]at he
    rcases (jV bytesBefore).1 he with h2|h2
    ·exact .inr ⟨hd,h2⟩
    ·exact .inl (List.mem_filter.1 h2).1
  ·rw[if_neg hd]at h;exact⟨x,h,rfl,fun e he=> .inl he⟩
 unfold aA at hz
 rw[aS]at hz
 by_cases hd:a=d1
 ·rw[if_pos hd]at hz
  cases hy:aj a T with
  |none=>rw[hy]at hz;cases hz
  |some y=>
   rw[hy]at hz
   simp only[Option.map_some,Option.some.injEq]at hz
   refine⟨y,rfl,by rw[hk,←hz],fun e he=> ?_⟩
   rcases hc e he with h1|h1
   ·rw[←hz]at h1
    have h2:=List.mem_filter.1 h1
    refine .inl ⟨h2.1,fun h3=> ?_⟩
    have:=h2.2
    simp[h3.2]at this
   ·exact .inr h1
 ·rw[if_neg hd]at hz
  refine⟨z,hz,hk,fun e he=> ?_⟩
  rcases hc e he with h1|h1
  ·exact .inl ⟨h1,fun h=>hd h.1⟩
  ·exact .inr h1
theorem rY {T:aH} {d:Int} {f:bF→bF} (hf:∀x,(f x).kind=x.kind) (k:Int):bZ (bf d f T) k=bZ T k:=by
 unfold bZ
 rw[aS]
 by_cases h:k=d
 ·rw[if_pos h]
  cases aj k T with
  |none=>rfl
  |some y=>exact hf y
 ·rw[if_neg h]
theorem xg {T:aH} {d1 d2 id:Int} {n1 n2:Nm} (k:Int):bZ (setName (aA T d1 n1) d2 n2 id) k=bZ T k:=by
 unfold setName aA
 exact(rY (fun _=>by exact rfl) k).trans (rY (fun _=>by exact rfl) k)
open Classical in
theorem fq.move {T:aH} {dep:Int→Nat} (h:fq T dep) (hT:dA T) {p tq:List Nm} {id dt:Int} {nt:Nm} (hp:aF T 0 p=(id,0)) (h0:id≠0) (hto:aC T tq=(dt,nt,0)) (hf:tq.length≤8) (hw:bZ T id=2→iA tq p=false∧tq.length+gy T 8 id≤8):
  ∃L_,fq (setName (aA T (aC T p).1 (aC T p).2.1) dt nt id) L_:=by
 have hpn:p≠[]:=fun e=>by subst e;exact h0 (congrArg Prod.fst hp).symm
 obtain⟨d1,x1,n1,e1,hl1,hx1,hk1,hn1,_,ep⟩:=bS hp hpn
 rw[e1]
 obtain⟨hln,hlt,hkt⟩:tq≠[]∧aF T 0 tq.dropLast=(dt,0)∧bZ T dt=2:=by
  unfold aC at hto
  by_cases ht0:tq=[]
  ·rw[if_pos ht0]at hto;cases hto
  ·rw[if_neg ht0]at hto
   by_cases ht1:(aF T 0 tq.dropLast).2≠0
   ·rw[if_pos ht1]at hto
    exact absurd (congrArg (·.2.2) hto) ht1
   ·rw[if_neg ht1]at hto
    by_cases ht2:bZ T (aF T 0 tq.dropLast).1=2
    ·rw[if_pos ht2]at hto
     have h3:(aF T 0 tq.dropLast).1=dt:=congrArg Prod.fst hto
     exact⟨ht0,Prod.ext h3 (by simpa using ht1),h3▸ht2⟩
    ·rw[if_neg ht2]at hto;cases hto
 have hdt:=oF h _ 0 dt hlt hkt
 rw[h.zero,List.length_dropLast]at hdt
 have htl:tq.length≠0:=fun e=>hln (List.eq_nil_of_length_eq_zero e)
 by_cases hk:bZ T id=2
 ·obtain⟨hw1,hw2⟩:=hw hk
  have RF:=oF h p 0 id hp hk
  rw[h.zero]at RF
  have hnt:¬AU T id dt:=by
   rintro ⟨q,hq⟩
   have h3:aF T 0 (p++q)=(dt,0):=by rw[iR,hp];simp only[if_pos];exact hq
   have h4:=uY hT _ _ _ dt (Nat.le_refl _) hlt h3 hkt
   have h5:tq.take p.length=p:=by
    have h6:tq.dropLast.take p.length=p:=by rw[h4,List.take_left]
    have h7:p.length≤tq.length-1:=by
     have:=congrArg List.length h4
     rw[List.length_dropLast,List.length_append]at this
     omega
    rw[List.dropLast_eq_take,List.take_take,Nat.min_eq_left h7]at h6
    exact h6
   unfold iA at hw1
   rw[h5]at hw1
   simp at hw1
  refine⟨fun d=>if AU T id d then dep d+tq.length-p.length else dep d,?_,fun d x hx e he=> ?_⟩
  ·have:¬AU T id 0:=by
    rintro ⟨q,hq⟩
    have h3:aF T 0 (p++q)=(0,0):=by rw[iR,hp];simp only[if_pos];exact hq
    have h4:=uY hT 0 [] _ 0 (Nat.le_refl _) rfl h3 hT.root
    have:=congrArg List.length h4
    rw[List.length_append]at this
    exact hpn (List.eq_nil_of_length_eq_zero (by simp at this;omega))
   simp only[if_neg this,h.zero]
  ·obtain⟨y,hy,hxy,hnm⟩:=uZ hx
   rw[xg]
   rcases hnm e he with⟨NU,hne⟩|⟨hd,hee⟩
   ·have hup:=h.up d y hy e NU
    have hyk:=w_ hT hy NU
    have hn:=bX uD (hT.each d y hy).sorted NU
    by_cases hD:AU T id d
    ·obtain⟨q,hq⟩:=hD
     have h3:=oF h q id d hq ((b_ hy).trans hyk)
     have hq8:q.length<8:=by have:=hup.1;omega
     have h4:=Cy hT q id d y e 8 hq hy NU hq8
     simp only[if_pos (show AU T id d from⟨q,hq⟩)]
     refine⟨by omega,fun hek=> ?_⟩
     have Oy:e.2≠id:=fun h5=>by
      obtain⟨h6,h7⟩:=qK hT hx1 hn1 hy (by rw[←h5];exact hn) hk
      exact hne ⟨h6.symm,h7.symm⟩
     have:=hup.2 hek
     rw[if_pos ((zi hT hy hn hek Oy).2 ⟨q,hq⟩)]
     omega
    ·simp only[if_neg hD]
     refine⟨hup.1,fun hek=> ?_⟩
     have Oy:e.2≠id:=fun h5=>by
      obtain⟨h6,h7⟩:=qK hT hx1 hn1 hy (by rw[←h5];exact hn) hk
      exact hne ⟨h6.symm,h7.symm⟩
     rw[if_neg (fun h6=>hD ((zi hT hy hn hek Oy).1 h6))]
     exact hup.2 hek
   ·subst hd hee
    simp only[if_neg hnt]
    refine⟨by omega,fun _=> ?_⟩
    rw[if_pos ⟨[],rfl⟩]
    omega
 ·refine⟨dep,h.zero,fun d x hx e he=> ?_⟩
  obtain⟨y,hy,hxy,hnm⟩:=uZ hx
  rw[xg]
  rcases hnm e he with⟨NU,_⟩|⟨hd,hee⟩
  ·exact h.up d y hy e NU
  ·subst hd hee
   exact⟨by omega,fun h3=>absurd h3 hk⟩
theorem AV {T:aH} {tq:List Nm} {dt:Int} {nt:Nm} (hto:aC T tq=(dt,nt,0)):tq≠[]∧aF T 0 tq.dropLast=(dt,0)∧bZ T dt=2:=by
 unfold aC at hto
 by_cases ht0:tq=[]
 ·rw[if_pos ht0]at hto;cases hto
 ·rw[if_neg ht0]at hto
  by_cases ht1:(aF T 0 tq.dropLast).2≠0
  ·rw[if_pos ht1]at hto
   exact absurd (congrArg (·.2.2) hto) ht1
  ·rw[if_neg ht1]at hto
   by_cases ht2:bZ T (aF T 0 tq.dropLast).1=2
   ·rw[if_pos ht2]at hto
    have h3:(aF T 0 tq.dropLast).1=dt:=congrArg Prod.fst hto
    exact⟨ht0,Prod.ext h3 (by simpa using ht1),h3▸ht2⟩
   ·rw[if_neg ht2]at hto;cases hto
theorem fq.place {T:aH} {dep:Int→Nat} (h:fq T dep) {tq:List Nm} {dt:Int} {nt:Nm} (hto:aC T tq=(dt,nt,0)) (hf:tq.length≤8):dep dt<8:=by
 obtain⟨h1,h2,h3⟩:=AV hto
 have:=oF h _ 0 dt h2 h3
 rw[h.zero,List.length_dropLast]at this
 have:tq.length≠0:=fun e=>h1 (List.eq_nil_of_length_eq_zero e)
 omega
def Sub (T' T:aH):Prop:=∀d x,aj d T'=some x→∃y,aj d T=some y∧x.kind=y.kind∧∀e∈x.names,e∈y.names
theorem Sub.refl (T:aH):Sub T T:=fun d x h=>⟨x,h,rfl,fun _ he=>he⟩
theorem Sub.trans {A B C:aH} (h:Sub A B) (k:Sub B C):Sub A C:=fun d x hx=>by
 obtain⟨y,hy,h1,h2⟩:=h d x hx
 obtain⟨z,hz,h3,h4⟩:=k d y hy
 exact⟨z,hz,h1.trans h3,fun e he=>h4 e (h2 e he)⟩
theorem Sub.bf {T:aH} {k:Int} {f:bF→bF} (h1:∀x,(f x).kind=x.kind) (h2:∀x,∀e∈(f x).names,e∈x.names):Sub (Go.Proofs.YtohpcppeajijnaaGreat.bf k f T) T:=fun d x hx=>by
 rw[aS]at hx
 by_cases hd:d=k
 ·rw[if_pos hd]at hx
  cases hy:aj d T with
  |none=>rw[hy]at hx;cases hx
  |some y=>
   rw[hy]at hx
   simp only[Option.map_some,Option.some.injEq]at hx
   exact⟨y,rfl,by rw[←hx];exact h1 y,fun e he=>h2 y e (by rw[hx];exact he)⟩
 ·rw[if_neg hd]at hx;exact⟨x,hx,rfl,fun _ he=>he⟩
theorem Sub.del {T:aH} (k:Int):Sub (bH k T) T:=fun d x hx=>by
 rw[eD]at hx
 split at hx
 ·cases hx
 ·exact⟨x,hx,rfl,fun _ he=>he⟩
theorem Sub.settle {T:aH} (k:Int):Sub (fG T k) T:=by
 unfold fG
 cases aj k T with
 |none=>exact Sub.refl T
 |some x=>
  simp only
  split
  ·exact Sub.del k
  ·exact Sub.refl T
theorem Sub.cut {T:aH} (d:Int) (n:Nm):Sub (aA T d n) T:=Sub.bf (fun _=>by exact rfl) fun x e he=>(List.mem_filter.1 he).1
theorem fq.sub {T T':aH} {dep:Int→Nat} (h:fq T dep) (hs:Sub T' T):fq T' dep:=by
 refine⟨h.zero,fun d x hx e he=> ?_⟩
 obtain⟨y,hy,_,hn⟩:=hs d x hx
 have h1:=h.up d y hy e (hn e he)
 refine⟨h1.1,fun hk=>h1.2 ?_⟩
 obtain⟨z,hz,Ow⟩:=jf hk
 obtain⟨u,hu,Yr,_⟩:=hs _ z hz
 rw[b_ hu,←Yr];exact Ow
theorem u_ {T:aH} {d id a:Int} {n:Nm} {x:bF} (h:aj a (setName T d n id)=some x):∃y,aj a T=some y∧x.kind=y.kind∧∀e∈x.names,e∈y.names∨(a=d∧e=(n,id)):=by
 unfold setName at h
 rw[aS]at h
 by_cases hd:a=d
 ·rw[if_pos hd]at h
  cases hz:aj a T with
  |none=>rw[hz]at h;cases h
  |some z=>
   rw[hz]at h
   simp only[Option.map_some,Option.some.injEq]at h
   refine⟨z,rfl,by rw[←h],fun e he=> ?_⟩
   rw[←h]at he
   rcases (jV bytesBefore).1 he with h2|h2
   ·exact .inr ⟨hd,h2⟩
   ·exact .inl (List.mem_filter.1 h2).1
 ·rw[if_neg hd]at h;exact⟨x,h,rfl,fun e he=> .inl he⟩
theorem zk {T:aH} {d id:Int} {n:Nm} (k:Int):bZ (setName T d n id) k=bZ T k:=by
 unfold setName
 exact rY (fun _=>by exact rfl) k
theorem fq.link {T:aH} {dep:Int→Nat} (h:fq T dep) {d id:Int} {n:Nm} (hd:dep d<8) (hk:bZ T id≠2):fq (setName T d n id) dep:=by
 refine⟨h.zero,fun a x hx e he=> ?_⟩
 rw[zk]
 obtain⟨y,hy,_,hn⟩:=u_ hx
 rcases hn e he with h1|⟨h1,h2⟩
 ·exact h.up a y hy e h1
 ·subst h1 h2
  exact⟨hd,fun h3=>absurd h3 hk⟩
theorem fq.make {T:aH} {dep:Int→Nat} (h:fq T dep) (hT:dA T) {d f kind:Int} {n:Nm} (hd:dep d<8) (hf:aj f T=none) (hf0:f≠0) (hdt:(aj d T).isSome=true):∃L_,fq (setName (bY iC f (bq kind) T) d n f) L_:=by
 refine⟨fun k=>if k=f then dep d+1 else dep k,by simp only[if_neg (Ne.symm hf0),h.zero],fun a x hx e he=> ?_⟩
 have hdf:d≠f:=fun e=>by rw[e,hf]at hdt;cases hdt
 obtain⟨y,hy,_,hn⟩:=u_ hx
 rw[zk]
 rcases oh hT.sorted hy with⟨h1,h2⟩|⟨h1,h2⟩
 ·rcases hn e he with h3|⟨h3,h4⟩
  ·rw[h2]at h3;cases h3
  ·exact absurd (h3.symm.trans h1) hdf
 ·rcases hn e he with h3|⟨h3,h4⟩
  ·have hup:=h.up a y h2 e h3
   have hl:=(hT.leads a y h2 e h3).1
   have hef:e.2≠f:=fun e5=>by rw[e5,hf]at hl;cases hl
   simp only[if_neg h1,if_neg hef]
   have:bZ (bY iC f (bq kind) T) e.2=bZ T e.2:=by unfold bZ;rw[eX,if_neg hef]
   rw[this]
   exact hup
  ·subst h3 h4
   simp only[if_neg h1,if_pos]
   exact⟨hd,fun _=>trivial⟩
def fQ (T:aH):Prop:=dA T∧∃dep,fq T dep
theorem fQ.new:fQ jE:=by
 refine⟨Cr,fun _=>0,rfl,fun d x hx e he=> ?_⟩
 unfold jE at hx
 rw[fF]at hx
 by_cases hk:(0:Int)=d
 ·rw[if_pos hk]at hx
  cases hx
  cases he
 ·rw[if_neg hk]at hx;cases hx
theorem fQ.AQ {T:aH} (h:fQ T) (d:Int):uW T 8 d:=by
 obtain⟨h1,dep,h2⟩:=h
 exact h2.Ov h1 d
theorem fQ.aL {T:aH} (h:fQ T) (ls:List Nm) (kind:Int):fQ (aL T ls kind).2:=by
 obtain⟨h1,dep,h2⟩:=h
 refine⟨h1.aL ls kind,?_⟩
 unfold Go.Proofs.YtohpcppeajijnaaGreat.aL
 by_cases he:iH T ls kind=0
 ·rw[if_pos he]
  obtain⟨a1,a2,a3,a4,a5⟩:=uT h1 he
  obtain⟨x,hx,hk,hm⟩:=fV h1 a3
  obtain⟨f,hf,hf1,hf2,hfn,_⟩:=h1.free
  show ∃dep,fq (og T ls kind) dep
  unfold og
  rw[hf]
  exact h2.make h1 (h2.place (nt:=(aC T ls).2.1) (Prod.ext rfl (Prod.ext rfl a3)) (kT a1)) hfn (by omega) (by rw[hx];rfl)
 ·rw[if_neg he];exact⟨dep,h2⟩
theorem fQ.aO {T:aH} (h:fQ T) (p tq:List Nm):fQ (aO T p tq).2:=by
 obtain⟨h1,dep,h2⟩:=h
 refine⟨h1.aO p tq,?_⟩
 unfold Go.Proofs.YtohpcppeajijnaaGreat.aO
 by_cases he:jl T p tq=0
 ·simp only[if_pos he]
  obtain⟨a1,a2,a3,a4,a5,a6⟩:=uU he
  have h3:=h2.link (n:=(aC T tq).2.1) (h2.place (nt:=(aC T tq).2.1) (Prod.ext rfl (Prod.ext rfl a4)) (kT (lq a1).2)) a3
  unfold uG
  exact⟨dep,h3.sub (Sub.bf (fun _=>by exact rfl) fun x e he=>he)⟩
 ·simp only[if_neg he];exact⟨dep,h2⟩
theorem fQ.bQ {T:aH} (h:fQ T) (p:List Nm):fQ (bQ T p).2:=by
 obtain⟨h1,dep,h2⟩:=h
 refine⟨h1.bQ p,dep,?_⟩
 unfold Go.Proofs.YtohpcppeajijnaaGreat.bQ
 simp only
 split
 ·unfold mo
  exact h2.sub ((Sub.settle _).trans ((Sub.bf (f:=fun x=>{x with links:=x.links-1}) (fun _=>by exact rfl) fun x e he=>he).trans (Sub.cut _ _)))
 ·exact h2
theorem fQ.cO {T:aH} (h:fQ T) (p:List Nm):fQ (cO T p).2:=by
 obtain⟨h1,dep,h2⟩:=h
 refine⟨h1.cO p,dep,?_⟩
 unfold Go.Proofs.YtohpcppeajijnaaGreat.cO
 simp only
 split
 ·unfold qy
  exact h2.sub ((Sub.del _).trans (Sub.cut _ _))
 ·exact h2
theorem fQ.bT {T:aH} (h:fQ T) (id:Int) (b:List UInt8):fQ (bT T id b).2:=by
 obtain⟨h1,dep,h2⟩:=h
 refine⟨h1.bT id b,dep,?_⟩
 unfold Go.Proofs.YtohpcppeajijnaaGreat.bT
 simp only
 split
 ·exact h2.sub (Sub.bf (fun _=>by exact rfl) fun x e he=>he)
 ·exact h2
theorem fQ.eF {T:aH} (h:fQ T) (id aQ:Int) (h0:0≤aQ):fQ (eF T id aQ).2:=by
 obtain⟨h1,dep,h2⟩:=h
 refine⟨h1.eF id aQ h0,dep,?_⟩
 unfold Go.Proofs.YtohpcppeajijnaaGreat.eF
 simp only
 split
 ·exact h2.sub ((Sub.settle _).trans (Sub.bf (fun _=>by exact rfl) fun x e he=>he))
 ·exact h2
theorem fQ.dO {T:aH} (h:fQ T) (id aQ:Int) (h0:0≤aQ):fQ (dO T id aQ).2:=by
 obtain⟨h1,dep,h2⟩:=h
 refine⟨h1.dO id aQ h0,dep,?_⟩
 unfold Go.Proofs.YtohpcppeajijnaaGreat.dO
 simp only
 split
 ·exact h2.sub (Sub.bf (fun _=>by exact rfl) fun x e he=>he)
 ·exact h2
def eu (T:aH) (id:Int):aH:=T.map fun q=>(q.1,{q.2 with names:=q.2.names.filter fun e=> !decide (e.2=id)})
theorem oZ (T:aH) (id:Int):FB T id=bH id (eu T id):=rfl
def fC (id:Int) (x:bF):bF:={x with names:=x.names.filter fun e=> !decide (e.2=id)}
theorem jg (T:aH) (id k:Int):aj k (eu T id)=(aj k T).map (fC id):=Fu (fC id) k T
theorem Gj (id j:Int) (x:bF):cn j (fC id x)=if j=id then 0 else cn j x:=by
 unfold cn fC
 simp only
 rw[List.countP_filter]
 by_cases h:j=id
 ·subst h
  rw[if_pos rfl,List.countP_eq_zero]
  intro e _
  simp
 ·rw[if_neg h]
  apply List.countP_congr
  intro e _
  simp only[Bool.and_eq_true,decide_eq_true_eq,Bool.not_eq_true',decide_eq_false_iff_not]
  exact⟨fun h1=>h1.1,fun h1=>⟨h1,fun h2=>h (h1.symm.trans h2)⟩⟩
theorem vk (T:aH) (id j:Int):fZ (eu T id) j=if j=id then 0 else fZ T j:=by
 induction T with
 |nil=>simp[fZ,eu]
 |cons y r ih=>
  have e1:fZ (eu (y::r) id) j=cn j (fC id y.2)+fZ (eu r id) j:=by
   unfold fZ eu fC;simp
  have e2:fZ (y::r) j=cn j y.2+fZ r j:=by unfold fZ;simp
  rw[e1,e2,ih,Gj]
  split<;>simp
theorem tF.strip {T:aH} (h:tF T) (id:Int):tF (eu T id):=by
 have hget:∀k x,aj k (eu T id)=some x→∃y,aj k T=some y∧x=fC id y:=fun k x hx=>by
  rw[jg]at hx
  cases hy:aj k T with
  |none=>rw[hy]at hx;cases hx
  |some y=>
   rw[hy]at hx
   simp only[Option.map_some,Option.some.injEq]at hx
   exact⟨y,rfl,hx.symm⟩
 refine⟨?_,?_,fun k x hx=> ?_,fun k x hx e he=> ?_,by unfold eu;rw[List.length_map];exact h.len,fun k x hx=> ?_⟩
 ·have:=h.sorted
  unfold aP eu at*
  rw[List.pairwise_map]
  exact this
 ·obtain⟨x,hx,hk⟩:=jf h.root
  unfold bZ
  rw[jg,hx]
  exact hk
 ·obtain⟨y,hy,rfl⟩:=hget k x hx
  have o:=h.each k y hy
  refine⟨o.kind,fun h1=> ?_,o.dir,o.gone,?_,fun e he=>o.good e (List.mem_filter.1 he).1,o.size,o.links,o.aQ⟩
  ·unfold fC
   simp only
   rw[o.file h1];rfl
  ·exact List.Pairwise.filter _ o.sorted
 ·obtain⟨y,hy,rfl⟩:=hget k x hx
  have:=h.leads k y hy e (List.mem_filter.1 he).1
  refine⟨?_,this.2⟩
  rw[jg]
  obtain⟨z,hz⟩:=Option.isSome_iff_exists.1 this.1
  rw[hz];rfl
 ·obtain⟨y,hy,rfl⟩:=hget k x hx
  exact h.ids k y hy
theorem Sub.strip (T:aH) (id:Int):Sub (eu T id) T:=fun d x hx=>by
 rw[jg]at hx
 cases hy:aj d T with
 |none=>rw[hy]at hx;cases hx
 |some y=>
  rw[hy]at hx
  simp only[Option.map_some,Option.some.injEq]at hx
  subst hx
  exact⟨y,rfl,rfl,fun e he=>(List.mem_filter.1 he).1⟩
theorem vo {T:aH} {id:Int} (h:kF T id=0):∃x,aj id T=some x∧x.kind≠2∧x.closed=false:=by
 unfold kF at h
 cases hx:aj id T with
 |none=>rw[hx]at h;cases h
 |some x=>
  rw[hx]at h
  simp only at h
  by_cases hk:x.kind=2
  ·rw[if_pos hk]at h;cases h
  ·rw[if_neg hk]at h
   cases hc:x.closed with
   |true=>rw[hc]at h;cases h
   |false=>exact⟨x,rfl,hk,hc⟩
theorem dA.dH {T:aH} (h:dA T) (id:Int):dA (dH T id).2:=by
 unfold Go.Proofs.YtohpcppeajijnaaGreat.dH
 by_cases he:kF T id=0
 ·simp only[if_pos he]
  obtain⟨x,hx,hk,_⟩:=vo he
  have h0:=h.oV hx hk
  have hnil:=(h.each id x hx).file ((h.each id x hx).kind.resolve_right hk)
  have hS:=h.totF.strip id
  have hx':aj id (eu T id)=some (fC id x):=by rw[jg,hx];rfl
  have hn':(fC id x).names=[]:=by unfold fC;simp only;rw[hnil];rfl
  rw[oZ]
  refine⟨hS.del hx' h0 (by rw[vk,if_pos rfl]),fun j y hy hj=> ?_⟩
  have hji:j≠id:=fun e=>by subst e;rw[kX]at hy;cases hy
  rw[eD,if_neg hji,jg]at hy
  cases hz:aj j T with
  |none=>rw[hz]at hy;cases hy
  |some z=>
   rw[hz]at hy
   simp only[Option.map_some,Option.some.injEq]at hy
   have h1:=rR hS.sorted hx' j
   have h2:cn j (fC id x)=0:=by unfold cn;rw[hn'];rfl
   have h3:=vk T id j
   rw[if_neg hji]at h3
   have h4:=h.counts j z hz hj
   have h5:y.links=z.links:=by rw[←hy];rfl
   omega
 ·simp only[if_neg he];exact h
theorem fQ.dH {T:aH} (h:fQ T) (id:Int):fQ (dH T id).2:=by
 obtain⟨h1,dep,h2⟩:=h
 refine⟨h1.dH id,dep,?_⟩
 unfold Go.Proofs.YtohpcppeajijnaaGreat.dH
 simp only
 split
 ·rw[oZ]
  exact h2.sub ((Sub.del _).trans (Sub.strip _ _))
 ·exact h2
theorem xU {T:aH} {p tq:List Nm} (h:gK T p tq=0):ig p tq=0∧(aF T 0 p).2=0∧(aF T 0 p).1≠0∧(aC T tq).2.2=0∧(bZ T (aF T 0 p).1=2→iA tq p=false)∧(aj (aC T tq).2.1 (bB T (aC T tq).1)=none→tq.length+gy T 8 (aF T 0 p).1≤8):=by
 unfold gK at h
 by_cases h1:ig p tq≠0
 ·rw[if_pos h1]at h;exact absurd h h1
 ·rw[if_neg h1]at h
  by_cases h2:(aF T 0 p).2≠0
  ·rw[if_pos h2]at h;exact absurd h h2
  ·rw[if_neg h2]at h
   by_cases h3:(aF T 0 p).1=0
   ·rw[if_pos h3]at h;cases h
   ·rw[if_neg h3]at h
    by_cases h4:(aC T tq).2.2≠0
    ·rw[if_pos h4]at h;exact absurd h h4
    ·rw[if_neg h4]at h
     by_cases h5:bZ T (aF T 0 p).1=2∧iA tq p=true
     ·rw[if_pos h5]at h;cases h
     ·rw[if_neg h5]at h
      refine⟨by omega,by omega,h3,by omega,fun h6=> ?_,fun h6=> ?_⟩
      ·cases hw:iA tq p with
       |false=>rfl
       |true=>exact absurd ⟨h6,hw⟩ h5
      ·rw[h6]at h
       simp only at h
       split at h
       ·cases h
       ·omega
theorem fQ.aY {T:aH} (h:fQ T) (p tq:List Nm):fQ (aY T p tq).2:=by
 unfold Go.Proofs.YtohpcppeajijnaaGreat.aY
 simp only
 by_cases hc:gK T p tq=0∧(aj (aC T tq).2.1 (bB T (aC T tq).1)).isSome=false
 ·rw[if_pos hc]
  obtain⟨h1,dep,h2⟩:=h
  obtain⟨a1,a2,a3,a4,a5,a6⟩:=xU hc.1
  have hn:aj (aC T tq).2.1 (bB T (aC T tq).1)=none:=by simpa using hc.2
  have hlk:aF T 0 p=((aF T 0 p).1,0):=Prod.ext rfl a2
  have hpl:aC T tq=((aC T tq).1,(aC T tq).2.1,0):=Prod.ext rfl (Prod.ext rfl a4)
  obtain⟨x2,hx2,hk2,hm2⟩:=fV h1 a4
  have hpn:p≠[]:=fun e=>a3 (by rw[e];rfl)
  obtain⟨d1,x1,n1,e1,hl1,hx1,hk1,hn1,_,ep⟩:=bS hlk hpn
  have hf:=lq a1
  unfold mH
  refine⟨?_,h2.move h1 hlk a3 hpl (kT hf.2) fun hk=>⟨a5 hk,a6 hn⟩⟩
  rw[e1]
  rw[dQ hx2]at hn
  exact h1.move hx1 hk1 hn1 hx2 hk2 (gP hf.2 _ hm2) hn
 ·rw[if_neg hc];exact h
end Go.Proofs.YtohpcppeajijnaaGreat
