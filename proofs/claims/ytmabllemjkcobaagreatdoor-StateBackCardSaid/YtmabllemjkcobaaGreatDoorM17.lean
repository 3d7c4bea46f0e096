/- How deep a tree is; Rename, as plain data. What holds of a tree, and how deep it is, whatever is done. -/
import Derived.Test.YtmabllemjkcobaaGreatDoorM16
namespace Go.Proofs.YtmabllemjkcobaaGreatDoor
open Go.ChangeShapes Go.WideShapes Go.ChangeAt Go.RowKit
set_option linter.unusedVariables false
set_option linter.unusedSimpArgs false
structure eP (T:aK) (dep:Int→Nat):Prop where
 zero:dep 0=0
 up:∀d x,ah d T=some x→∀e∈x.names,dep d<8∧(bB T e.2=2→dep e.2=dep d+1)
theorem fq {T:aK} {id:Int} {x:eB} (hx:ah id T=some x):aM T id=x.names:=by unfold aM;rw[hx]
theorem mV {T:aK} {id:Int} {e:Nm×Int} (h:e∈aM T id):∃x,ah id T=some x∧e∈x.names:=by
 unfold aM at h
 cases hx:ah id T with
 |none=>rw[hx]at h;cases h
 |some x=>rw[hx]at h;exact⟨x,rfl,h⟩
theorem kX {T:aK} (hT:dI T) {id:Int} {x:eB} (hx:ah id T=some x) {e:Nm×Int} (he:e∈x.names):x.kind=2:=by
 rcases (hT.each id x hx).kind with h|h
 ·rw[(hT.each id x hx).file h]at he;cases he
 ·exact h
theorem LW {T:aK} {id:Int} (h:aM T id=[]):∀n,xP T n id
 |0=>h
 |n+1=>fun e he=>by rw[h]at he;cases he
theorem eP.LX {T:aK} {dep:Int→Nat} (h:eP T dep) (hT:dI T):∀(n:Nat) (d:Int),8≤n+dep d→xP T n d
 |0,d,hd=>by
  show aM T d=[]
  cases hn:aM T d with
  |nil=>rfl
  |cons e r=>
   obtain⟨x,hx,he⟩:=mV (T:=T) (id:=d) (e:=e) (by rw[hn];simp)
   have:=(h.up d x hx e he).1
   omega
 |n+1,d,hd=>fun e he=>by
  obtain⟨x,hx,he⟩:=mV he
  by_cases hk:bB T e.2=2
  ·have:=(h.up d x hx e he).2 hk
   exact h.LX hT n e.2 (by omega)
  ·refine LW ?_ n
   obtain⟨y,hy⟩:=Option.isSome_iff_exists.1 (hT.leads d x hx e he).1
   rw[bR hy]at hk
   rw[fq hy]
   exact(hT.each _ y hy).file ((hT.each _ y hy).kind.resolve_right hk)
theorem eP.RO {T:aK} {dep:Int→Nat} (h:eP T dep) (hT:dI T) (d:Int):xP T 8 d:=h.LX hT 8 d (by omega)
theorem mH {T:aK} {a d:Int} {n:Nm} {r:List Nm} (h:aD T a (n::r)=(d,0)):∃x k,ah a T=some x∧x.kind=2∧ah n x.names=some k∧aD T k r=(d,0):=by
 simp only[aD]at h
 cases hx:ah a T with
 |none=>rw[hx]at h;cases h
 |some x=>
  rw[hx]at h
  simp only at h
  by_cases hk:x.kind=2
  ·rw[if_pos hk]at h
   cases hn:ah n x.names with
   |none=>rw[hn]at h;cases h
   |some k=>rw[hn]at h;exact⟨x,k,rfl,hk,hn,h⟩
  ·rw[if_neg hk]at h;cases h
theorem qN {T:aK} {dep:Int→Nat} (h:eP T dep):∀(p:List Nm) (a d:Int),aD T a p=(d,0)→bB T d=2→dep d=dep a+p.length
 |[],a,d,hl,_=>by
  have:a=d:=congrArg Prod.fst hl
  subst this;rfl
 |n::r,a,d,hl,hd=>by
  obtain⟨x,k,hx,hk,hn,hl⟩:=mH hl
  have hkk:bB T k=2:=by
   cases r with
   |nil=>
    have:k=d:=congrArg Prod.fst hl
    rw[this];exact hd
   |cons m s=>
    obtain⟨y,j,hy,hyk,_⟩:=mH hl
    rw[bR hy];exact hyk
  have h1:=(h.up a x hx _ (dB hn)).2 hkk
  have h2:=qN h r k d hl hd
  simp only at h1
  rw[List.length_cons]
  omega
theorem tH {T:aK} (hT:dI T) {a b k:Int} {x y:eB} {n m:Nm} (hx:ah a T=some x) (hn:ah n x.names=some k) (hy:ah b T=some y) (hm:ah m y.names=some k) (hk:bB T k=2):a=b∧n=m:=by
 obtain⟨z,hz,Zi⟩:=gG hk
 have h0:=(hT.leads a x hx _ (dB hn)).2
 have hc:=hT.counts k z hz h0
 rw[((hT.each k z hz).dir Zi).1]at hc
 have h1:=oI hT.tozl hx hn k
 rw[if_pos rfl]at h1
 have h2:fK (aL T a n) k=0:=by omega
 by_cases hab:b=a
 ·subst hab
  rw[hx]at hy;cases hy
  refine⟨rfl,?_⟩
  by_cases hnm:m=n
  ·exact hnm.symm
  ·have hg:ah b (aL T b n)=some {x with names:=bI n x.names}:=by unfold aL;rw[aV,if_pos rfl,hx];rfl
   have hm':ah m (bI n x.names)=some k:=by rw[lY hnm];exact hm
   exact absurd rfl (wM h2 hg _ (dB hm'))
 ·have hg:ah b (aL T a n)=some y:=by unfold aL;rw[aV,if_neg hab];exact hy
  exact absurd rfl (wM h2 hg _ (dB hm))
theorem tJ {T:aK} (hT:dI T):∀(l:Nat) (p q:List Nm) (d:Int),p.length≤l→aD T 0 p=(d,0)→aD T 0 q=(d,0)→bB T d=2→p=q
 |l,p,q,d,hl,hp,hq,hd=>by
  by_cases h1:p=[]
  ·subst h1
   by_cases h2:q=[]
   ·exact h2.symm
   ·obtain⟨d',x,n,-,-,hx,_,hn,_⟩:=dL hq h2
    have h0:(0:Int)=d:=congrArg Prod.fst hp
    have:=(hT.leads d' x hx _ (dB hn)).2
    exact absurd h0.symm this
  ·obtain⟨d1,x,n,-,hl1,hx,hxk,hn,_,e1⟩:=dL hp h1
   by_cases h2:q=[]
   ·subst h2
    have h0:(0:Int)=d:=congrArg Prod.fst hq
    have:=(hT.leads d1 x hx _ (dB hn)).2
    exact absurd h0.symm this
   ·obtain⟨d2,y,m,-,hl2,hy,_,hm,_,e2⟩:=dL hq h2
    obtain⟨hab,hnm⟩:=tH hT hx hn hy hm hd
    subst hab hnm
    have hlen:p.dropLast.length<p.length:=by
     rw[List.length_dropLast]
     have:p.length≠0:=fun e=>h1 (List.eq_nil_of_length_eq_zero e)
     omega
    match l,hl with
    |0,hl=>exact absurd (List.eq_nil_of_length_eq_zero (by omega)) h1
    |l+1,hl=>
     have:=tJ hT l p.dropLast q.dropLast d1 (by omega) hl1 hl2 ((bR hx).trans hxk)
     rw[e1,e2,this]
def E_ (T:aK) (id d:Int):Prop:=∃q,aD T id q=(d,0)
theorem G_ {T:aK} (hT:dI T):∀(q:List Nm) (id d:Int) (x:eB) (e:Nm×Int) (n:Nat),aD T id q=(d,0)→ah d T=some x→e∈x.names→q.length<n→q.length+1≤j3 T n id
 |[],id,d,x,e,n+1,hl,hx,he,hn=>by
  have:id=d:=congrArg Prod.fst hl
  subst this
  have:1+j3 T n e.2≤maxD (j3 T n) (aM T id):=wR _ (by rw[fq hx];exact he)
  show 0+1≤maxD (j3 T n) (aM T id)
  omega
 |m::r,id,d,x,e,n+1,hl,hx,he,hn=>by
  obtain⟨y,k,hy,hyk,hm,hl⟩:=mH hl
  rw[List.length_cons]at hn
  have h1:=G_ hT r k d x e n hl hx he (by omega)
  have:1+j3 T n k≤maxD (j3 T n) (aM T id):=wR (j3 T n) (e:=(m,k)) (by rw[fq hy];exact dB hm)
  show(m::r).length+1≤maxD (j3 T n) (aM T id)
  rw[List.length_cons]
  omega
 |q,_,_,_,_,0,_,_,_,hn=>by omega
def jo (p q:List Nm):Bool:=decide (p.take q.length=q)
def jR (T:aK) (p tq:List Nm):Int:=
 if jX p tq≠0 then jX p tq else
 if (aD T 0 p).2≠0 then(aD T 0 p).2 else
 if (aD T 0 p).1=0 then 1 else
 if (aF T tq).2.2≠0 then(aF T tq).2.2 else
 if bB T (aD T 0 p).1=2∧jo tq p=true then 1 else
 match ah (aF T tq).2.1 (aM T (aF T tq).1)with
 |some k=>if k=(aD T 0 p).1 then 0 else 21
 |none=>if 8<tq.length+j3 T 8 (aD T 0 p).1 then 3 else 0
def tK (T:aK) (p tq:List Nm):aK:=setName (aL T (aF T p).1 (aF T p).2.1) (aF T tq).1 (aF T tq).2.1 (aD T 0 p).1
def cu (T:aK) (p tq:List Nm):Int×aK:=
 (jR T p tq,if jR T p tq=0∧(ah (aF T tq).2.1 (aM T (aF T tq).1)).isSome=false then tK T p tq else T)
theorem dI.move {T:aK} (h:dI T) {d1 d2 id:Int} {x1 x2:eB} {n1 n2:Nm} (hx1:ah d1 T=some x1) (hk1:x1.kind=2) (hn1:ah n1 x1.names=some id) (hx2:ah d2 T=some x2) (hk2:x2.kind=2) (hg2:dM n2=true) (hn2:ah n2 x2.names=none):
  dI (setName (aL T d1 n1) d2 n2 id):=by
 have hid:=h.leads d1 x1 hx1 _ (dB hn1)
 have hP:=h.tozl.cut (n:=n1) hx1 hk1
 obtain⟨x3,hx3,hk3,hn3⟩:∃x3,ah d2 (aL T d1 n1)=some x3∧x3.kind=2∧ah n2 x3.names=none:=by
  unfold aL
  rw[aV]
  by_cases hd:d2=d1
  ·subst hd
   rw[hx1]at hx2;cases hx2
   rw[if_pos rfl,hx1]
   refine⟨_,rfl,hk1,?_⟩
   show ah n2 (bI n1 x1.names)=none
   rw[eZ]
   split
   ·rfl
   ·exact hn2
  ·rw[if_neg hd];exact⟨x2,hx2,hk2,hn2⟩
 have Zj:(ah id (aL T d1 n1)).isSome=true:=by
  unfold aL;rw[aV]
  split<;>simp[hid.1]
 refine⟨hP.set hx3 hk3 hg2 ⟨Zj,hid.2⟩,fun j z hz hj=> ?_⟩
 have h1:=oI h.tozl hx1 hn1 j
 have h2:=kV hP.sorted (fun x=>{x with names:=cO bytesBefore n2 id x.names}) hx3 j
 have h3:=EM (id:=id) hn3 j
 have e:fK (setName (aL T d1 n1) d2 n2 id) j=fK T j:=by
  unfold setName
  omega
 rw[e]
 unfold setName at hz
 rw[aV]at hz
 obtain⟨z1,hz1,hl1⟩:∃z1,ah j (aL T d1 n1)=some z1∧z.links=z1.links:=by
  by_cases hjd:j=d2
  ·rw[if_pos hjd]at hz
   cases hq:ah j (aL T d1 n1)with
   |none=>rw[hq]at hz;cases hz
   |some z1=>
    rw[hq]at hz
    simp only[Option.map_some,Option.some.injEq]at hz
    exact⟨z1,rfl,by rw[←hz]⟩
  ·rw[if_neg hjd]at hz;exact⟨z,hz,rfl⟩
 obtain⟨z2,hz2,hl2,_⟩:=Ba hz1
 rw[hl1,hl2]
 exact h.counts j z2 hz2 hj
theorem Dg {T:aK} (hT:dI T) {id a k:Int} {x:eB} {n:Nm} (hx:ah a T=some x) (hn:ah n x.names=some k) (hk:bB T k=2) (hki:k≠id):E_ T id k↔E_ T id a:=by
 constructor
 ·rintro ⟨q,hq⟩
  rcases List.eq_nil_or_concat q with rfl|⟨r,m,rfl⟩
  ·exact absurd (congrArg Prod.fst hq).symm hki
  ·rw[List.concat_eq_append,gW]at hq
   by_cases he:(aD T id r).2=0
   ·rw[if_pos he]at hq
    obtain⟨y,j,hy,hyk,hm,hl⟩:=mH hq
    have:j=k:=congrArg Prod.fst hl
    subst this
    obtain⟨hab,_⟩:=tH hT hx hn hy hm hk
    exact⟨r,Prod.ext hab.symm he⟩
   ·rw[if_neg he]at hq
    rw[hq]at he
    exact absurd rfl he
 ·rintro ⟨q,hq⟩
  refine⟨q++[n],?_⟩
  rw[gW,hq]
  simp only[if_pos]
  have:=kX hT hx (dB hn)
  simp only[aD,hx,if_pos this,hn]
theorem xQ {T:aK} {d1 d2 id:Int} {n1 n2:Nm} {a:Int} {x:eB} (h:ah a (setName (aL T d1 n1) d2 n2 id)=some x):∃y,ah a T=some y∧x.kind=y.kind∧∀e∈x.names,(e∈y.names∧¬(a=d1∧e.1=n1))∨(a=d2∧e=(n2,id)):=by
 obtain⟨z,hz,hk,hc⟩:∃z,ah a (aL T d1 n1)=some z∧x.kind=z.kind∧∀e∈x.names,e∈z.names∨(a=d2∧e=(n2,id)):=by
  unfold setName at h
  rw[aV]at h
  by_cases hd:a=d2
  ·rw[if_pos hd]at h
   cases hz:ah a (aL T d1 n1)with
   |none=>rw[hz]at h;cases h
   |some z=>
    rw[hz]at h
    simp only[Option.map_some,Option.some.injEq]at h
    refine⟨z,rfl,by rw[←h],fun e he=> ?_⟩
    rw[←h]at he
    rcases (ow bytesBefore).1 he with h2|h2
    ·exact .inr ⟨hd,h2⟩
    ·exact .inl (List.mem_filter.1 h2).1
  ·rw[if_neg hd]at h;exact⟨x,h,rfl,fun e he=> .inl he⟩
 unfold aL at hz
 rw[aV]at hz
 by_cases hd:a=d1
 ·rw[if_pos hd]at hz
  cases hy:ah a T with
  |none=>rw[hy]at hz;cases hz
  |some y=>
   rw[hy]at hz
   simp only[Option.map_some,Option.some.injEq]at hz
   refine⟨y,rfl,by rw[hk,←hz],fun e he=> ?_⟩
   rcases hc e he with h1|h1
   ·rw[←hz]at h1
    have h2:=List.mem_filter.1 h1
    refine .inl ⟨h2.1,fun h3=> ?_⟩
    have:=h2.2
    simp[h3.2]at this
   ·exact .inr h1
 ·rw[if_neg hd]at hz
  refine⟨z,hz,hk,fun e he=> ?_⟩
  rcases hc e he with h1|h1
  ·exact .inl ⟨h1,fun h=>hd h.1⟩
  ·exact .inr h1
theorem uR {T:aK} {d:Int} {f:eB→eB} (hf:∀x,(f x).kind=x.kind) (k:Int):bB (bX d f T) k=bB T k:=by
 unfold bB
 rw[aV]
 by_cases h:k=d
 ·rw[if_pos h]
  cases ah k T with
  |none=>rfl
  |some y=>exact hf y
 ·rw[if_neg h]
theorem Ab {T:aK} {d1 d2 id:Int} {n1 n2:Nm} (k:Int):bB (setName (aL T d1 n1) d2 n2 id) k=bB T k:=by
 unfold setName aL
 exact(uR (fun _=>by exact rfl) k).trans (uR (fun _=>by exact rfl) k)
open Classical in
theorem eP.move {T:aK} {dep:Int→Nat} (h:eP T dep) (hT:dI T) {p tq:List Nm} {id dt:Int} {nt:Nm} (hp:aD T 0 p=(id,0)) (h0:id≠0) (hto:aF T tq=(dt,nt,0)) (hf:tq.length≤8) (hw:bB T id=2→jo tq p=false∧tq.length+j3 T 8 id≤8):
  ∃Tp,eP (setName (aL T (aF T p).1 (aF T p).2.1) dt nt id) Tp:=by
 have hpn:p≠[]:=fun e=>by subst e;exact h0 (congrArg Prod.fst hp).symm
 obtain⟨d1,x1,n1,e1,hl1,hx1,hk1,hn1,_,ep⟩:=dL hp hpn
 rw[e1]
 obtain⟨hln,hlt,hkt⟩:tq≠[]∧aD T 0 tq.dropLast=(dt,0)∧bB T dt=2:=by
  unfold aF at hto
  by_cases ht0:tq=[]
  ·rw[if_pos ht0]at hto;cases hto
  ·rw[if_neg ht0]at hto
   by_cases ht1:(aD T 0 tq.dropLast).2≠0
   ·rw[if_pos ht1]at hto
    exact absurd (congrArg (·.2.2) hto) ht1
   ·rw[if_neg ht1]at hto
    by_cases ht2:bB T (aD T 0 tq.dropLast).1=2
    ·rw[if_pos ht2]at hto
     have h3:(aD T 0 tq.dropLast).1=dt:=congrArg Prod.fst hto
     exact⟨ht0,Prod.ext h3 (by simpa using ht1),h3▸ht2⟩
    ·rw[if_neg ht2]at hto;cases hto
 have hdt:=qN h _ 0 dt hlt hkt
 rw[h.zero,List.length_dropLast]at hdt
 have htl:tq.length≠0:=fun e=>hln (List.eq_nil_of_length_eq_zero e)
 by_cases hk:bB T id=2
 ·obtain⟨hw1,hw2⟩:=hw hk
  have Zk:=qN h p 0 id hp hk
  rw[h.zero]at Zk
  have hnt:¬E_ T id dt:=by
   rintro ⟨q,hq⟩
   have h3:aD T 0 (p++q)=(dt,0):=by rw[gW,hp];simp only[if_pos];exact hq
   have h4:=tJ hT _ _ _ dt (Nat.le_refl _) hlt h3 hkt
   have h5:tq.take p.length=p:=by
    have h6:tq.dropLast.take p.length=p:=by rw[h4,List.take_left]
    have h7:p.length≤tq.length-1:=by
     have:=congrArg List.length h4
     rw[List.length_dropLast,List.length_append]at this
     omega
    rw[List.dropLast_eq_take,List.take_take,Nat.min_eq_left h7]at h6
    exact h6
   unfold jo at hw1
   rw[h5]at hw1
   simp at hw1
  refine⟨fun d=>if E_ T id d then dep d+tq.length-p.length else dep d,?_,fun d x hx e he=> ?_⟩
  ·have:¬E_ T id 0:=by
    rintro ⟨q,hq⟩
    have h3:aD T 0 (p++q)=(0,0):=by rw[gW,hp];simp only[if_pos];exact hq
    have h4:=tJ hT 0 [] _ 0 (Nat.le_refl _) rfl h3 hT.root
    have:=congrArg List.length h4
    rw[List.length_append]at this
    exact hpn (List.eq_nil_of_length_eq_zero (by simp at this;omega))
   simp only[if_neg this,h.zero]
  ·obtain⟨y,hy,hxy,hnm⟩:=xQ hx
   rw[Ab]
   rcases hnm e he with⟨Ve,hne⟩|⟨hd,hee⟩
   ·have hup:=h.up d y hy e Ve
    have hyk:=kX hT hy Ve
    have hn:=aY uD (hT.each d y hy).sorted Ve
    by_cases hD:E_ T id d
    ·obtain⟨q,hq⟩:=hD
     have h3:=qN h q id d hq ((bR hy).trans hyk)
     have hq8:q.length<8:=by have:=hup.1;omega
     have h4:=G_ hT q id d y e 8 hq hy Ve hq8
     simp only[if_pos (show E_ T id d from⟨q,hq⟩)]
     refine⟨by omega,fun hek=> ?_⟩
     have Vf:e.2≠id:=fun h5=>by
      obtain⟨h6,h7⟩:=tH hT hx1 hn1 hy (by rw[←h5];exact hn) hk
      exact hne ⟨h6.symm,h7.symm⟩
     have:=hup.2 hek
     rw[if_pos ((Dg hT hy hn hek Vf).2 ⟨q,hq⟩)]
     omega
    ·simp only[if_neg hD]
     refine⟨hup.1,fun hek=> ?_⟩
     have Vf:e.2≠id:=fun h5=>by
      obtain⟨h6,h7⟩:=tH hT hx1 hn1 hy (by rw[←h5];exact hn) hk
      exact hne ⟨h6.symm,h7.symm⟩
     rw[if_neg (fun h6=>hD ((Dg hT hy hn hek Vf).1 h6))]
     exact hup.2 hek
   ·subst hd hee
    simp only[if_neg hnt]
    refine⟨by omega,fun _=> ?_⟩
    rw[if_pos ⟨[],rfl⟩]
    omega
 ·refine⟨dep,h.zero,fun d x hx e he=> ?_⟩
  obtain⟨y,hy,hxy,hnm⟩:=xQ hx
  rw[Ab]
  rcases hnm e he with⟨Ve,_⟩|⟨hd,hee⟩
  ·exact h.up d y hy e Ve
  ·subst hd hee
   exact⟨by omega,fun h3=>absurd h3 hk⟩
theorem Fa {T:aK} {tq:List Nm} {dt:Int} {nt:Nm} (hto:aF T tq=(dt,nt,0)):tq≠[]∧aD T 0 tq.dropLast=(dt,0)∧bB T dt=2:=by
 unfold aF at hto
 by_cases ht0:tq=[]
 ·rw[if_pos ht0]at hto;cases hto
 ·rw[if_neg ht0]at hto
  by_cases ht1:(aD T 0 tq.dropLast).2≠0
  ·rw[if_pos ht1]at hto
   exact absurd (congrArg (·.2.2) hto) ht1
  ·rw[if_neg ht1]at hto
   by_cases ht2:bB T (aD T 0 tq.dropLast).1=2
   ·rw[if_pos ht2]at hto
    have h3:(aD T 0 tq.dropLast).1=dt:=congrArg Prod.fst hto
    exact⟨ht0,Prod.ext h3 (by simpa using ht1),h3▸ht2⟩
   ·rw[if_neg ht2]at hto;cases hto
theorem eP.place {T:aK} {dep:Int→Nat} (h:eP T dep) {tq:List Nm} {dt:Int} {nt:Nm} (hto:aF T tq=(dt,nt,0)) (hf:tq.length≤8):dep dt<8:=by
 obtain⟨h1,h2,h3⟩:=Fa hto
 have:=qN h _ 0 dt h2 h3
 rw[h.zero,List.length_dropLast]at this
 have:tq.length≠0:=fun e=>h1 (List.eq_nil_of_length_eq_zero e)
 omega
def Sub (T' T:aK):Prop:=∀d x,ah d T'=some x→∃y,ah d T=some y∧x.kind=y.kind∧∀e∈x.names,e∈y.names
theorem Sub.refl (T:aK):Sub T T:=fun d x h=>⟨x,h,rfl,fun _ he=>he⟩
theorem Sub.trans {A B C:aK} (h:Sub A B) (k:Sub B C):Sub A C:=fun d x hx=>by
 obtain⟨y,hy,h1,h2⟩:=h d x hx
 obtain⟨z,hz,h3,h4⟩:=k d y hy
 exact⟨z,hz,h1.trans h3,fun e he=>h4 e (h2 e he)⟩
theorem Sub.bX {T:aK} {k:Int} {f:eB→eB} (h1:∀x,(f x).kind=x.kind) (h2:∀x,∀e∈(f x).names,e∈x.names):Sub (Go.Proofs.YtmabllemjkcobaaGreatDoor.bX k f T) T:=fun d x hx=>by
 rw[aV]at hx
 by_cases hd:d=k
 ·rw[if_pos hd]at hx
  cases hy:ah d T with
  |none=>rw[hy]at hx;cases hx
  |some y=>
   rw[hy]at hx
   simp only[Option.map_some,Option.some.injEq]at hx
   exact⟨y,rfl,by rw[←hx];exact h1 y,fun e he=>h2 y e (by rw[hx];exact he)⟩
 ·rw[if_neg hd]at hx;exact⟨x,hx,rfl,fun _ he=>he⟩
theorem Sub.del {T:aK} (k:Int):Sub (bI k T) T:=fun d x hx=>by
 rw[eZ]at hx
 split at hx
 ·cases hx
 ·exact⟨x,hx,rfl,fun _ he=>he⟩
theorem Sub.settle {T:aK} (k:Int):Sub (gI T k) T:=by
 unfold gI
 cases ah k T with
 |none=>exact Sub.refl T
 |some x=>
  simp only
  split
  ·exact Sub.del k
  ·exact Sub.refl T
theorem Sub.cut {T:aK} (d:Int) (n:Nm):Sub (aL T d n) T:=Sub.bX (fun _=>by exact rfl) fun x e he=>(List.mem_filter.1 he).1
theorem eP.sub {T T':aK} {dep:Int→Nat} (h:eP T dep) (hs:Sub T' T):eP T' dep:=by
 refine⟨h.zero,fun d x hx e he=> ?_⟩
 obtain⟨y,hy,_,hn⟩:=hs d x hx
 have h1:=h.up d y hy e (hn e he)
 refine⟨h1.1,fun hk=>h1.2 ?_⟩
 obtain⟨z,hz,Zi⟩:=gG hk
 obtain⟨u,hu,huk,_⟩:=hs _ z hz
 rw[bR hu,←huk];exact Zi
theorem xR {T:aK} {d id a:Int} {n:Nm} {x:eB} (h:ah a (setName T d n id)=some x):∃y,ah a T=some y∧x.kind=y.kind∧∀e∈x.names,e∈y.names∨(a=d∧e=(n,id)):=by
 unfold setName at h
 rw[aV]at h
 by_cases hd:a=d
 ·rw[if_pos hd]at h
  cases hz:ah a T with
  |none=>rw[hz]at h;cases h
  |some z=>
   rw[hz]at h
   simp only[Option.map_some,Option.some.injEq]at h
   refine⟨z,rfl,by rw[←h],fun e he=> ?_⟩
   rw[←h]at he
   rcases (ow bytesBefore).1 he with h2|h2
   ·exact .inr ⟨hd,h2⟩
   ·exact .inl (List.mem_filter.1 h2).1
 ·rw[if_neg hd]at h;exact⟨x,h,rfl,fun e he=> .inl he⟩
theorem Dh {T:aK} {d id:Int} {n:Nm} (k:Int):bB (setName T d n id) k=bB T k:=by
 unfold setName
 exact uR (fun _=>by exact rfl) k
theorem eP.link {T:aK} {dep:Int→Nat} (h:eP T dep) {d id:Int} {n:Nm} (hd:dep d<8) (hk:bB T id≠2):eP (setName T d n id) dep:=by
 refine⟨h.zero,fun a x hx e he=> ?_⟩
 rw[Dh]
 obtain⟨y,hy,_,hn⟩:=xR hx
 rcases hn e he with h1|⟨h1,h2⟩
 ·exact h.up a y hy e h1
 ·subst h1 h2
  exact⟨hd,fun h3=>absurd h3 hk⟩
theorem eP.make {T:aK} {dep:Int→Nat} (h:eP T dep) (hT:dI T) {d f kind:Int} {n:Nm} (hd:dep d<8) (hf:ah f T=none) (hf0:f≠0) (hdt:(ah d T).isSome=true):∃Tp,eP (setName (cO jw f (dO kind) T) d n f) Tp:=by
 refine⟨fun k=>if k=f then dep d+1 else dep k,by simp only[if_neg (Ne.symm hf0),h.zero],fun a x hx e he=> ?_⟩
 have hdf:d≠f:=fun e=>by rw[e,hf]at hdt;cases hdt
 obtain⟨y,hy,_,hn⟩:=xR hx
 rw[Dh]
 rcases qG hT.sorted hy with⟨h1,h2⟩|⟨h1,h2⟩
 ·rcases hn e he with h3|⟨h3,h4⟩
  ·rw[h2]at h3;cases h3
  ·exact absurd (h3.symm.trans h1) hdf
 ·rcases hn e he with h3|⟨h3,h4⟩
  ·have hup:=h.up a y h2 e h3
   have hl:=(hT.leads a y h2 e h3).1
   have hef:e.2≠f:=fun e5=>by rw[e5,hf]at hl;cases hl
   simp only[if_neg h1,if_neg hef]
   have:bB (cO jw f (dO kind) T) e.2=bB T e.2:=by unfold bB;rw[dW,if_neg hef]
   rw[this]
   exact hup
  ·subst h3 h4
   simp only[if_neg h1,if_pos]
   exact⟨hd,fun _=>trivial⟩
def fC (T:aK):Prop:=dI T∧∃dep,eP T dep
theorem fC.new:fC uF:=by
 refine⟨PK,fun _=>0,rfl,fun d x hx e he=> ?_⟩
 unfold uF at hx
 rw[fB]at hx
 by_cases hk:(0:Int)=d
 ·rw[if_pos hk]at hx
  cases hx
  cases he
 ·rw[if_neg hk]at hx;cases hx
theorem fC.LX {T:aK} (h:fC T) (d:Int):xP T 8 d:=by
 obtain⟨h1,dep,h2⟩:=h
 exact h2.RO h1 d
theorem fC.cZ {T:aK} (h:fC T) (ls:List Nm) (kind:Int):fC (cZ T ls kind).2:=by
 obtain⟨h1,dep,h2⟩:=h
 refine⟨h1.cZ ls kind,?_⟩
 unfold Go.Proofs.YtmabllemjkcobaaGreatDoor.cZ
 by_cases he:lQ T ls kind=0
 ·rw[if_pos he]
  obtain⟨a1,a2,a3,a4,a5⟩:=xH h1 he
  obtain⟨x,hx,hk,hm⟩:=iY h1 a3
  obtain⟨f,hf,hf1,hf2,hfn,_⟩:=h1.free
  show ∃dep,eP (rX T ls kind) dep
  unfold rX
  rw[hf]
  exact h2.make h1 (h2.place (nt:=(aF T ls).2.1) (Prod.ext rfl (Prod.ext rfl a3)) (oF a1)) hfn (by omega) (by rw[hx];rfl)
 ·rw[if_neg he];exact⟨dep,h2⟩
theorem fC.gy {T:aK} (h:fC T) (p tq:List Nm):fC (gy T p tq).2:=by
 obtain⟨h1,dep,h2⟩:=h
 refine⟨h1.gy p tq,?_⟩
 unfold Go.Proofs.YtmabllemjkcobaaGreatDoor.gy
 by_cases he:l9 T p tq=0
 ·simp only[if_pos he]
  obtain⟨a1,a2,a3,a4,a5,a6⟩:=xI he
  have h3:=h2.link (n:=(aF T tq).2.1) (h2.place (nt:=(aF T tq).2.1) (Prod.ext rfl (Prod.ext rfl a4)) (oF (pG a1).2)) a3
  unfold EK
  exact⟨dep,h3.sub (Sub.bX (fun _=>by exact rfl) fun x e he=>he)⟩
 ·simp only[if_neg he];exact⟨dep,h2⟩
theorem fC.dP {T:aK} (h:fC T) (p:List Nm):fC (dP T p).2:=by
 obtain⟨h1,dep,h2⟩:=h
 refine⟨h1.dP p,dep,?_⟩
 unfold Go.Proofs.YtmabllemjkcobaaGreatDoor.dP
 simp only
 split
 ·unfold sN
  exact h2.sub ((Sub.settle _).trans ((Sub.bX (f:=fun x=>{x with links:=x.links-1}) (fun _=>by exact rfl) fun x e he=>he).trans (Sub.cut _ _)))
 ·exact h2
theorem fC.eT {T:aK} (h:fC T) (p:List Nm):fC (eT T p).2:=by
 obtain⟨h1,dep,h2⟩:=h
 refine⟨h1.eT p,dep,?_⟩
 unfold Go.Proofs.YtmabllemjkcobaaGreatDoor.eT
 simp only
 split
 ·unfold wL
  exact h2.sub ((Sub.del _).trans (Sub.cut _ _))
 ·exact h2
theorem fC.dF {T:aK} (h:fC T) (id:Int) (b:List UInt8):fC (dF T id b).2:=by
 obtain⟨h1,dep,h2⟩:=h
 refine⟨h1.dF id b,dep,?_⟩
 unfold Go.Proofs.YtmabllemjkcobaaGreatDoor.dF
 simp only
 split
 ·exact h2.sub (Sub.bX (fun _=>by exact rfl) fun x e he=>he)
 ·exact h2
theorem fC.fE {T:aK} (h:fC T) (id au:Int) (h0:0≤au):fC (fE T id au).2:=by
 obtain⟨h1,dep,h2⟩:=h
 refine⟨h1.fE id au h0,dep,?_⟩
 unfold Go.Proofs.YtmabllemjkcobaaGreatDoor.fE
 simp only
 split
 ·exact h2.sub ((Sub.settle _).trans (Sub.bX (fun _=>by exact rfl) fun x e he=>he))
 ·exact h2
theorem fC.gU {T:aK} (h:fC T) (id au:Int) (h0:0≤au):fC (gU T id au).2:=by
 obtain⟨h1,dep,h2⟩:=h
 refine⟨h1.gU id au h0,dep,?_⟩
 unfold Go.Proofs.YtmabllemjkcobaaGreatDoor.gU
 simp only
 split
 ·exact h2.sub (Sub.bX (fun _=>by exact rfl) fun x e he=>he)
 ·exact h2
def iZ (T:aK) (id:Int):aK:=T.map fun q=>(q.1,{q.2 with names:=q.2.names.filter fun e=> !decide (e.2=id)})
theorem uS (T:aK) (id:Int):uG T id=bI id (iZ T id):=rfl
def gK (id:Int) (x:eB):eB:={x with names:=x.names.filter fun e=> !decide (e.2=id)}
theorem kY (T:aK) (id k:Int):ah k (iZ T id)=(ah k T).map (gK id):=xq (gK id) k T
theorem LY (id j:Int) (x:eB):cn j (gK id x)=if j=id then 0 else cn j x:=by
 unfold cn gK
 simp only
 rw[List.countP_filter]
 by_cases h:j=id
 ·subst h
  rw[if_pos rfl,List.countP_eq_zero]
  intro e _
  simp
 ·rw[if_neg h]
  apply List.countP_congr
  intro e _
  simp only[Bool.and_eq_true,decide_eq_true_eq,Bool.not_eq_true',decide_eq_false_iff_not]
  exact⟨fun h1=>h1.1,fun h1=>⟨h1,fun h2=>h (h1.symm.trans h2)⟩⟩
theorem xS (T:aK) (id j:Int):fK (iZ T id) j=if j=id then 0 else fK T j:=by
 induction T with
 |nil=>simp[fK,iZ]
 |cons y r ih=>
  have e1:fK (iZ (y::r) id) j=cn j (gK id y.2)+fK (iZ r id) j:=by
   unfold fK iZ gK;simp
  have e2:fK (y::r) j=cn j y.2+fK r j:=by unfold fK;simp
  rw[e1,e2,ih,LY]
  split<;>simp
theorem zl.strip {T:aK} (h:zl T) (id:Int):zl (iZ T id):=by
 have hget:∀k x,ah k (iZ T id)=some x→∃y,ah k T=some y∧x=gK id y:=fun k x hx=>by
  rw[kY]at hx
  cases hy:ah k T with
  |none=>rw[hy]at hx;cases hx
  |some y=>
   rw[hy]at hx
   simp only[Option.map_some,Option.some.injEq]at hx
   exact⟨y,rfl,hx.symm⟩
 refine⟨?_,?_,fun k x hx=> ?_,fun k x hx e he=> ?_,by unfold iZ;rw[List.length_map];exact h.len,fun k x hx=> ?_⟩
 ·have:=h.sorted
  unfold aN iZ at*
  rw[List.pairwise_map]
  exact this
 ·obtain⟨x,hx,hk⟩:=gG h.root
  unfold bB
  rw[kY,hx]
  exact hk
 ·obtain⟨y,hy,rfl⟩:=hget k x hx
  have o:=h.each k y hy
  refine⟨o.kind,fun h1=> ?_,o.dir,o.gone,?_,fun e he=>o.good e (List.mem_filter.1 he).1,o.size,o.links,o.au⟩
  ·unfold gK
   simp only
   rw[o.file h1];rfl
  ·exact List.Pairwise.filter _ o.sorted
 ·obtain⟨y,hy,rfl⟩:=hget k x hx
  have:=h.leads k y hy e (List.mem_filter.1 he).1
  refine⟨?_,this.2⟩
  rw[kY]
  obtain⟨z,hz⟩:=Option.isSome_iff_exists.1 this.1
  rw[hz];rfl
 ·obtain⟨y,hy,rfl⟩:=hget k x hx
  exact h.ids k y hy
theorem Sub.strip (T:aK) (id:Int):Sub (iZ T id) T:=fun d x hx=>by
 rw[kY]at hx
 cases hy:ah d T with
 |none=>rw[hy]at hx;cases hx
 |some y=>
  rw[hy]at hx
  simp only[Option.map_some,Option.some.injEq]at hx
  subst hx
  exact⟨y,rfl,rfl,fun e he=>(List.mem_filter.1 he).1⟩
theorem xU {T:aK} {id:Int} (h:jy T id=0):∃x,ah id T=some x∧x.kind≠2∧x.closed=false:=by
 unfold jy at h
 cases hx:ah id T with
 |none=>rw[hx]at h;cases h
 |some x=>
  rw[hx]at h
  simp only at h
  by_cases hk:x.kind=2
  ·rw[if_pos hk]at h;cases h
  ·rw[if_neg hk]at h
   cases hc:x.closed with
   |true=>rw[hc]at h;cases h
   |false=>exact⟨x,rfl,hk,hc⟩
theorem dI.fO {T:aK} (h:dI T) (id:Int):dI (fO T id).2:=by
 unfold Go.Proofs.YtmabllemjkcobaaGreatDoor.fO
 by_cases he:jy T id=0
 ·simp only[if_pos he]
  obtain⟨x,hx,hk,_⟩:=xU he
  have h0:=h.rF hx hk
  have hnil:=(h.each id x hx).file ((h.each id x hx).kind.resolve_right hk)
  have hS:=h.tozl.strip id
  have hx':ah id (iZ T id)=some (gK id x):=by rw[kY,hx];rfl
  have hn':(gK id x).names=[]:=by unfold gK;simp only;rw[hnil];rfl
  rw[uS]
  refine⟨hS.del hx' h0 (by rw[xS,if_pos rfl]),fun j y hy hj=> ?_⟩
  have hji:j≠id:=fun e=>by subst e;rw[mI]at hy;cases hy
  rw[eZ,if_neg hji,kY]at hy
  cases hz:ah j T with
  |none=>rw[hz]at hy;cases hy
  |some z=>
   rw[hz]at hy
   simp only[Option.map_some,Option.some.injEq]at hy
   have h1:=uJ hS.sorted hx' j
   have h2:cn j (gK id x)=0:=by unfold cn;rw[hn'];rfl
   have h3:=xS T id j
   rw[if_neg hji]at h3
   have h4:=h.counts j z hz hj
   have h5:y.links=z.links:=by rw[←hy];rfl
   omega
 ·simp only[if_neg he];exact h
theorem fC.fO {T:aK} (h:fC T) (id:Int):fC (fO T id).2:=by
 obtain⟨h1,dep,h2⟩:=h
 refine⟨h1.fO id,dep,?_⟩
 unfold Go.Proofs.YtmabllemjkcobaaGreatDoor.fO
 simp only
 split
 ·rw[uS]
  exact h2.sub ((Sub.del _).trans (Sub.strip _ _))
 ·exact h2
theorem Bf {T:aK} {p tq:List Nm} (h:jR T p tq=0):jX p tq=0∧(aD T 0 p).2=0∧(aD T 0 p).1≠0∧(aF T tq).2.2=0∧(bB T (aD T 0 p).1=2→jo tq p=false)∧(ah (aF T tq).2.1 (aM T (aF T tq).1)=none→tq.length+j3 T 8 (aD T 0 p).1≤8):=by
 unfold jR at h
 by_cases h1:jX p tq≠0
 ·rw[if_pos h1]at h;exact absurd h h1
 ·rw[if_neg h1]at h
  by_cases h2:(aD T 0 p).2≠0
  ·rw[if_pos h2]at h;exact absurd h h2
  ·rw[if_neg h2]at h
   by_cases h3:(aD T 0 p).1=0
   ·rw[if_pos h3]at h;cases h
   ·rw[if_neg h3]at h
    by_cases h4:(aF T tq).2.2≠0
    ·rw[if_pos h4]at h;exact absurd h h4
    ·rw[if_neg h4]at h
     by_cases h5:bB T (aD T 0 p).1=2∧jo tq p=true
     ·rw[if_pos h5]at h;cases h
     ·rw[if_neg h5]at h
      refine⟨by omega,by omega,h3,by omega,fun h6=> ?_,fun h6=> ?_⟩
      ·cases hw:jo tq p with
       |false=>rfl
       |true=>exact absurd ⟨h6,hw⟩ h5
      ·rw[h6]at h
       simp only at h
       split at h
       ·cases h
       ·omega
theorem fC.cu {T:aK} (h:fC T) (p tq:List Nm):fC (cu T p tq).2:=by
 unfold Go.Proofs.YtmabllemjkcobaaGreatDoor.cu
 simp only
 by_cases hc:jR T p tq=0∧(ah (aF T tq).2.1 (aM T (aF T tq).1)).isSome=false
 ·rw[if_pos hc]
  obtain⟨h1,dep,h2⟩:=h
  obtain⟨a1,a2,a3,a4,a5,a6⟩:=Bf hc.1
  have hn:ah (aF T tq).2.1 (aM T (aF T tq).1)=none:=by simpa using hc.2
  have hlk:aD T 0 p=((aD T 0 p).1,0):=Prod.ext rfl a2
  have hpl:aF T tq=((aF T tq).1,(aF T tq).2.1,0):=Prod.ext rfl (Prod.ext rfl a4)
  obtain⟨x2,hx2,hk2,hm2⟩:=iY h1 a4
  have hpn:p≠[]:=fun e=>a3 (by rw[e];rfl)
  obtain⟨d1,x1,n1,e1,hl1,hx1,hk1,hn1,_,ep⟩:=dL hlk hpn
  have hf:=pG a1
  unfold tK
  refine⟨?_,h2.move h1 hlk a3 hpl (oF hf.2) fun hk=>⟨a5 hk,a6 hn⟩⟩
  rw[e1]
  rw[fq hx2]at hn
  exact h1.move hx1 hk1 hn1 hx2 hk2 (ig hf.2 _ hm2) hn
 ·rw[if_neg hc];exact h
end Go.Proofs.YtmabllemjkcobaaGreatDoor
