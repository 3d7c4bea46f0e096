/- How deep a tree is; Rename, as plain data. What holds of a tree, and how deep it is, whatever is done. -/
import Derived.Test.YtjnhnlabpccgjaaGreatM13
namespace Go.Proofs.YtjnhnlabpccgjaaGreat
open Go.ChangeShapes Go.WideShapes Go.ChangeAt Go.RowKit
set_option linter.unusedVariables false
set_option linter.unusedSimpArgs false
structure eX (T:aA) (dep:Int→Nat):Prop where
 zero:dep 0=0
 up:∀d x,aj d T=some x→∀e∈x.names,dep d<8∧(bI T e.2=2→dep e.2=dep d+1)
theorem gq {T:aA} {id:Int} {x:bq} (hx:aj id T=some x):aY T id=x.names:=by unfold aY;rw[hx]
theorem lC {T:aA} {id:Int} {e:Nm×Int} (h:e∈aY T id):∃x,aj id T=some x∧e∈x.names:=by
 unfold aY at h
 cases hx:aj id T with
 |none=>rw[hx]at h;cases h
 |some x=>rw[hx]at h;exact⟨x,rfl,h⟩
theorem lD {T:aA} (hT:OkW T) {id:Int} {x:bq} (hx:aj id T=some x) {e:Nm×Int} (he:e∈x.names):x.kind=2:=by
 rcases (hT.each id x hx).kind with h|h
 ·rw[(hT.each id x hx).file h]at he;cases he
 ·exact h
theorem ND {T:aA} {id:Int} (h:aY T id=[]):∀n,Kr T n id
 |0=>h
 |n+1=>fun e he=>by rw[h]at he;cases he
theorem eX.Ya {T:aA} {dep:Int→Nat} (h:eX T dep) (hT:OkW T):∀(n:Nat) (d:Int),8≤n+dep d→Kr T n d
 |0,d,hd=>by
  show aY T d=[]
  cases hn:aY T d with
  |nil=>rfl
  |cons e r=>
   obtain⟨x,hx,he⟩:=lC (T:=T) (id:=d) (e:=e) (by rw[hn];simp)
   have:=(h.up d x hx e he).1
   omega
 |n+1,d,hd=>fun e he=>by
  obtain⟨x,hx,he⟩:=lC he
  by_cases hk:bI T e.2=2
  ·have:=(h.up d x hx e he).2 hk
   exact h.Ya hT n e.2 (by omega)
  ·refine ND ?_ n
   obtain⟨y,hy⟩:=Option.isSome_iff_exists.1 (hT.leads d x hx e he).1
   rw[dD hy]at hk
   rw[gq hy]
   exact(hT.each _ y hy).file ((hT.each _ y hy).kind.resolve_right hk)
theorem eX.Yb {T:aA} {dep:Int→Nat} (h:eX T dep) (hT:OkW T) (d:Int):Kr T 8 d:=h.Ya hT 8 d (by omega)
theorem mR {T:aA} {a d:Int} {n:Nm} {r:List Nm} (h:aL T a (n::r)=(d,0)):∃x k,aj a T=some x∧x.kind=2∧aj n x.names=some k∧aL T k r=(d,0):=by
 simp only[aL]at h
 cases hx:aj a T with
 |none=>rw[hx]at h;cases h
 |some x=>
  rw[hx]at h
  simp only at h
  by_cases hk:x.kind=2
  ·rw[if_pos hk]at h
   cases hn:aj n x.names with
   |none=>rw[hn]at h;cases h
   |some k=>rw[hn]at h;exact⟨x,k,rfl,hk,hn,h⟩
  ·rw[if_neg hk]at h;cases h
theorem ru {T:aA} {dep:Int→Nat} (h:eX T dep):∀(p:List Nm) (a d:Int),aL T a p=(d,0)→bI T d=2→dep d=dep a+p.length
 |[],a,d,hl,_=>by
  have:a=d:=congrArg Prod.fst hl
  subst this;rfl
 |n::r,a,d,hl,hd=>by
  obtain⟨x,k,hx,hk,hn,hl⟩:=mR hl
  have hkk:bI T k=2:=by
   cases r with
   |nil=>
    have:k=d:=congrArg Prod.fst hl
    rw[this];exact hd
   |cons m s=>
    obtain⟨y,j,hy,hyk,_⟩:=mR hl
    rw[dD hy];exact hyk
  have h1:=(h.up a x hx _ (bC hn)).2 hkk
  have h2:=ru h r k d hl hd
  simp only at h1
  rw[List.length_cons]
  omega
theorem uI {T:aA} (hT:OkW T) {a b k:Int} {x y:bq} {n m:Nm} (hx:aj a T=some x) (hn:aj n x.names=some k) (hy:aj b T=some y) (hm:aj m y.names=some k) (hk:bI T k=2):a=b∧n=m:=by
 obtain⟨z,hz,Yc⟩:=fu hk
 have h0:=(hT.leads a x hx _ (bC hn)).2
 have hc:=hT.counts k z hz h0
 rw[((hT.each k z hz).dir Yc).1]at hc
 have h1:=oP hT.toyI hx hn k
 rw[if_pos rfl]at h1
 have h2:eZ (aJ T a n) k=0:=by omega
 by_cases hab:b=a
 ·subst hab
  rw[hx]at hy;cases hy
  refine⟨rfl,?_⟩
  by_cases hnm:m=n
  ·exact hnm.symm
  ·have hg:aj b (aJ T b n)=some {x with names:=bF n x.names}:=by unfold aJ;rw[bg,if_pos rfl,hx];rfl
   have hm':aj m (bF n x.names)=some k:=by rw[lY hnm];exact hm
   exact absurd rfl (xS h2 hg _ (bC hm'))
 ·have hg:aj b (aJ T a n)=some y:=by unfold aJ;rw[bg,if_neg hab];exact hy
  exact absurd rfl (xS h2 hg _ (bC hm))
theorem ny {T:aA} (hT:OkW T):∀(l:Nat) (p q:List Nm) (d:Int),p.length≤l→aL T 0 p=(d,0)→aL T 0 q=(d,0)→bI T d=2→p=q
 |l,p,q,d,hl,hp,hq,hd=>by
  by_cases h1:p=[]
  ·subst h1
   by_cases h2:q=[]
   ·exact h2.symm
   ·obtain⟨d',x,n,-,-,hx,_,hn,_⟩:=fZ hq h2
    have h0:(0:Int)=d:=congrArg Prod.fst hp
    have:=(hT.leads d' x hx _ (bC hn)).2
    exact absurd h0.symm this
  ·obtain⟨d1,x,n,-,hl1,hx,hxk,hn,_,e1⟩:=fZ hp h1
   by_cases h2:q=[]
   ·subst h2
    have h0:(0:Int)=d:=congrArg Prod.fst hq
    have:=(hT.leads d1 x hx _ (bC hn)).2
    exact absurd h0.symm this
   ·obtain⟨d2,y,m,-,hl2,hy,_,hm,_,e2⟩:=fZ hq h2
    obtain⟨hab,hnm⟩:=uI hT hx hn hy hm hd
    subst hab hnm
    have hlen:p.dropLast.length<p.length:=by
     rw[List.length_dropLast]
     have:p.length≠0:=fun e=>h1 (List.eq_nil_of_length_eq_zero e)
     omega
    match l,hl with
    |0,hl=>exact absurd (List.eq_nil_of_length_eq_zero (by omega)) h1
    |l+1,hl=>
     have:=ny hT l p.dropLast q.dropLast d1 (by omega) hl1 hl2 ((dD hx).trans hxk)
     rw[e1,e2,this]
def GA (T:aA) (id d:Int):Prop:=∃q,aL T id q=(d,0)
theorem Jb {T:aA} (hT:eH T):∀(q:List Nm) (id d:Int) (x:bq) (e:Nm×Int) (n:Nat),aL T id q=(d,0)→aj d T=some x→e∈x.names→q.length<n→q.length+1≤sN T n id
 |[],id,d,x,e,n+1,hl,hx,he,hn=>by
  have:id=d:=congrArg Prod.fst hl
  subst this
  have:1+sN T n e.2≤maxD (sN T n) (aY T id):=CV _ (by rw[gq hx];exact he)
  show 0+1≤maxD (sN T n) (aY T id)
  omega
 |m::r,id,d,x,e,n+1,hl,hx,he,hn=>by
  obtain⟨y,k,hy,hyk,hm,hl⟩:=mR hl
  rw[List.length_cons]at hn
  have h1:=Jb hT r k d x e n hl hx he (by omega)
  have:1+sN T n k≤maxD (sN T n) (aY T id):=CV (sN T n) (e:=(m,k)) (by rw[gq hy];exact bC hm)
  show(m::r).length+1≤maxD (sN T n) (aY T id)
  rw[List.length_cons]
  omega
 |q,_,_,_,_,0,_,_,_,hn=>by omega
def Jc (p q:List Nm):Bool:=decide (p.take q.length=q)
theorem eH.move {T:aA} (h:eH T) {d1 d2 id:Int} {x1 x2:bq} {n1 n2:Nm} (hx1:aj d1 T=some x1) (hk1:x1.kind=2) (hn1:aj n1 x1.names=some id) (hx2:aj d2 T=some x2) (hk2:x2.kind=2) (hg2:bV n2=true) (hn2:aj n2 x2.names=none):
  eH (setName (aJ T d1 n1) d2 n2 id):=by
 have hid:=h.leads d1 x1 hx1 _ (bC hn1)
 have hP:=h.tosJ.cut (n:=n1) hx1 hk1
 obtain⟨x3,hx3,hk3,Rc⟩:∃x3,aj d2 (aJ T d1 n1)=some x3∧x3.kind=2∧aj n2 x3.names=none:=by
  unfold aJ
  rw[bg]
  by_cases hd:d2=d1
  ·subst hd
   rw[hx1]at hx2;cases hx2
   rw[if_pos rfl,hx1]
   refine⟨_,rfl,hk1,?_⟩
   show aj n2 (bF n1 x1.names)=none
   rw[eu]
   split
   ·rfl
   ·exact hn2
  ·rw[if_neg hd];exact⟨x2,hx2,hk2,hn2⟩
 have hid3:(aj id (aJ T d1 n1)).isSome=true:=by
  unfold aJ;rw[bg]
  split<;>simp[hid.1]
 refine⟨hP.set hx3 hk3 hg2 ⟨hid3,hid.2⟩,fun j z hz hj=> ?_⟩
 have h1:=oP h.tosJ hx1 hn1 j
 have h2:=oL hP.sorted (fun x=>{x with names:=bM bytesBefore n2 id x.names}) hx3 j
 have h3:=Na (id:=id) Rc j
 have e:eZ (setName (aJ T d1 n1) d2 n2 id) j=eZ T j:=by
  unfold setName
  omega
 rw[e]
 unfold setName at hz
 rw[bg]at hz
 obtain⟨z1,hz1,hl1⟩:∃z1,aj j (aJ T d1 n1)=some z1∧z.links=z1.links:=by
  by_cases hjd:j=d2
  ·rw[if_pos hjd]at hz
   cases hq:aj j (aJ T d1 n1)with
   |none=>rw[hq]at hz;cases hz
   |some z1=>
    rw[hq]at hz
    simp only[Option.map_some,Option.some.injEq]at hz
    exact⟨z1,rfl,by rw[←hz]⟩
  ·rw[if_neg hjd]at hz;exact⟨z,hz,rfl⟩
 obtain⟨z2,hz2,hl2,_⟩:=CS hz1
 rw[hl1,hl2]
 exact h.counts j z2 hz2 hj
theorem Eu {T:aA} (hT:eH T) {id a k:Int} {x:bq} {n:Nm} (hx:aj a T=some x) (hn:aj n x.names=some k) (hk:bI T k=2) (hki:k≠id):GA T id k↔GA T id a:=by
 constructor
 ·rintro ⟨q,hq⟩
  rcases List.eq_nil_or_concat q with rfl|⟨r,m,rfl⟩
  ·exact absurd (congrArg Prod.fst hq).symm hki
  ·rw[List.concat_eq_append,fU]at hq
   by_cases he:(aL T id r).2=0
   ·rw[if_pos he]at hq
    obtain⟨y,j,hy,hyk,hm,hl⟩:=mR hq
    have:j=k:=congrArg Prod.fst hl
    subst this
    obtain⟨hab,_⟩:=uI hT hx hn hy hm hk
    exact⟨r,Prod.ext hab.symm he⟩
   ·rw[if_neg he]at hq
    rw[hq]at he
    exact absurd rfl he
 ·rintro ⟨q,hq⟩
  refine⟨q++[n],?_⟩
  rw[fU,hq]
  simp only[if_pos]
  have:=lD hT hx (bC hn)
  simp only[aL,hx,if_pos this,hn]
theorem yX {T:aA} {d1 d2 id:Int} {n1 n2:Nm} {a:Int} {x:bq} (h:aj a (setName (aJ T d1 n1) d2 n2 id)=some x):∃y,aj a T=some y∧x.kind=y.kind∧∀e∈x.names,(e∈y.names∧¬(a=d1∧e.1=n1))∨(a=d2∧e=(n2,id)):=by
 obtain⟨z,hz,hk,hc⟩:∃z,aj a (aJ T d1 n1)=some z∧x.kind=z.kind∧∀e∈x.names,e∈z.names∨(a=d2∧e=(n2,id)):=by
  unfold setName at h
  rw[bg]at h
  by_cases hd:a=d2
  ·rw[if_pos hd]at h
   cases hz:aj a (aJ T d1 n1)with
   |none=>rw[hz]at h;cases h
   |some z=>
    rw[hz]at h
    simp only[Option.map_some,Option.some.injEq]at h
    refine⟨z,rfl,by rw[←h],fun e he=> ?_⟩
    rw[←h]at he
    rcases (mY bytesBefore).1 he with h2|h2
    ·exact .inr ⟨hd,h2⟩
    ·exact .inl (List.mem_filter.1 h2).1
  ·rw[if_neg hd]at h;exact⟨x,h,rfl,fun e he=> .inl he⟩
 unfold aJ at hz
 rw[bg]at hz
 by_cases hd:a=d1
 ·rw[if_pos hd]at hz
  cases hy:aj a T with
  |none=>rw[hy]at hz;cases hz
  |some y=>
   rw[hy]at hz
   simp only[Option.map_some,Option.some.injEq]at hz
   refine⟨y,rfl,by rw[hk,←hz],fun e he=> ?_⟩
   rcases hc e he with h1|h1
   ·rw[←hz]at h1
    have h2:=List.mem_filter.1 h1
    refine .inl ⟨h2.1,fun h3=> ?_⟩
    have:=h2.2
    simp[h3.2]at this
   ·exact .inr h1
 ·rw[if_neg hd]at hz
  refine⟨z,hz,hk,fun e he=> ?_⟩
  rcases hc e he with h1|h1
  ·exact .inl ⟨h1,fun h=>hd h.1⟩
  ·exact .inr h1
theorem vN {T:aA} {d:Int} {f:bq→bq} (hf:∀x,(f x).kind=x.kind) (k:Int):bI (aX d f T) k=bI T k:=by
 unfold bI
 rw[bg]
 by_cases h:k=d
 ·rw[if_pos h]
  cases aj k T with
  |none=>rfl
  |some y=>exact hf y
 ·rw[if_neg h]
theorem BN {T:aA} {d1 d2 id:Int} {n1 n2:Nm} (k:Int):bI (setName (aJ T d1 n1) d2 n2 id) k=bI T k:=by
 unfold setName aJ
 exact(vN (fun _=>by exact rfl) k).trans (vN (fun _=>by exact rfl) k)
open Classical in
theorem eX.move {T:aA} {dep:Int→Nat} (h:eX T dep) (hT:eH T) {p tq:List Nm} {id dt:Int} {nt:Nm} (hp:aL T 0 p=(id,0)) (h0:id≠0) (hto:aV T tq=(dt,nt,0)) (hf:tq.length≤8) (hw:bI T id=2→Jc tq p=false∧tq.length+sN T 8 id≤8):
  ∃U7,eX (setName (aJ T (aV T p).1 (aV T p).2.1) dt nt id) U7:=by
 have hpn:p≠[]:=fun e=>by subst e;exact h0 (congrArg Prod.fst hp).symm
 obtain⟨d1,x1,n1,e1,hl1,hx1,hk1,hn1,_,ep⟩:=fZ hp hpn
 rw[e1]
 obtain⟨hln,hlt,hkt⟩:tq≠[]∧aL T 0 tq.dropLast=(dt,0)∧bI T dt=2:=by
  unfold aV at hto
  by_cases ht0:tq=[]
  ·rw[if_pos ht0]at hto;cases hto
  ·rw[if_neg ht0]at hto
   by_cases ht1:(aL T 0 tq.dropLast).2≠0
   ·rw[if_pos ht1]at hto
    exact absurd (congrArg (·.2.2) hto) ht1
   ·rw[if_neg ht1]at hto
    by_cases ht2:bI T (aL T 0 tq.dropLast).1=2
    ·rw[if_pos ht2]at hto
     have h3:(aL T 0 tq.dropLast).1=dt:=congrArg Prod.fst hto
     exact⟨ht0,Prod.ext h3 (by simpa using ht1),h3▸ht2⟩
    ·rw[if_neg ht2]at hto;cases hto
 have hdt:=ru h _ 0 dt hlt hkt
 rw[h.zero,List.length_dropLast]at hdt
 have htl:tq.length≠0:=fun e=>hln (List.eq_nil_of_length_eq_zero e)
 by_cases hk:bI T id=2
 ·obtain⟨hw1,hw2⟩:=hw hk
  have hdid:=ru h p 0 id hp hk
  rw[h.zero]at hdid
  have hnt:¬GA T id dt:=by
   rintro ⟨q,hq⟩
   have h3:aL T 0 (p++q)=(dt,0):=by rw[fU,hp];simp only[if_pos];exact hq
   have h4:=ny hT _ _ _ dt (Nat.le_refl _) hlt h3 hkt
   have h5:tq.take p.length=p:=by
    have h6:tq.dropLast.take p.length=p:=by rw[h4,List.take_left]
    have h7:p.length≤tq.length-1:=by
     have:=congrArg List.length h4
     rw[List.length_dropLast,List.length_append]at this
     omega
    rw[List.dropLast_eq_take,List.take_take,Nat.min_eq_left h7]at h6
    exact h6
   unfold Jc at hw1
   rw[h5]at hw1
   simp at hw1
  refine⟨fun d=>if GA T id d then dep d+tq.length-p.length else dep d,?_,fun d x hx e he=> ?_⟩
  ·have:¬GA T id 0:=by
    rintro ⟨q,hq⟩
    have h3:aL T 0 (p++q)=(0,0):=by rw[fU,hp];simp only[if_pos];exact hq
    have h4:=ny hT 0 [] _ 0 (Nat.le_refl _) rfl h3 hT.root
    have:=congrArg List.length h4
    rw[List.length_append]at this
    exact hpn (List.eq_nil_of_length_eq_zero (by simp at this;omega))
   simp only[if_neg this,h.zero]
  ·obtain⟨y,hy,hxy,hnm⟩:=yX hx
   rw[BN]
   rcases hnm e he with⟨Xx,hne⟩|⟨hd,hee⟩
   ·have hup:=h.up d y hy e Xx
    have hyk:=lD hT hy Xx
    have hn:=aI qK (hT.each d y hy).sorted Xx
    by_cases hD:GA T id d
    ·obtain⟨q,hq⟩:=hD
     have h3:=ru h q id d hq ((dD hy).trans hyk)
     have hq8:q.length<8:=by have:=hup.1;omega
     have h4:=Jb hT q id d y e 8 hq hy Xx hq8
     simp only[if_pos (show GA T id d from⟨q,hq⟩)]
     refine⟨by omega,fun hek=> ?_⟩
     have TS:e.2≠id:=fun h5=>by
      obtain⟨h6,h7⟩:=uI hT hx1 hn1 hy (by rw[←h5];exact hn) hk
      exact hne ⟨h6.symm,h7.symm⟩
     have:=hup.2 hek
     rw[if_pos ((Eu hT hy hn hek TS).2 ⟨q,hq⟩)]
     omega
    ·simp only[if_neg hD]
     refine⟨hup.1,fun hek=> ?_⟩
     have TS:e.2≠id:=fun h5=>by
      obtain⟨h6,h7⟩:=uI hT hx1 hn1 hy (by rw[←h5];exact hn) hk
      exact hne ⟨h6.symm,h7.symm⟩
     rw[if_neg (fun h6=>hD ((Eu hT hy hn hek TS).1 h6))]
     exact hup.2 hek
   ·subst hd hee
    simp only[if_neg hnt]
    refine⟨by omega,fun _=> ?_⟩
    rw[if_pos ⟨[],rfl⟩]
    omega
 ·refine⟨dep,h.zero,fun d x hx e he=> ?_⟩
  obtain⟨y,hy,hxy,hnm⟩:=yX hx
  rw[BN]
  rcases hnm e he with⟨Xx,_⟩|⟨hd,hee⟩
  ·exact h.up d y hy e Xx
  ·subst hd hee
   exact⟨by omega,fun h3=>absurd h3 hk⟩
theorem GD {T:aA} {tq:List Nm} {dt:Int} {nt:Nm} (hto:aV T tq=(dt,nt,0)):tq≠[]∧aL T 0 tq.dropLast=(dt,0)∧bI T dt=2:=by
 unfold aV at hto
 by_cases ht0:tq=[]
 ·rw[if_pos ht0]at hto;cases hto
 ·rw[if_neg ht0]at hto
  by_cases ht1:(aL T 0 tq.dropLast).2≠0
  ·rw[if_pos ht1]at hto
   exact absurd (congrArg (·.2.2) hto) ht1
  ·rw[if_neg ht1]at hto
   by_cases ht2:bI T (aL T 0 tq.dropLast).1=2
   ·rw[if_pos ht2]at hto
    have h3:(aL T 0 tq.dropLast).1=dt:=congrArg Prod.fst hto
    exact⟨ht0,Prod.ext h3 (by simpa using ht1),h3▸ht2⟩
   ·rw[if_neg ht2]at hto;cases hto
theorem eX.place {T:aA} {dep:Int→Nat} (h:eX T dep) {tq:List Nm} {dt:Int} {nt:Nm} (hto:aV T tq=(dt,nt,0)) (hf:tq.length≤8):dep dt<8:=by
 obtain⟨h1,h2,h3⟩:=GD hto
 have:=ru h _ 0 dt h2 h3
 rw[h.zero,List.length_dropLast]at this
 have:tq.length≠0:=fun e=>h1 (List.eq_nil_of_length_eq_zero e)
 omega
def Sub (T' T:aA):Prop:=∀d x,aj d T'=some x→∃y,aj d T=some y∧x.kind=y.kind∧∀e∈x.names,e∈y.names
theorem Sub.refl (T:aA):Sub T T:=fun d x h=>⟨x,h,rfl,fun _ he=>he⟩
theorem Sub.trans {A B C:aA} (h:Sub A B) (k:Sub B C):Sub A C:=fun d x hx=>by
 obtain⟨y,hy,h1,h2⟩:=h d x hx
 obtain⟨z,hz,h3,h4⟩:=k d y hy
 exact⟨z,hz,h1.trans h3,fun e he=>h4 e (h2 e he)⟩
theorem Sub.aX {T:aA} {k:Int} {f:bq→bq} (h1:∀x,(f x).kind=x.kind) (h2:∀x,∀e∈(f x).names,e∈x.names):Sub (Go.Proofs.YtjnhnlabpccgjaaGreat.aX k f T) T:=fun d x hx=>by
 rw[bg]at hx
 by_cases hd:d=k
 ·rw[if_pos hd]at hx
  cases hy:aj d T with
  |none=>rw[hy]at hx;cases hx
  |some y=>
   rw[hy]at hx
   simp only[Option.map_some,Option.some.injEq]at hx
   exact⟨y,rfl,by rw[←hx];exact h1 y,fun e he=>h2 y e (by rw[hx];exact he)⟩
 ·rw[if_neg hd]at hx;exact⟨x,hx,rfl,fun _ he=>he⟩
theorem Sub.del {T:aA} (k:Int):Sub (bF k T) T:=fun d x hx=>by
 rw[eu]at hx
 split at hx
 ·cases hx
 ·exact⟨x,hx,rfl,fun _ he=>he⟩
theorem Sub.settle {T:aA} (k:Int):Sub (fG T k) T:=by
 unfold fG
 cases aj k T with
 |none=>exact Sub.refl T
 |some x=>
  simp only
  split
  ·exact Sub.del k
  ·exact Sub.refl T
theorem Sub.cut {T:aA} (d:Int) (n:Nm):Sub (aJ T d n) T:=Sub.aX (fun _=>by exact rfl) fun x e he=>(List.mem_filter.1 he).1
theorem eX.sub {T T':aA} {dep:Int→Nat} (h:eX T dep) (hs:Sub T' T):eX T' dep:=by
 refine⟨h.zero,fun d x hx e he=> ?_⟩
 obtain⟨y,hy,_,hn⟩:=hs d x hx
 have h1:=h.up d y hy e (hn e he)
 refine⟨h1.1,fun hk=>h1.2 ?_⟩
 obtain⟨z,hz,Yc⟩:=fu hk
 obtain⟨u,hu,huk,_⟩:=hs _ z hz
 rw[dD hu,←huk];exact Yc
theorem GH {T:aA} {d id a:Int} {n:Nm} {x:bq} (h:aj a (setName T d n id)=some x):∃y,aj a T=some y∧x.kind=y.kind∧∀e∈x.names,e∈y.names∨(a=d∧e=(n,id)):=by
 unfold setName at h
 rw[bg]at h
 by_cases hd:a=d
 ·rw[if_pos hd]at h
  cases hz:aj a T with
  |none=>rw[hz]at h;cases h
  |some z=>
   rw[hz]at h
   simp only[Option.map_some,Option.some.injEq]at h
   refine⟨z,rfl,by rw[←h],fun e he=> ?_⟩
   rw[←h]at he
   rcases (mY bytesBefore).1 he with h2|h2
   ·exact .inr ⟨hd,h2⟩
   ·exact .inl (List.mem_filter.1 h2).1
 ·rw[if_neg hd]at h;exact⟨x,h,rfl,fun e he=> .inl he⟩
theorem NH {T:aA} {d id:Int} {n:Nm} (k:Int):bI (setName T d n id) k=bI T k:=by
 unfold setName
 exact vN (fun _=>by exact rfl) k
theorem eX.make {T:aA} {dep:Int→Nat} (h:eX T dep) (hT:eH T) {d f kind:Int} {n:Nm} (hd:dep d<8) (hf:aj f T=none) (hf0:f≠0) (hdt:(aj d T).isSome=true):∃U7,eX (setName (bM fQ f (bL kind) T) d n f) U7:=by
 refine⟨fun k=>if k=f then dep d+1 else dep k,by simp only[if_neg (Ne.symm hf0),h.zero],fun a x hx e he=> ?_⟩
 have hdf:d≠f:=fun e=>by rw[e,hf]at hdt;cases hdt
 obtain⟨y,hy,_,hn⟩:=GH hx
 rw[NH]
 rcases qX hT.sorted hy with⟨h1,h2⟩|⟨h1,h2⟩
 ·rcases hn e he with h3|⟨h3,h4⟩
  ·rw[h2]at h3;cases h3
  ·exact absurd (h3.symm.trans h1) hdf
 ·rcases hn e he with h3|⟨h3,h4⟩
  ·have hup:=h.up a y h2 e h3
   have hl:=(hT.leads a y h2 e h3).1
   have hef:e.2≠f:=fun e5=>by rw[e5,hf]at hl;cases hl
   simp only[if_neg h1,if_neg hef]
   have:bI (bM fQ f (bL kind) T) e.2=bI T e.2:=by unfold bI;rw[dL,if_neg hef]
   rw[this]
   exact hup
  ·subst h3 h4
   simp only[if_neg h1,if_pos]
   exact⟨hd,fun _=>trivial⟩
def ig (T:aA):Prop:=eH T∧∃dep,eX T dep
def Jd (T:aA):Prop:=OkW T∧∃dep,eX T dep
theorem ig.w {T:aA} (h:ig T):Jd T:=⟨h.1.w,h.2⟩
instance {T:aA}:Coe (ig T) (Jd T):=⟨ig.w⟩
theorem ig.new:ig ni:=by
 refine⟨xW,fun _=>0,rfl,fun d x hx e he=> ?_⟩
 unfold ni at hx
 rw[dZ]at hx
 by_cases hk:(0:Int)=d
 ·rw[if_pos hk]at hx
  cases hx
  cases he
 ·rw[if_neg hk]at hx;cases hx
theorem ig.dK {T:aA} (h:ig T) (ls:List Nm) (kind:Int):ig (dK T ls kind).2:=by
 obtain⟨h1,dep,h2⟩:=h
 refine⟨h1.dK ls kind,?_⟩
 unfold Go.Proofs.YtjnhnlabpccgjaaGreat.dK
 by_cases he:jw T ls kind=0
 ·rw[if_pos he]
  obtain⟨a1,a2,a3,a4,a5⟩:=yT h1 he
  obtain⟨x,hx,hk,hm⟩:=nV h1 a3
  obtain⟨f,hf,hf1,hf2,hfn,_⟩:=h1.free
  show ∃dep,eX (qV T ls kind) dep
  unfold qV
  rw[hf]
  exact h2.make h1 (h2.place (nt:=(aV T ls).2.1) (Prod.ext rfl (Prod.ext rfl a3)) (Ka a1)) hfn (by omega) (by rw[hx];rfl)
 ·rw[if_neg he];exact⟨dep,h2⟩
theorem ig.bJ {T:aA} (h:ig T) (p:List Nm):ig (bJ T p).2:=by
 obtain⟨h1,dep,h2⟩:=h
 refine⟨h1.bJ p,dep,?_⟩
 unfold Go.Proofs.YtjnhnlabpccgjaaGreat.bJ
 simp only
 split
 ·unfold oK
  exact h2.sub ((Sub.settle _).trans ((Sub.aX (f:=fun x=>{x with links:=x.links-1}) (fun _=>by exact rfl) fun x e he=>he).trans (Sub.cut _ _)))
 ·exact h2
theorem ig.bT {T:aA} (h:ig T) (id:Int) (b:List UInt8):ig (bT T id b).2:=by
 obtain⟨h1,dep,h2⟩:=h
 refine⟨h1.bT id b,dep,?_⟩
 unfold Go.Proofs.YtjnhnlabpccgjaaGreat.bT
 simp only
 split
 ·exact h2.sub (Sub.aX (fun _=>by exact rfl) fun x e he=>he)
 ·exact h2
theorem ig.fC {T:aA} (h:ig T) (id aP:Int) (h0:0≤aP):ig (fC T id aP).2:=by
 obtain⟨h1,dep,h2⟩:=h
 refine⟨h1.fC id aP h0,dep,?_⟩
 unfold Go.Proofs.YtjnhnlabpccgjaaGreat.fC
 simp only
 split
 ·exact h2.sub ((Sub.settle _).trans (Sub.aX (fun _=>by exact rfl) fun x e he=>he))
 ·exact h2
def eP (T:aA) (id:Int):aA:=T.map fun q=>(q.1,{q.2 with names:=q.2.names.filter fun e=> !decide (e.2=id)})
theorem oQ (T:aA) (id:Int):vw T id=bF id (eP T id):=rfl
def fE (id:Int) (x:bq):bq:={x with names:=x.names.filter fun e=> !decide (e.2=id)}
theorem gZ (T:aA) (id k:Int):aj k (eP T id)=(aj k T).map (fE id):=yF (fE id) k T
theorem NI (id j:Int) (x:bq):cn j (fE id x)=if j=id then 0 else cn j x:=by
 unfold cn fE
 simp only
 rw[List.countP_filter]
 by_cases h:j=id
 ·subst h
  rw[if_pos rfl,List.countP_eq_zero]
  intro e _
  simp
 ·rw[if_neg h]
  apply List.countP_congr
  intro e _
  simp only[Bool.and_eq_true,decide_eq_true_eq,Bool.not_eq_true',decide_eq_false_iff_not]
  exact⟨fun h1=>h1.1,fun h1=>⟨h1,fun h2=>h (h1.symm.trans h2)⟩⟩
theorem yY (T:aA) (id j:Int):eZ (eP T id) j=if j=id then 0 else eZ T j:=by
 induction T with
 |nil=>simp[eZ,eP]
 |cons y r ih=>
  have e1:eZ (eP (y::r) id) j=cn j (fE id y.2)+eZ (eP r id) j:=by
   unfold eZ eP fE;simp
  have e2:eZ (y::r) j=cn j y.2+eZ r j:=by unfold eZ;simp
  rw[e1,e2,ih,NI]
  split<;>simp
theorem yI.strip {T:aA} (h:yI T) (id:Int):yI (eP T id):=by
 have hget:∀k x,aj k (eP T id)=some x→∃y,aj k T=some y∧x=fE id y:=fun k x hx=>by
  rw[gZ]at hx
  cases hy:aj k T with
  |none=>rw[hy]at hx;cases hx
  |some y=>
   rw[hy]at hx
   simp only[Option.map_some,Option.some.injEq]at hx
   exact⟨y,rfl,hx.symm⟩
 refine⟨?_,?_,fun k x hx=> ?_,fun k x hx e he=> ?_,by unfold eP;rw[List.length_map];exact h.len,fun k x hx=> ?_⟩
 ·have:=h.sorted
  unfold aC eP at*
  rw[List.pairwise_map]
  exact this
 ·obtain⟨x,hx,hk⟩:=fu h.root
  unfold bI
  rw[gZ,hx]
  exact hk
 ·obtain⟨y,hy,rfl⟩:=hget k x hx
  have o:=h.each k y hy
  refine⟨o.kind,fun h1=> ?_,o.dir,o.gone,?_,fun e he=>o.good e (List.mem_filter.1 he).1,o.size,o.links,o.aP⟩
  ·unfold fE
   simp only
   rw[o.file h1];rfl
  ·exact List.Pairwise.filter _ o.sorted
 ·obtain⟨y,hy,rfl⟩:=hget k x hx
  have:=h.leads k y hy e (List.mem_filter.1 he).1
  refine⟨?_,this.2⟩
  rw[gZ]
  obtain⟨z,hz⟩:=Option.isSome_iff_exists.1 this.1
  rw[hz];rfl
 ·obtain⟨y,hy,rfl⟩:=hget k x hx
  exact h.ids k y hy
theorem sJ.strip {T:aA} (h:sJ T) (id:Int):sJ (eP T id):=
 sJ.UU (h.w.strip id) fun k x hx=>by
  rw[gZ]at hx
  cases hy:aj k T with
  |none=>rw[hy]at hx;cases hx
  |some y=>
   rw[hy]at hx
   simp only[Option.map_some,Option.some.injEq]at hx
   subst hx
   exact(h.each k y hy).links.2
theorem Sub.strip (T:aA) (id:Int):Sub (eP T id) T:=fun d x hx=>by
 rw[gZ]at hx
 cases hy:aj d T with
 |none=>rw[hy]at hx;cases hx
 |some y=>
  rw[hy]at hx
  simp only[Option.map_some,Option.some.injEq]at hx
  subst hx
  exact⟨y,rfl,rfl,fun e he=>(List.mem_filter.1 he).1⟩
theorem yZ {T:aA} {id:Int} (h:gK T id=0):∃x,aj id T=some x∧x.kind≠2∧x.closed=false:=by
 unfold gK at h
 cases hx:aj id T with
 |none=>rw[hx]at h;cases h
 |some x=>
  rw[hx]at h
  simp only at h
  by_cases hk:x.kind=2
  ·rw[if_pos hk]at h;cases h
  ·rw[if_neg hk]at h
   cases hc:x.closed with
   |true=>rw[hc]at h;cases h
   |false=>exact⟨x,rfl,hk,hc⟩
theorem OkW.cu {T:aA} (h:OkW T) (id:Int):OkW (cu T id).2:=by
 unfold Go.Proofs.YtjnhnlabpccgjaaGreat.cu
 by_cases he:gK T id=0
 ·simp only[if_pos he]
  obtain⟨x,hx,hk,_⟩:=yZ he
  have h0:id≠0:=fun e=>by
   have hr:=h.root
   unfold bI at hr
   rw[←e,hx]at hr
   exact hk hr
  have hnil:=(h.each id x hx).file ((h.each id x hx).kind.resolve_right hk)
  have hS:=h.toyI.strip id
  have hx':aj id (eP T id)=some (fE id x):=by rw[gZ,hx];rfl
  have hn':(fE id x).names=[]:=by unfold fE;simp only;rw[hnil];rfl
  rw[oQ]
  refine⟨hS.del hx' h0 (by rw[yY,if_pos rfl]),fun j y hy hj=> ?_⟩
  have hji:j≠id:=fun e=>by subst e;rw[mZ]at hy;cases hy
  rw[eu,if_neg hji,gZ]at hy
  cases hz:aj j T with
  |none=>rw[hz]at hy;cases hy
  |some z=>
   rw[hz]at hy
   simp only[Option.map_some,Option.some.injEq]at hy
   have h1:=vD hS.sorted hx' j
   have h2:cn j (fE id x)=0:=by unfold cn;rw[hn'];rfl
   have h3:=yY T id j
   rw[if_neg hji]at h3
   have h4:=h.counts j z hz hj
   have h5:y.links=z.links:=by rw[←hy];rfl
   omega
 ·simp only[if_neg he];exact h
theorem eH.cu {T:aA} (h:eH T) (id:Int):eH (cu T id).2:=by
 have hw:=h.w.cu id
 refine⟨sJ.UU hw.toyI fun k x hx=> ?_,hw.counts⟩
 unfold Go.Proofs.YtjnhnlabpccgjaaGreat.cu at hx
 simp only at hx
 split at hx
 ·rw[oQ,eu]at hx
  split at hx
  ·cases hx
  ·rw[gZ]at hx
   cases hy:aj k T with
   |none=>rw[hy]at hx;cases hx
   |some y=>
    rw[hy]at hx
    simp only[Option.map_some,Option.some.injEq]at hx
    subst hx
    exact(h.each k y hy).links.2
 ·exact(h.each k x hx).links.2
theorem ig.cu {T:aA} (h:ig T) (id:Int):ig (cu T id).2:=by
 obtain⟨h1,dep,h2⟩:=h
 refine⟨h1.cu id,dep,?_⟩
 unfold Go.Proofs.YtjnhnlabpccgjaaGreat.cu
 simp only
 split
 ·rw[oQ]
  exact h2.sub ((Sub.del _).trans (Sub.strip _ _))
 ·exact h2
end Go.Proofs.YtjnhnlabpccgjaaGreat
