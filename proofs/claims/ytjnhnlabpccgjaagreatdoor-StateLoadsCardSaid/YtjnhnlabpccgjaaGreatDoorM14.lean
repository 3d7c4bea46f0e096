/- How -/
import Derived.Test.YtjnhnlabpccgjaaGreatDoorM13
set_option maxRecDepth 100000
set_option maxHeartbeats 64000000
set_option linter.all false
namespace Go.Proofs.YtjnhnlabpccgjaaGreatDoor
open Go.ChangeShapes Go.WideShapes Go.ChangeAt Go.RowKit
structure fC(T:aA)(dep:Int→Nat):Prop where
 zero:dep 0=0
 up:∀d x,aj d T=some x→∀e∈x.names,dep d<8∧(bI T e.2=2→dep e.2=dep d+1)
theorem dX{T:aA}{id:Int}{x:bJ}(hx:aj id T=some x):aU T id=x.names:=by unfold aU;rw[hx]
theorem nK{T:aA}{id:Int}{e:Nm×Int}(h:e∈aU T id):∃x,aj id T=some x∧e∈x.names:=by
 unfold aU at h;cases hx:aj id T with
 |none=>rw[hx]at h;cases h
 |some x=>rw[hx]at h;exact⟨x,rfl,h⟩
theorem nL{T:aA}(hT:OkW T){id:Int}{x:bJ}(hx:aj id T=some x){e:Nm×Int}(he:e∈x.names):x.kind=2:=by
 rcases (hT.each id x hx).kind with h|h
 ·rw[(hT.each id x hx).file h]at he;cases he
 ·exact h
theorem TI{T:aA}{id:Int}(h:aU T id=[]):∀n,Dm T n id
 |0=>h
 |n+1=>fun e he=>by rw[h]at he;cases he
theorem fC.TJ{T:aA}{dep:Int→Nat}(h:fC T dep)(hT:OkW T):∀(n:Nat) (d:Int),8≤n+dep d→Dm T n d
 |0,d,hd=>by
  show aU T d=[];cases hn:aU T d with
  |nil=>rfl
  |cons e r=>
   obtain⟨x,hx,he⟩:=nK (T:=T) (id:=d) (e:=e) (by rw[hn];simp);have:=(h.up d x hx e he).1;omega
 |n+1,d,hd=>fun e he=>by
  obtain⟨x,hx,he⟩:=nK he;by_cases hk:bI T e.2=2
  ·have:=(h.up d x hx e he).2 hk;exact h.TJ hT n e.2 (by omega)
  ·refine TI ?_ n;obtain⟨y,hy⟩:=aaf.1 (hT.leads d x hx e he).1;rw[dh hy]at hk;rw[dX hy];exact(hT.each _ y hy).file ((hT.each _ y hy).kind.resolve_right hk)
theorem fC.ZA{T:aA}{dep:Int→Nat}(h:fC T dep)(hT:OkW T)(d:Int):Dm T 8 d:=h.TJ hT 8 d (by omega)
theorem pO{T:aA}{a d:Int}{n:Nm}{r:List Nm}(h:aG T a (n::r)=(d,0)):∃x k,aj a T=some x∧x.kind=2∧aj n x.names=some k∧aG T k r=(d,0):=by
 simp only[aG]at h;cases hx:aj a T with
 |none=>rw[hx]at h;cases h
 |some x=>
  rw[hx]at h;simp only at h;by_cases hk:x.kind=2
  ·rw[if_pos hk]at h;cases hn:aj n x.names with
   |none=>rw[hn]at h;cases h
   |some k=>rw[hn]at h;exact⟨x,k,rfl,hk,hn,h⟩
  ·rw[if_neg hk]at h;cases h
theorem vB{T:aA}{dep:Int→Nat}(h:fC T dep):∀(p:List Nm) (a d:Int),aG T a p=(d,0)→bI T d=2→dep d=dep a+p.length
 |[],a,d,hl,_=>by
  have:a=d:=aaF Prod.fst hl;subst this;rfl
 |n::r,a,d,hl,hd=>by
  obtain⟨x,k,hx,hk,hn,hl⟩:=pO hl;have hkk:bI T k=2:=by
   cases r with
   |nil=>
    have:k=d:=aaF Prod.fst hl;rw[this];exact hd
   |cons m s=>
    obtain⟨y,j,hy,hyk,_⟩:=pO hl;rw[dh hy];exact hyk
  have h1:=(h.up a x hx _ (bM hn)).2 hkk;have h2:=vB h r k d hl hd;simp only at h1;rw[List.length_cons];omega
theorem yT{T:aA}(hT:OkW T){a b k:Int}{x y:bJ}{n m:Nm}(hx:aj a T=some x)(hn:aj n x.names=some k)(hy:aj b T=some y)(hm:aj m y.names=some k)(hk:bI T k=2):a=b∧n=m:=by
 obtain⟨z,hz,hzk⟩:=gJ hk;have h0:=(hT.leads a x hx _ (bM hn)).2;have hc:=hT.counts k z hz h0;rw[((hT.each k z hz).dir hzk).1]at hc;have h1:=rX hT.toCV hx hn k;rw[if_pos rfl]at h1;have h2:fV (aK T a n) k=0:=by omega
 by_cases hab:b=a
 ·subst hab;rw[hx]at hy;cases hy;refine⟨rfl,?_⟩;by_cases hnm:m=n
  ·exact hnm.symm
  ·have hg:aj b (aK T b n)=some {x with names:=bP n x.names}:=by unfold aK;rw[bf,if_pos rfl,hx];rfl
   have hm':aj m (bP n x.names)=some k:=by rw[oC hnm];exact hm
   exact absurd rfl (Ch h2 hg _ (bM hm'))
 ·have hg:aj b (aK T a n)=some y:=by unfold aK;rw[bf,if_neg hab];exact hy
  exact absurd rfl (Ch h2 hg _ (bM hm))
theorem qm{T:aA}(hT:OkW T):∀(l:Nat) (p q:List Nm) (d:Int),p.length≤l→aG T 0 p=(d,0)→aG T 0 q=(d,0)→bI T d=2→p=q
 |l,p,q,d,hl,hp,hq,hd=>by
  by_cases h1:p=[]
  ·subst h1;by_cases h2:q=[]
   ·exact h2.symm
   ·obtain⟨d',x,n,-,-,hx,_,hn,_⟩:=dH hq h2;have h0:(0:Int)=d:=aaF Prod.fst hp;have:=(hT.leads d' x hx _ (bM hn)).2;exact absurd h0.symm this
  ·obtain⟨d1,x,n,-,hl1,hx,hxk,hn,_,e1⟩:=dH hp h1;by_cases h2:q=[]
   ·subst h2;have h0:(0:Int)=d:=aaF Prod.fst hq;have:=(hT.leads d1 x hx _ (bM hn)).2;exact absurd h0.symm this
   ·obtain⟨d2,y,m,-,hl2,hy,_,hm,_,e2⟩:=dH hq h2;obtain⟨hab,hnm⟩:=yT hT hx hn hy hm hd;subst hab hnm;have hlen:p.dropLast.length<p.length:=by
     rw[abN];have:p.length≠0:=fun e=>h1 (aad e);omega
    match l,hl with
    |0,hl=>exact absurd (aad (by omega)) h1
    |l+1,hl=>
     have:=qm hT l p.dropLast q.dropLast d1 (by omega) hl1 hl2 ((dh hx).trans hxk);rw[e1,e2,this]
def LQ(T:aA)(id d:Int):Prop:=∃q,aG T id q=(d,0)
theorem Og{T:aA}(hT:dZ T):∀(q:List Nm) (id d:Int) (x:bJ) (e:Nm×Int) (n:Nat),aG T id q=(d,0)→aj d T=some x→e∈x.names→q.length<n→q.length+1≤kr T n id
 |[],id,d,x,e,n+1,hl,hx,he,hn=>by
  have:id=d:=aaF Prod.fst hl;subst this;have:1+kr T n e.2≤maxD (kr T n) (aU T id):=Co _ (by rw[dX hx];exact he);show 0+1≤maxD (kr T n) (aU T id);omega
 |m::r,id,d,x,e,n+1,hl,hx,he,hn=>by
  obtain⟨y,k,hy,hyk,hm,hl⟩:=pO hl;rw[List.length_cons]at hn;have h1:=Og hT r k d x e n hl hx he (by omega);have:1+kr T n k≤maxD (kr T n) (aU T id):=Co (kr T n) (e:=(m,k)) (by rw[dX hy];exact bM hm);show(m::r).length+1≤maxD (kr T n) (aU T id);rw[List.length_cons];omega
 |q,_,_,_,_,0,_,_,_,hn=>by omega
def nV(p q:List Nm):Bool:=decide (p.take q.length=q)
def nW(T:aA)(p tq:List Nm):Int:=
 if oV p tq≠0 then oV p tq else
 if (aG T 0 p).2≠0 then(aG T 0 p).2 else
 if (aG T 0 p).1=0 then 1 else
 if (aH T tq).2.2≠0 then(aH T tq).2.2 else
 if bI T (aG T 0 p).1=2∧nV tq p=true then 1 else
 match aj (aH T tq).2.1 (aU T (aH T tq).1)with
 |some k=>if k=(aG T 0 p).1 then 0 else 21
 |none=>if 8<tq.length+kr T 8 (aG T 0 p).1 then 3 else 0
def yU(T:aA)(p tq:List Nm):aA:=setName (aK T (aH T p).1 (aH T p).2.1) (aH T tq).1 (aH T tq).2.1 (aG T 0 p).1
def eF(T:aA)(p tq:List Nm):Int×aA:=
 (nW T p tq,if nW T p tq=0∧(aj (aH T tq).2.1 (aU T (aH T tq).1)).isSome=false then yU T p tq else T)
theorem dZ.move{T:aA}(h:dZ T){d1 d2 id:Int}{x1 x2:bJ}{n1 n2:Nm}(hx1:aj d1 T=some x1)(hk1:x1.kind=2)(hn1:aj n1 x1.names=some id)(hx2:aj d2 T=some x2)(hk2:x2.kind=2)(hg2:bT n2=true)(hn2:aj n2 x2.names=none):
  dZ (setName (aK T d1 n1) d2 n2 id):=by
 have hid:=h.leads d1 x1 hx1 _ (bM hn1);have hP:=h.towP.cut (n:=n1) hx1 hk1;obtain⟨x3,hx3,hk3,TL⟩:∃x3,aj d2 (aK T d1 n1)=some x3∧x3.kind=2∧aj n2 x3.names=none:=by
  unfold aK;rw[bf];by_cases hd:d2=d1
  ·subst hd;rw[hx1]at hx2;cases hx2;rw[if_pos rfl,hx1];refine⟨_,rfl,hk1,?_⟩;show aj n2 (bP n1 x1.names)=none;rw[eP];split
   ·rfl
   ·exact hn2
  ·rw[if_neg hd];exact⟨x2,hx2,hk2,hn2⟩
 have hid3:(aj id (aK T d1 n1)).isSome=true:=by
  unfold aK;rw[bf];split<;>simp[hid.1]
 refine⟨hP.set hx3 hk3 hg2 ⟨hid3,hid.2⟩,fun j z hz hj=> ?_⟩;have h1:=rX h.towP hx1 hn1 j;have h2:=nH hP.sorted (fun x=>{x with names:=b_ bytesBefore n2 id x.names}) hx3 j;have h3:=Lv (id:=id) TL j;have e:fV (setName (aK T d1 n1) d2 n2 id) j=fV T j:=by
  unfold setName;omega
 rw[e];unfold setName at hz;rw[bf]at hz;obtain⟨z1,hz1,hl1⟩:∃z1,aj j (aK T d1 n1)=some z1∧z.links=z1.links:=by
  by_cases hjd:j=d2
  ·rw[if_pos hjd]at hz;cases hq:aj j (aK T d1 n1)with
   |none=>rw[hq]at hz;cases hz
   |some z1=>
    rw[hq]at hz;simp only[aao,Pd]at hz;exact⟨z1,rfl,by rw[←hz]⟩
  ·rw[if_neg hjd]at hz;exact⟨z,hz,rfl⟩
 obtain⟨z2,hz2,hl2,_⟩:=G8 hz1;rw[hl1,hl2];exact h.counts j z2 hz2 hj
theorem Jq{T:aA}(hT:dZ T){id a k:Int}{x:bJ}{n:Nm}(hx:aj a T=some x)(hn:aj n x.names=some k)(hk:bI T k=2)(hki:k≠id):LQ T id k↔LQ T id a:=by
 constructor
 ·rintro ⟨q,hq⟩;rcases List.eq_nil_or_concat q with rfl|⟨r,m,rfl⟩
  ·exact absurd (aaF Prod.fst hq).symm hki
  ·rw[List.concat_eq_append,iG]at hq;by_cases he:(aG T id r).2=0
   ·rw[if_pos he]at hq;obtain⟨y,j,hy,hyk,hm,hl⟩:=pO hq;have:j=k:=aaF Prod.fst hl;subst this;obtain⟨hab,_⟩:=yT hT hx hn hy hm hk;exact⟨r,aaE hab.symm he⟩
   ·rw[if_neg he]at hq;rw[hq]at he;exact absurd rfl he
 ·rintro ⟨q,hq⟩;refine⟨q++[n],?_⟩;rw[iG,hq];simp only[if_pos];have:=nL hT hx (bM hn);simp only[aG,hx,if_pos this,hn]
theorem Dn{T:aA}{d1 d2 id:Int}{n1 n2:Nm}{a:Int}{x:bJ}(h:aj a (setName (aK T d1 n1) d2 n2 id)=some x):∃y,aj a T=some y∧x.kind=y.kind∧∀e∈x.names,(e∈y.names∧¬(a=d1∧e.1=n1))∨(a=d2∧e=(n2,id)):=by
 obtain⟨z,hz,hk,hc⟩:∃z,aj a (aK T d1 n1)=some z∧x.kind=z.kind∧∀e∈x.names,e∈z.names∨(a=d2∧e=(n2,id)):=by
  unfold setName at h;rw[bf]at h;by_cases hd:a=d2
  ·rw[if_pos hd]at h;cases hz:aj a (aK T d1 n1)with
   |none=>rw[hz]at h;cases h
   |some z=>
    rw[hz]at h;simp only[aao,Pd]at h;refine⟨z,rfl,by rw[←h],fun e he=> ?_⟩;rw[←h]at he;rcases (pX bytesBefore).1 he with h2|h2
    ·exact .inr ⟨hd,h2⟩
    ·exact .inl (aar.1 h2).1
  ·rw[if_neg hd]at h;exact⟨x,h,rfl,fun e he=> .inl he⟩
 unfold aK at hz;rw[bf]at hz;by_cases hd:a=d1
 ·rw[if_pos hd]at hz;cases hy:aj a T with
  |none=>rw[hy]at hz;cases hz
  |some y=>
   rw[hy]at hz;simp only[aao,Pd]at hz;refine⟨y,rfl,by rw[hk,←hz],fun e he=> ?_⟩;rcases hc e he with h1|h1
   ·rw[←hz]at h1;have h2:=aar.1 h1;refine .inl ⟨h2.1,fun h3=> ?_⟩;have:=h2.2;simp[h3.2]at this
   ·exact .inr h1
 ·rw[if_neg hd]at hz;refine⟨z,hz,hk,fun e he=> ?_⟩;rcases hc e he with h1|h1
  ·exact .inl ⟨h1,fun h=>hd h.1⟩
  ·exact .inr h1
theorem Ad{T:aA}{d:Int}{f:bJ→bJ}(hf:∀x,(f x).kind=x.kind)(k:Int):bI (bC d f T) k=bI T k:=by
 unfold bI;rw[bf];by_cases h:k=d
 ·rw[if_pos h];cases aj k T with
  |none=>rfl
  |some y=>exact hf y
 ·rw[if_neg h]
theorem FT{T:aA}{d1 d2 id:Int}{n1 n2:Nm}(k:Int):bI (setName (aK T d1 n1) d2 n2 id) k=bI T k:=by
 unfold setName aK;exact(Ad (fun _=>by exact rfl) k).trans (Ad (fun _=>by exact rfl) k)
open Classical in
theorem fC.move{T:aA}{dep:Int→Nat}(h:fC T dep)(hT:dZ T){p tq:List Nm}{id dt:Int}{nt:Nm}(hp:aG T 0 p=(id,0))(h0:id≠0)(hto:aH T tq=(dt,nt,0))(hf:tq.length≤8)(hw:bI T id=2→nV tq p=false∧tq.length+kr T 8 id≤8):
  ∃dep',fC (setName (aK T (aH T p).1 (aH T p).2.1) dt nt id) dep':=by
 have hpn:p≠[]:=fun e=>by subst e;exact h0 (aaF Prod.fst hp).symm
 obtain⟨d1,x1,n1,e1,hl1,hx1,hk1,hn1,_,ep⟩:=dH hp hpn;rw[e1];obtain⟨hln,hlt,hkt⟩:tq≠[]∧aG T 0 tq.dropLast=(dt,0)∧bI T dt=2:=by
  unfold aH at hto;by_cases ht0:tq=[]
  ·rw[if_pos ht0]at hto;cases hto
  ·rw[if_neg ht0]at hto;by_cases ht1:(aG T 0 tq.dropLast).2≠0
   ·rw[if_pos ht1]at hto;exact absurd (aaF (·.2.2) hto) ht1
   ·rw[if_neg ht1]at hto;by_cases ht2:bI T (aG T 0 tq.dropLast).1=2
    ·rw[if_pos ht2]at hto;have h3:(aG T 0 tq.dropLast).1=dt:=aaF Prod.fst hto;exact⟨ht0,aaE h3 (by simpa using ht1),h3▸ht2⟩
    ·rw[if_neg ht2]at hto;cases hto
 have hdt:=vB h _ 0 dt hlt hkt;rw[h.zero,abN]at hdt;have htl:tq.length≠0:=fun e=>hln (aad e);by_cases hk:bI T id=2
 ·obtain⟨hw1,hw2⟩:=hw hk;have hdid:=vB h p 0 id hp hk;rw[h.zero]at hdid;have hnt:¬LQ T id dt:=by
   rintro ⟨q,hq⟩;have h3:aG T 0 (p++q)=(dt,0):=by rw[iG,hp];simp only[if_pos];exact hq
   have h4:=qm hT _ _ _ dt acu hlt h3 hkt;have h5:tq.take p.length=p:=by
    have h6:tq.dropLast.take p.length=p:=by rw[h4,List.take_left]
    have h7:p.length≤tq.length-1:=by
     have:=aaF List.length h4;rw[abN,List.length_append]at this;omega
    rw[List.dropLast_eq_take,List.take_take,Nat.min_eq_left h7]at h6;exact h6
   unfold nV at hw1;rw[h5]at hw1;simp at hw1
  refine⟨fun d=>if LQ T id d then dep d+tq.length-p.length else dep d,?_,fun d x hx e he=> ?_⟩
  ·have:¬LQ T id 0:=by
    rintro ⟨q,hq⟩;have h3:aG T 0 (p++q)=(0,0):=by rw[iG,hp];simp only[if_pos];exact hq
    have h4:=qm hT 0 [] _ 0 acu rfl h3 hT.root;have:=aaF List.length h4;rw[List.length_append]at this;exact hpn (aad (by simp at this;omega))
   simp only[if_neg this,h.zero]
  ·obtain⟨y,hy,hxy,hnm⟩:=Dn hx;rw[FT];rcases hnm e he with⟨hey,hne⟩|⟨hd,hee⟩
   ·have hup:=h.up d y hy e hey;have hyk:=nL hT hy hey;have hn:=aS uO (hT.each d y hy).sorted hey;by_cases hD:LQ T id d
    ·obtain⟨q,hq⟩:=hD;have h3:=vB h q id d hq ((dh hy).trans hyk);have hq8:q.length<8:=by have:=hup.1;omega
     have h4:=Og hT q id d y e 8 hq hy hey hq8;simp only[if_pos (show LQ T id d from⟨q,hq⟩)];refine⟨by omega,fun hek=> ?_⟩;have ZB:e.2≠id:=fun h5=>by
      obtain⟨h6,h7⟩:=yT hT hx1 hn1 hy (by rw[←h5];exact hn) hk;exact hne ⟨h6.symm,h7.symm⟩
     have:=hup.2 hek;rw[if_pos ((Jq hT hy hn hek ZB).2 ⟨q,hq⟩)];omega
    ·simp only[if_neg hD];refine⟨hup.1,fun hek=> ?_⟩;have ZB:e.2≠id:=fun h5=>by
      obtain⟨h6,h7⟩:=yT hT hx1 hn1 hy (by rw[←h5];exact hn) hk;exact hne ⟨h6.symm,h7.symm⟩
     rw[if_neg (fun h6=>hD ((Jq hT hy hn hek ZB).1 h6))];exact hup.2 hek
   ·subst hd hee;simp only[if_neg hnt];refine⟨by omega,fun _=> ?_⟩;rw[if_pos ⟨[],rfl⟩];omega
 ·refine⟨dep,h.zero,fun d x hx e he=> ?_⟩;obtain⟨y,hy,hxy,hnm⟩:=Dn hx;rw[FT];rcases hnm e he with⟨hey,_⟩|⟨hd,hee⟩
  ·exact h.up d y hy e hey
  ·subst hd hee;exact⟨by omega,fun h3=>absurd h3 hk⟩
theorem LU{T:aA}{tq:List Nm}{dt:Int}{nt:Nm}(hto:aH T tq=(dt,nt,0)):tq≠[]∧aG T 0 tq.dropLast=(dt,0)∧bI T dt=2:=by
 unfold aH at hto;by_cases ht0:tq=[]
 ·rw[if_pos ht0]at hto;cases hto
 ·rw[if_neg ht0]at hto;by_cases ht1:(aG T 0 tq.dropLast).2≠0
  ·rw[if_pos ht1]at hto;exact absurd (aaF (·.2.2) hto) ht1
  ·rw[if_neg ht1]at hto;by_cases ht2:bI T (aG T 0 tq.dropLast).1=2
   ·rw[if_pos ht2]at hto;have h3:(aG T 0 tq.dropLast).1=dt:=aaF Prod.fst hto;exact⟨ht0,aaE h3 (by simpa using ht1),h3▸ht2⟩
   ·rw[if_neg ht2]at hto;cases hto
theorem fC.place{T:aA}{dep:Int→Nat}(h:fC T dep){tq:List Nm}{dt:Int}{nt:Nm}(hto:aH T tq=(dt,nt,0))(hf:tq.length≤8):dep dt<8:=by
 obtain⟨h1,h2,h3⟩:=LU hto;have:=vB h _ 0 dt h2 h3;rw[h.zero,abN]at this;have:tq.length≠0:=fun e=>h1 (aad e);omega
def Sub(T' T:aA):Prop:=∀d x,aj d T'=some x→∃y,aj d T=some y∧x.kind=y.kind∧∀e∈x.names,e∈y.names
theorem Sub.refl(T:aA):Sub T T:=fun d x h=>⟨x,h,rfl,fun _ he=>he⟩
theorem Sub.trans{A B C:aA}(h:Sub A B)(k:Sub B C):Sub A C:=fun d x hx=>by
 obtain⟨y,hy,h1,h2⟩:=h d x hx;obtain⟨z,hz,h3,h4⟩:=k d y hy;exact⟨z,hz,h1.trans h3,fun e he=>h4 e (h2 e he)⟩
theorem Sub.bC{T:aA}{k:Int}{f:bJ→bJ}(h1:∀x,(f x).kind=x.kind)(h2:∀x,∀e∈(f x).names,e∈x.names):Sub (Go.Proofs.YtjnhnlabpccgjaaGreatDoor.bC k f T) T:=fun d x hx=>by
 rw[bf]at hx;by_cases hd:d=k
 ·rw[if_pos hd]at hx;cases hy:aj d T with
  |none=>rw[hy]at hx;cases hx
  |some y=>
   rw[hy]at hx;simp only[aao,Pd]at hx;exact⟨y,rfl,by rw[←hx];exact h1 y,fun e he=>h2 y e (by rw[hx];exact he)⟩
 ·rw[if_neg hd]at hx;exact⟨x,hx,rfl,fun _ he=>he⟩
theorem Sub.del{T:aA}(k:Int):Sub (bP k T) T:=fun d x hx=>by
 rw[eP]at hx;split at hx
 ·cases hx
 ·exact⟨x,hx,rfl,fun _ he=>he⟩
theorem Sub.settle{T:aA}(k:Int):Sub (gY T k) T:=by
 unfold gY;cases aj k T with
 |none=>exact Sub.refl T
 |some x=>
  simp only;split
  ·exact Sub.del k
  ·exact Sub.refl T
theorem Sub.cut{T:aA}(d:Int)(n:Nm):Sub (aK T d n) T:=Sub.bC (fun _=>by exact rfl) fun x e he=>(aar.1 he).1
theorem fC.sub{T T':aA}{dep:Int→Nat}(h:fC T dep)(hs:Sub T' T):fC T' dep:=by
 refine⟨h.zero,fun d x hx e he=> ?_⟩;obtain⟨y,hy,_,hn⟩:=hs d x hx;have h1:=h.up d y hy e (hn e he);refine⟨h1.1,fun hk=>h1.2 ?_⟩;obtain⟨z,hz,hzk⟩:=gJ hk;obtain⟨u,hu,huk,_⟩:=hs _ z hz;rw[dh hu,←huk];exact hzk
theorem Dp{T:aA}{d id a:Int}{n:Nm}{x:bJ}(h:aj a (setName T d n id)=some x):∃y,aj a T=some y∧x.kind=y.kind∧∀e∈x.names,e∈y.names∨(a=d∧e=(n,id)):=by
 unfold setName at h;rw[bf]at h;by_cases hd:a=d
 ·rw[if_pos hd]at h;cases hz:aj a T with
  |none=>rw[hz]at h;cases h
  |some z=>
   rw[hz]at h;simp only[aao,Pd]at h;refine⟨z,rfl,by rw[←h],fun e he=> ?_⟩;rw[←h]at he;rcases (pX bytesBefore).1 he with h2|h2
   ·exact .inr ⟨hd,h2⟩
   ·exact .inl (aar.1 h2).1
 ·rw[if_neg hd]at h;exact⟨x,h,rfl,fun e he=> .inl he⟩
theorem Jr{T:aA}{d id:Int}{n:Nm}(k:Int):bI (setName T d n id) k=bI T k:=by
 unfold setName;exact Ad (fun _=>by exact rfl) k
theorem fC.link{T:aA}{dep:Int→Nat}(h:fC T dep){d id:Int}{n:Nm}(hd:dep d<8)(hk:bI T id≠2):fC (setName T d n id) dep:=by
 refine⟨h.zero,fun a x hx e he=> ?_⟩;rw[Jr];obtain⟨y,hy,_,hn⟩:=Dp hx;rcases hn e he with h1|⟨h1,h2⟩
 ·exact h.up a y hy e h1
 ·subst h1 h2;exact⟨hd,fun h3=>absurd h3 hk⟩
theorem fC.make{T:aA}{dep:Int→Nat}(h:fC T dep)(hT:dZ T){d f kind:Int}{n:Nm}(hd:dep d<8)(hf:aj f T=none)(hf0:f≠0)(hdt:(aj d T).isSome=true):∃dep',fC (setName (b_ iA f (cu kind) T) d n f) dep':=by
 refine⟨fun k=>if k=f then dep d+1 else dep k,by simp only[if_neg (aaT hf0),h.zero],fun a x hx e he=> ?_⟩;have hdf:d≠f:=fun e=>by rw[e,hf]at hdt;cases hdt
 obtain⟨y,hy,_,hn⟩:=Dp hx;rw[Jr];rcases vo hT.sorted hy with⟨h1,h2⟩|⟨h1,h2⟩
 ·rcases hn e he with h3|⟨h3,h4⟩
  ·rw[h2]at h3;cases h3
  ·exact absurd (h3.symm.trans h1) hdf
 ·rcases hn e he with h3|⟨h3,h4⟩
  ·have hup:=h.up a y h2 e h3;have hl:=(hT.leads a y h2 e h3).1;have hef:e.2≠f:=fun e5=>by rw[e5,hf]at hl;cases hl
   simp only[if_neg h1,if_neg hef];have:bI (b_ iA f (cu kind) T) e.2=bI T e.2:=by unfold bI;rw[eO,if_neg hef]
   rw[this];exact hup
  ·subst h3 h4;simp only[if_neg h1,if_pos];exact⟨hd,fun _=>trivial⟩
def fZ(T:aA):Prop:=dZ T∧∃dep,fC T dep
def Oh(T:aA):Prop:=OkW T∧∃dep,fC T dep
theorem fZ.w{T:aA}(h:fZ T):Oh T:=⟨h.1.w,h.2⟩
instance{T:aA}:Coe (fZ T) (Oh T):=⟨fZ.w⟩
theorem fZ.new:fZ wO:=by
 refine⟨Xh,fun _=>0,rfl,fun d x hx e he=> ?_⟩;unfold wO at hx;rw[fF]at hx;by_cases hk:(0:Int)=d
 ·rw[if_pos hk]at hx;cases hx;cases he
 ·rw[if_neg hk]at hx;cases hx
theorem fZ.TJ{T:aA}(h:fZ T)(d:Int):Dm T 8 d:=by
 obtain⟨h1,dep,h2⟩:=h;exact h2.ZA h1 d
theorem fZ.bZ{T:aA}(h:fZ T)(ls:List Nm)(kind:Int):fZ (bZ T ls kind).2:=by
 obtain⟨h1,dep,h2⟩:=h;refine⟨h1.bZ ls kind,?_⟩;unfold Go.Proofs.YtjnhnlabpccgjaaGreatDoor.bZ;by_cases he:kS T ls kind=0
 ·rw[if_pos he];obtain⟨a1,a2,a3,a4,a5⟩:=Df h1 he;obtain⟨x,hx,hk,hm⟩:=jM h1 a3;obtain⟨f,hf,hf1,hf2,hfn,_⟩:=h1.free;show ∃dep,fC (vg T ls kind) dep;unfold vg;rw[hf];exact h2.make h1 (h2.place (nt:=(aH T ls).2.1) (aaE rfl (aaE rfl a3)) (wm a1)) hfn (by omega) (by rw[hx];rfl)
 ·rw[if_neg he];exact⟨dep,h2⟩
theorem fZ.kW{T:aA}(h:fZ T)(p tq:List Nm):fZ (kW T p tq).2:=by
 obtain⟨h1,dep,h2⟩:=h;refine⟨h1.kW p tq,?_⟩;unfold Go.Proofs.YtjnhnlabpccgjaaGreatDoor.kW;by_cases he:wT T p tq=0
 ·simp only[if_pos he];obtain⟨a1,a2,a3,a4,a5,a6⟩:=Dg he;have h3:=h2.link (n:=(aH T tq).2.1) (h2.place (nt:=(aH T tq).2.1) (aaE rfl (aaE rfl a4)) (wm (sU a1).2)) a3;unfold GY;exact⟨dep,h3.sub (Sub.bC (fun _=>by exact rfl) fun x e he=>he)⟩
 ·simp only[if_neg he];exact⟨dep,h2⟩
theorem fZ.bL{T:aA}(h:fZ T)(p:List Nm):fZ (bL T p).2:=by
 obtain⟨h1,dep,h2⟩:=h;refine⟨h1.bL p,dep,?_⟩;unfold Go.Proofs.YtjnhnlabpccgjaaGreatDoor.bL;simp only;split
 ·unfold rU;exact h2.sub ((Sub.settle _).trans ((Sub.bC (f:=fun x=>{x with links:=x.links-1}) (fun _=>by exact rfl) fun x e he=>he).trans (Sub.cut _ _)))
 ·exact h2
theorem fZ.iC{T:aA}(h:fZ T)(p:List Nm):fZ (iC T p).2:=by
 obtain⟨h1,dep,h2⟩:=h;refine⟨h1.iC p,dep,?_⟩;unfold Go.Proofs.YtjnhnlabpccgjaaGreatDoor.iC;simp only;split
 ·unfold Cg;exact h2.sub ((Sub.del _).trans (Sub.cut _ _))
 ·exact h2
theorem fZ.cK{T:aA}(h:fZ T)(id:Int)(b:List UInt8):fZ (cK T id b).2:=by
 obtain⟨h1,dep,h2⟩:=h;refine⟨h1.cK id b,dep,?_⟩;unfold Go.Proofs.YtjnhnlabpccgjaaGreatDoor.cK;simp only;split
 ·exact h2.sub (Sub.bC (fun _=>by exact rfl) fun x e he=>he)
 ·exact h2
theorem fZ.dY{T:aA}(h:fZ T)(id aF:Int)(h0:0≤aF):fZ (dY T id aF).2:=by
 obtain⟨h1,dep,h2⟩:=h;refine⟨h1.dY id aF h0,dep,?_⟩;unfold Go.Proofs.YtjnhnlabpccgjaaGreatDoor.dY;simp only;split
 ·exact h2.sub ((Sub.settle _).trans (Sub.bC (fun _=>by exact rfl) fun x e he=>he))
 ·exact h2
theorem fZ.jA{T:aA}(h:fZ T)(id aF:Int)(h0:0≤aF):fZ (jA T id aF).2:=by
 obtain⟨h1,dep,h2⟩:=h;refine⟨h1.jA id aF h0,dep,?_⟩;unfold Go.Proofs.YtjnhnlabpccgjaaGreatDoor.jA;simp only;split
 ·exact h2.sub (Sub.bC (fun _=>by exact rfl) fun x e he=>he)
 ·exact h2
def fO(T:aA)(id:Int):aA:=T.map fun q=>(q.1,{q.2 with names:=q.2.names.filter fun e=> !decide (e.2=id)})
theorem rY(T:aA)(id:Int):zT T id=bP id (fO T id):=rfl
def gT(id:Int)(x:bJ):bJ:={x with names:=x.names.filter fun e=> !decide (e.2=id)}
theorem jr(T:aA)(id k:Int):aj k (fO T id)=(aj k T).map (gT id):=CP (gT id) k T
theorem TM(id j:Int)(x:bJ):cn j (gT id x)=if j=id then 0 else cn j x:=by
 unfold cn gT;simp only;rw[List.countP_filter];by_cases h:j=id
 ·subst h;rw[if_pos rfl,abU];intro e _;simp
 ·rw[if_neg h];apply List.countP_congr;intro e _;simp only[aaW,aah,Bool.not_eq_true',aa8];exact⟨fun h1=>h1.1,fun h1=>⟨h1,fun h2=>h (h1.symm.trans h2)⟩⟩
theorem Dq(T:aA)(id j:Int):fV (fO T id) j=if j=id then 0 else fV T j:=by
 induction T with
 |nil=>simp[fV,fO]
 |cons y r ih=>
  have e1:fV (fO (y::r) id) j=cn j (gT id y.2)+fV (fO r id) j:=by
   unfold fV fO gT;simp
  have e2:fV (y::r) j=cn j y.2+fV r j:=by unfold fV;simp
  rw[e1,e2,ih,TM];split<;>simp
theorem CV.strip{T:aA}(h:CV T)(id:Int):CV (fO T id):=by
 have hget:∀k x,aj k (fO T id)=some x→∃y,aj k T=some y∧x=gT id y:=fun k x hx=>by
  rw[jr]at hx;cases hy:aj k T with
  |none=>rw[hy]at hx;cases hx
  |some y=>
   rw[hy]at hx;simp only[aao,Pd]at hx;exact⟨y,rfl,hx.symm⟩
 refine⟨?_,?_,fun k x hx=> ?_,fun k x hx e he=> ?_,by unfold fO;rw[List.length_map];exact h.len,fun k x hx=> ?_⟩
 ·have:=h.sorted;unfold aI fO at*;rw[abk];exact this
 ·obtain⟨x,hx,hk⟩:=gJ h.root;unfold bI;rw[jr,hx];exact hk
 ·obtain⟨y,hy,rfl⟩:=hget k x hx;have o:=h.each k y hy;refine⟨o.kind,fun h1=> ?_,o.dir,o.gone,?_,fun e he=>o.good e (aar.1 he).1,o.size,o.links,o.aF⟩
  ·unfold gT;simp only;rw[o.file h1];rfl
  ·exact abL _ o.sorted
 ·obtain⟨y,hy,rfl⟩:=hget k x hx;have:=h.leads k y hy e (aar.1 he).1;refine⟨?_,this.2⟩;rw[jr];obtain⟨z,hz⟩:=aaf.1 this.1;rw[hz];rfl
 ·obtain⟨y,hy,rfl⟩:=hget k x hx;exact h.ids k y hy
theorem wP.strip{T:aA}(h:wP T)(id:Int):wP (fO T id):=
 wP.of_w (h.w.strip id) fun k x hx=>by
  rw[jr]at hx;cases hy:aj k T with
  |none=>rw[hy]at hx;cases hx
  |some y=>
   rw[hy]at hx;simp only[aao,Pd]at hx;subst hx;exact(h.each k y hy).links.2
theorem Sub.strip(T:aA)(id:Int):Sub (fO T id) T:=fun d x hx=>by
 rw[jr]at hx;cases hy:aj d T with
 |none=>rw[hy]at hx;cases hx
 |some y=>
  rw[hy]at hx;simp only[aao,Pd]at hx;subst hx;exact⟨y,rfl,rfl,fun e he=>(aar.1 he).1⟩
theorem Dt{T:aA}{id:Int}(h:jf T id=0):∃x,aj id T=some x∧x.kind≠2∧x.closed=false:=by
 unfold jf at h;cases hx:aj id T with
 |none=>rw[hx]at h;cases h
 |some x=>
  rw[hx]at h;simp only at h;by_cases hk:x.kind=2
  ·rw[if_pos hk]at h;cases h
  ·rw[if_neg hk]at h;cases hc:x.closed with
   |true=>rw[hc]at h;cases h
   |false=>exact⟨x,rfl,hk,hc⟩
theorem OkW.dO{T:aA}(h:OkW T)(id:Int):OkW (dO T id).2:=by
 unfold Go.Proofs.YtjnhnlabpccgjaaGreatDoor.dO;by_cases he:jf T id=0
 ·simp only[if_pos he];obtain⟨x,hx,hk,_⟩:=Dt he;have h0:id≠0:=fun e=>by
   have hr:=h.root;unfold bI at hr;rw[←e,hx]at hr;exact hk hr
  have hnil:=(h.each id x hx).file ((h.each id x hx).kind.resolve_right hk);have hS:=h.toCV.strip id;have hx':aj id (fO T id)=some (gT id x):=by rw[jr,hx];rfl
  have hn':(gT id x).names=[]:=by unfold gT;simp only;rw[hnil];rfl
  rw[rY];refine⟨hS.del hx' h0 (by rw[Dq,if_pos rfl]),fun j y hy hj=> ?_⟩;have hji:j≠id:=fun e=>by subst e;rw[pY]at hy;cases hy
  rw[eP,if_neg hji,jr]at hy;cases hz:aj j T with
  |none=>rw[hz]at hy;cases hy
  |some z=>
   rw[hz]at hy;simp only[aao,Pd]at hy;have h1:=zW hS.sorted hx' j;have h2:cn j (gT id x)=0:=by unfold cn;rw[hn'];rfl
   have h3:=Dq T id j;rw[if_neg hji]at h3;have h4:=h.counts j z hz hj;have h5:y.links=z.links:=by rw[←hy];rfl
   omega
 ·simp only[if_neg he];exact h
theorem dZ.dO{T:aA}(h:dZ T)(id:Int):dZ (dO T id).2:=by
 have hw:=h.w.dO id;refine⟨wP.of_w hw.toCV fun k x hx=> ?_,hw.counts⟩;unfold Go.Proofs.YtjnhnlabpccgjaaGreatDoor.dO at hx;simp only at hx;split at hx
 ·rw[rY,eP]at hx;split at hx
  ·cases hx
  ·rw[jr]at hx;cases hy:aj k T with
   |none=>rw[hy]at hx;cases hx
   |some y=>
    rw[hy]at hx;simp only[aao,Pd]at hx;subst hx;exact(h.each k y hy).links.2
 ·exact(h.each k x hx).links.2
theorem fZ.dO{T:aA}(h:fZ T)(id:Int):fZ (dO T id).2:=by
 obtain⟨h1,dep,h2⟩:=h;refine⟨h1.dO id,dep,?_⟩;unfold Go.Proofs.YtjnhnlabpccgjaaGreatDoor.dO;simp only;split
 ·rw[rY];exact h2.sub ((Sub.del _).trans (Sub.strip _ _))
 ·exact h2
theorem G_{T:aA}{p tq:List Nm}(h:nW T p tq=0):oV p tq=0∧(aG T 0 p).2=0∧(aG T 0 p).1≠0∧(aH T tq).2.2=0∧(bI T (aG T 0 p).1=2→nV tq p=false)∧(aj (aH T tq).2.1 (aU T (aH T tq).1)=none→tq.length+kr T 8 (aG T 0 p).1≤8):=by
 unfold nW at h;by_cases h1:oV p tq≠0
 ·rw[if_pos h1]at h;exact absurd h h1
 ·rw[if_neg h1]at h;by_cases h2:(aG T 0 p).2≠0
  ·rw[if_pos h2]at h;exact absurd h h2
  ·rw[if_neg h2]at h;by_cases h3:(aG T 0 p).1=0
   ·rw[if_pos h3]at h;cases h
   ·rw[if_neg h3]at h;by_cases h4:(aH T tq).2.2≠0
    ·rw[if_pos h4]at h;exact absurd h h4
    ·rw[if_neg h4]at h;by_cases h5:bI T (aG T 0 p).1=2∧nV tq p=true
     ·rw[if_pos h5]at h;cases h
     ·rw[if_neg h5]at h;refine⟨by omega,by omega,h3,by omega,fun h6=> ?_,fun h6=> ?_⟩
      ·cases hw:nV tq p with
       |false=>rfl
       |true=>exact absurd ⟨h6,hw⟩ h5
      ·rw[h6]at h;simp only at h;split at h
       ·cases h
       ·omega
theorem fZ.eF{T:aA}(h:fZ T)(p tq:List Nm):fZ (eF T p tq).2:=by
 unfold Go.Proofs.YtjnhnlabpccgjaaGreatDoor.eF;simp only;by_cases hc:nW T p tq=0∧(aj (aH T tq).2.1 (aU T (aH T tq).1)).isSome=false
 ·rw[if_pos hc];obtain⟨h1,dep,h2⟩:=h;obtain⟨a1,a2,a3,a4,a5,a6⟩:=G_ hc.1;have hn:aj (aH T tq).2.1 (aU T (aH T tq).1)=none:=by simpa using hc.2
  have hlk:aG T 0 p=((aG T 0 p).1,0):=aaE rfl a2;have hpl:aH T tq=((aH T tq).1,(aH T tq).2.1,0):=aaE rfl (aaE rfl a4);obtain⟨x2,hx2,hk2,hm2⟩:=jM h1 a4;have hpn:p≠[]:=fun e=>a3 (by rw[e];rfl);obtain⟨d1,x1,n1,e1,hl1,hx1,hk1,hn1,_,ep⟩:=dH hlk hpn;have hf:=sU a1;unfold yU;refine⟨?_,h2.move h1 hlk a3 hpl (wm hf.2) fun hk=>⟨a5 hk,a6 hn⟩⟩;rw[e1];rw[dX hx2]at hn;exact h1.move hx1 hk1 hn1 hx2 hk2 (qh hf.2 _ hm2) hn
 ·rw[if_neg hc];exact h
end Go.Proofs.YtjnhnlabpccgjaaGreatDoor
