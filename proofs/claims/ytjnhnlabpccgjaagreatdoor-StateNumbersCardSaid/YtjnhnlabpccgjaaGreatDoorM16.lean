/- What -/
import Derived.Test.YtjnhnlabpccgjaaGreatDoorM15
set_option maxRecDepth 100000
set_option maxHeartbeats 64000000
set_option linter.all false
namespace Go.Proofs.YtjnhnlabpccgjaaGreatDoor
open Go.ChangeShapes Go.WideShapes Go.ChangeAt Go.RowKit
theorem LA{T:aL}{tq:List Nm}{dt:Int}{nt:Nm}(hto:aH T tq=(dt,nt,0)):tq≠[]∧aJ T 0 tq.dropLast=(dt,0)∧dL T dt=2:=by
 unfold aH at hto;by_cases ht0:tq=[]
 ·rw[if_pos ht0]at hto;cases hto
 ·rw[if_neg ht0]at hto;by_cases ht1:(aJ T 0 tq.dropLast).2≠0
  ·rw[if_pos ht1]at hto;exact absurd (aaT (·.2.2) hto) ht1
  ·rw[if_neg ht1]at hto;by_cases ht2:dL T (aJ T 0 tq.dropLast).1=2
   ·rw[if_pos ht2]at hto;have h3:(aJ T 0 tq.dropLast).1=dt:=aaT Prod.fst hto;exact⟨ht0,aaO h3 (by simpa using ht1),h3▸ht2⟩
   ·rw[if_neg ht2]at hto;cases hto
theorem iw.place{T:aL}{dep:Int→Nat}(h:iw T dep){tq:List Nm}{dt:Int}{nt:Nm}(hto:aH T tq=(dt,nt,0))(hf:tq.length≤8):dep dt<8:=by
 obtain⟨h1,h2,h3⟩:=LA hto;have:=vJ h _ 0 dt h2 h3;rw[h.zero,ace]at this;have:tq.length≠0:=fun e=>h1 (aai e);omega
def Sub(T' T:aL):Prop:=∀d x,aj d T'=some x→∃y,aj d T=some y∧x.kind=y.kind∧∀e∈x.names,e∈y.names
theorem Sub.refl(T:aL):Sub T T:=fun d x h=>⟨x,h,rfl,fun _ he=>he⟩
theorem Sub.trans{A B C:aL}(h:Sub A B)(k:Sub B C):Sub A C:=fun d x hx=>by
 obtain⟨y,hy,h1,h2⟩:=h d x hx;obtain⟨z,hz,h3,h4⟩:=k d y hy;exact⟨z,hz,h1.trans h3,fun e he=>h4 e (h2 e he)⟩
theorem Sub.bq{T:aL}{k:Int}{f:bP→bP}(h1:∀x,(f x).kind=x.kind)(h2:∀x,∀e∈(f x).names,e∈x.names):Sub (Go.Proofs.YtjnhnlabpccgjaaGreatDoor.bq k f T) T:=fun d x hx=>by
 rw[aW]at hx;by_cases hd:d=k
 ·rw[if_pos hd]at hx;cases hy:aj d T with
  |none=>rw[hy]at hx;cases hx
  |some y=>
   rw[hy]at hx;simp only[aat,aac]at hx;exact⟨y,rfl,by rw[←hx];exact h1 y,fun e he=>h2 y e (by rw[hx];exact he)⟩
 ·rw[if_neg hd]at hx;exact⟨x,hx,rfl,fun _ he=>he⟩
theorem Sub.del{T:aL}(k:Int):Sub (bS k T) T:=fun d x hx=>by
 rw[fF]at hx;split at hx
 ·cases hx
 ·exact⟨x,hx,rfl,fun _ he=>he⟩
theorem Sub.settle{T:aL}(k:Int):Sub (iR T k) T:=by
 unfold iR;cases aj k T with
 |none=>exact Sub.refl T
 |some x=>
  simp only;split
  ·exact Sub.del k
  ·exact Sub.refl T
theorem Sub.cut{T:aL}(d:Int)(n:Nm):Sub (aG T d n) T:=Sub.bq (fun _=>by exact rfl) fun x e he=>(aaH.1 he).1
theorem iw.sub{T T':aL}{dep:Int→Nat}(h:iw T dep)(hs:Sub T' T):iw T' dep:=by
 refine⟨h.zero,fun d x hx e he=> ?_⟩;obtain⟨y,hy,_,hn⟩:=hs d x hx;have h1:=h.up d y hy e (hn e he);refine⟨h1.1,fun hk=>h1.2 ?_⟩;obtain⟨z,hz,hzk⟩:=mR hk;obtain⟨u,hu,huk,_⟩:=hs _ z hz;rw[dM hu,←huk];exact hzk
theorem Dc{T:aL}{d id a:Int}{n:Nm}{x:bP}(h:aj a (setName T d n id)=some x):∃y,aj a T=some y∧x.kind=y.kind∧∀e∈x.names,e∈y.names∨(a=d∧e=(n,id)):=by
 unfold setName at h;rw[aW]at h;by_cases hd:a=d
 ·rw[if_pos hd]at h;cases hz:aj a T with
  |none=>rw[hz]at h;cases h
  |some z=>
   rw[hz]at h;simp only[aat,aac]at h;refine⟨z,rfl,by rw[←h],fun e he=> ?_⟩;rw[←h]at he;rcases (qH bytesBefore).1 he with h2|h2
   ·exact .inr ⟨hd,h2⟩
   ·exact .inl (aaH.1 h2).1
 ·rw[if_neg hd]at h;exact⟨x,h,rfl,fun e he=> .inl he⟩
theorem Ju{T:aL}{d id:Int}{n:Nm}(k:Int):dL (setName T d n id) k=dL T k:=by
 unfold setName;exact Ai (fun _=>by exact rfl) k
theorem iw.link{T:aL}{dep:Int→Nat}(h:iw T dep){d id:Int}{n:Nm}(hd:dep d<8)(hk:dL T id≠2):iw (setName T d n id) dep:=by
 refine⟨h.zero,fun a x hx e he=> ?_⟩;rw[Ju];obtain⟨y,hy,_,hn⟩:=Dc hx;rcases hn e he with h1|⟨h1,h2⟩
 ·exact h.up a y hy e h1
 ·subst h1 h2;exact⟨hd,fun h3=>absurd h3 hk⟩
theorem iw.make{T:aL}{dep:Int→Nat}(h:iw T dep)(hT:dG T){d f kind:Int}{n:Nm}(hd:dep d<8)(hf:aj f T=none)(hf0:f≠0)(hdt:(aj d T).isSome=true):∃Z0,iw (setName (dW lI f (dh kind) T) d n f) Z0:=by
 refine⟨fun k=>if k=f then dep d+1 else dep k,by simp only[if_neg (abw hf0),h.zero],fun a x hx e he=> ?_⟩;have hdf:d≠f:=fun e=>by rw[e,hf]at hdt;cases hdt
 obtain⟨y,hy,_,hn⟩:=Dc hx;rw[Ju];rcases vE hT.sorted hy with⟨h1,h2⟩|⟨h1,h2⟩
 ·rcases hn e he with h3|⟨h3,h4⟩
  ·rw[h2]at h3;cases h3
  ·exact absurd (h3.symm.trans h1) hdf
 ·rcases hn e he with h3|⟨h3,h4⟩
  ·have hup:=h.up a y h2 e h3;have hl:=(hT.leads a y h2 e h3).1;have hef:e.2≠f:=fun e5=>by rw[e5,hf]at hl;cases hl
   simp only[if_neg h1,if_neg hef];have:dL (dW lI f (dh kind) T) e.2=dL T e.2:=by unfold dL;rw[h_,if_neg hef]
   rw[this];exact hup
  ·subst h3 h4;simp only[if_neg h1,if_pos];exact⟨hd,fun _=>trivial⟩
def jm(T:aL):Prop:=dG T∧∃dep,iw T dep
theorem jm.new:jm wX:=by
 refine⟨WH,fun _=>0,rfl,fun d x hx e he=> ?_⟩;unfold wX at hx;rw[iQ]at hx;by_cases hk:(0:Int)=d
 ·rw[if_pos hk]at hx;cases hx;cases he
 ·rw[if_neg hk]at hx;cases hx
theorem jm.Lv{T:aL}(h:jm T)(d:Int):C9 T 8 d:=by
 obtain⟨h1,dep,h2⟩:=h;exact h2.shal8 h1 d
theorem jm.b_{T:aL}(h:jm T)(ls:List Nm)(kind:Int):jm (b_ T ls kind).2:=by
 obtain⟨h1,dep,h2⟩:=h;refine⟨h1.b_ ls kind,?_⟩;unfold Go.Proofs.YtjnhnlabpccgjaaGreatDoor.b_;by_cases he:lU T ls kind=0
 ·rw[if_pos he];obtain⟨a1,a2,a3,a4,a5⟩:=CW h1 he;obtain⟨x,hx,hk,hm⟩:=je h1 a3;obtain⟨f,hf,hf1,hf2,hfn,_⟩:=h1.free;show ∃dep,iw (vD T ls kind) dep;unfold vD;rw[hf];exact h2.make h1 (h2.place (nt:=(aH T ls).2.1) (aaO rfl (aaO rfl a3)) (qy a1)) hfn (by omega) (by rw[hx];rfl)
 ·rw[if_neg he];exact⟨dep,h2⟩
theorem jm.fM{T:aL}(h:jm T)(p tq:List Nm):jm (fM T p tq).2:=by
 obtain⟨h1,dep,h2⟩:=h;refine⟨h1.fM p tq,?_⟩;unfold Go.Proofs.YtjnhnlabpccgjaaGreatDoor.fM;by_cases he:ni T p tq=0
 ·simp only[if_pos he];obtain⟨a1,a2,a3,a4,a5,a6⟩:=CX he;have h3:=h2.link (n:=(aH T tq).2.1) (h2.place (nt:=(aH T tq).2.1) (aaO rfl (aaO rfl a4)) (qy (qM a1).2)) a3;unfold CK;exact⟨dep,h3.sub (Sub.bq (fun _=>by exact rfl) fun x e he=>he)⟩
 ·simp only[if_neg he];exact⟨dep,h2⟩
theorem jm.bC{T:aL}(h:jm T)(p:List Nm):jm (bC T p).2:=by
 obtain⟨h1,dep,h2⟩:=h;refine⟨h1.bC p,dep,?_⟩;unfold Go.Proofs.YtjnhnlabpccgjaaGreatDoor.bC;simp only;split
 ·unfold sD;exact h2.sub ((Sub.settle _).trans ((Sub.bq (f:=fun x=>{x with links:=x.links-1}) (fun _=>by exact rfl) fun x e he=>he).trans (Sub.cut _ _)))
 ·exact h2
theorem jm.dP{T:aL}(h:jm T)(p:List Nm):jm (dP T p).2:=by
 obtain⟨h1,dep,h2⟩:=h;refine⟨h1.dP p,dep,?_⟩;unfold Go.Proofs.YtjnhnlabpccgjaaGreatDoor.dP;simp only;split
 ·unfold yI;exact h2.sub ((Sub.del _).trans (Sub.cut _ _))
 ·exact h2
theorem jm.dw{T:aL}(h:jm T)(id:Int)(b:List UInt8):jm (dw T id b).2:=by
 obtain⟨h1,dep,h2⟩:=h;refine⟨h1.dw id b,dep,?_⟩;unfold Go.Proofs.YtjnhnlabpccgjaaGreatDoor.dw;simp only;split
 ·exact h2.sub (Sub.bq (fun _=>by exact rfl) fun x e he=>he)
 ·exact h2
theorem jm.eF{T:aL}(h:jm T)(id aA:Int)(h0:0≤aA):jm (eF T id aA).2:=by
 obtain⟨h1,dep,h2⟩:=h;refine⟨h1.eF id aA h0,dep,?_⟩;unfold Go.Proofs.YtjnhnlabpccgjaaGreatDoor.eF;simp only;split
 ·exact h2.sub ((Sub.settle _).trans (Sub.bq (fun _=>by exact rfl) fun x e he=>he))
 ·exact h2
theorem jm.eX{T:aL}(h:jm T)(id aA:Int)(h0:0≤aA):jm (eX T id aA).2:=by
 obtain⟨h1,dep,h2⟩:=h;refine⟨h1.eX id aA h0,dep,?_⟩;unfold Go.Proofs.YtjnhnlabpccgjaaGreatDoor.eX;simp only;split
 ·exact h2.sub (Sub.bq (fun _=>by exact rfl) fun x e he=>he)
 ·exact h2
def gM(T:aL)(id:Int):aL:=T.map fun q=>(q.1,{q.2 with names:=q.2.names.filter fun e=> !decide (e.2=id)})
theorem Aj(T:aL)(id:Int):zR T id=bS id (gM T id):=rfl
def iC(id:Int)(x:bP):bP:={x with names:=x.names.filter fun e=> !decide (e.2=id)}
theorem mW(T:aL)(id k:Int):aj k (gM T id)=(aj k T).map (iC id):=IQ (iC id) k T
theorem SB(id j:Int)(x:bP):cn j (iC id x)=if j=id then 0 else cn j x:=by
 unfold cn iC;simp only;rw[List.countP_filter];by_cases h:j=id
 ·subst h;rw[if_pos rfl,abW];intro e _;simp
 ·rw[if_neg h];apply List.countP_congr;intro e _;simp only[aaQ,aal,Bool.not_eq_true',aaF];exact⟨fun h1=>h1.1,fun h1=>⟨h1,fun h2=>h (h1.symm.trans h2)⟩⟩
theorem Df(T:aL)(id j:Int):jh (gM T id) j=if j=id then 0 else jh T j:=by
 induction T with
 |nil=>simp[jh,gM]
 |cons y r ih=>
  have e1:jh (gM (y::r) id) j=cn j (iC id y.2)+jh (gM r id) j:=by
   unfold jh gM iC;simp
  have e2:jh (y::r) j=cn j y.2+jh r j:=by unfold jh;simp
  rw[e1,e2,ih,SB];split<;>simp
theorem BJ.strip{T:aL}(h:BJ T)(id:Int):BJ (gM T id):=by
 have hget:∀k x,aj k (gM T id)=some x→∃y,aj k T=some y∧x=iC id y:=fun k x hx=>by
  rw[mW]at hx;cases hy:aj k T with
  |none=>rw[hy]at hx;cases hx
  |some y=>
   rw[hy]at hx;simp only[aat,aac]at hx;exact⟨y,rfl,hx.symm⟩
 refine⟨?_,?_,fun k x hx=> ?_,fun k x hx e he=> ?_,by unfold gM;rw[List.length_map];exact h.len,fun k x hx=> ?_⟩
 ·have:=h.sorted;unfold aT gM at*;rw[abJ];exact this
 ·obtain⟨x,hx,hk⟩:=mR h.root;unfold dL;rw[mW,hx];exact hk
 ·obtain⟨y,hy,rfl⟩:=hget k x hx;have o:=h.each k y hy;refine⟨o.kind,fun h1=> ?_,o.dir,o.gone,?_,fun e he=>o.good e (aaH.1 he).1,o.size,o.links,o.aA⟩
  ·unfold iC;simp only;rw[o.file h1];rfl
  ·exact List.Pairwise.filter _ o.sorted
 ·obtain⟨y,hy,rfl⟩:=hget k x hx;have:=h.leads k y hy e (aaH.1 he).1;refine⟨?_,this.2⟩;rw[mW];obtain⟨z,hz⟩:=aaf.1 this.1;rw[hz];rfl
 ·obtain⟨y,hy,rfl⟩:=hget k x hx;exact h.ids k y hy
theorem Sub.strip(T:aL)(id:Int):Sub (gM T id) T:=fun d x hx=>by
 rw[mW]at hx;cases hy:aj d T with
 |none=>rw[hy]at hx;cases hx
 |some y=>
  rw[hy]at hx;simp only[aat,aac]at hx;subst hx;exact⟨y,rfl,rfl,fun e he=>(aaH.1 he).1⟩
theorem Dg{T:aL}{id:Int}(h:jG T id=0):∃x,aj id T=some x∧x.kind≠2∧x.closed=false:=by
 unfold jG at h;cases hx:aj id T with
 |none=>rw[hx]at h;cases h
 |some x=>
  rw[hx]at h;simp only at h;by_cases hk:x.kind=2
  ·rw[if_pos hk]at h;cases h
  ·rw[if_neg hk]at h;cases hc:x.closed with
   |true=>rw[hc]at h;cases h
   |false=>exact⟨x,rfl,hk,hc⟩
theorem dG.fB{T:aL}(h:dG T)(id:Int):dG (fB T id).2:=by
 unfold Go.Proofs.YtjnhnlabpccgjaaGreatDoor.fB;by_cases he:jG T id=0
 ·simp only[if_pos he];obtain⟨x,hx,hk,_⟩:=Dg he;have h0:=h.wI hx hk;have hnil:=(h.each id x hx).file ((h.each id x hx).kind.resolve_right hk);have hS:=h.toBJ.strip id;have hx':aj id (gM T id)=some (iC id x):=by rw[mW,hx];rfl
  have hn':(iC id x).names=[]:=by unfold iC;simp only;rw[hnil];rfl
  rw[Aj];refine⟨hS.del hx' h0 (by rw[Df,if_pos rfl]),fun j y hy hj=> ?_⟩;have hji:j≠id:=fun e=>by subst e;rw[qI]at hy;cases hy
  rw[fF,if_neg hji,mW]at hy;cases hz:aj j T with
  |none=>rw[hz]at hy;cases hy
  |some z=>
   rw[hz]at hy;simp only[aat,aac]at hy;have h1:=zV hS.sorted hx' j;have h2:cn j (iC id x)=0:=by unfold cn;rw[hn'];rfl
   have h3:=Df T id j;rw[if_neg hji]at h3;have h4:=h.counts j z hz hj;have h5:y.links=z.links:=by rw[←hy];rfl
   omega
 ·simp only[if_neg he];exact h
theorem jm.fB{T:aL}(h:jm T)(id:Int):jm (fB T id).2:=by
 obtain⟨h1,dep,h2⟩:=h;refine⟨h1.fB id,dep,?_⟩;unfold Go.Proofs.YtjnhnlabpccgjaaGreatDoor.fB;simp only;split
 ·rw[Aj];exact h2.sub ((Sub.del _).trans (Sub.strip _ _))
 ·exact h2
theorem GD{T:aL}{p tq:List Nm}(h:jN T p tq=0):kE p tq=0∧(aJ T 0 p).2=0∧(aJ T 0 p).1≠0∧(aH T tq).2.2=0∧(dL T (aJ T 0 p).1=2→kH tq p=false)∧(aj (aH T tq).2.1 (bJ T (aH T tq).1)=none→tq.length+jl T 8 (aJ T 0 p).1≤8):=by
 unfold jN at h;by_cases h1:kE p tq≠0
 ·rw[if_pos h1]at h;exact absurd h h1
 ·rw[if_neg h1]at h;by_cases h2:(aJ T 0 p).2≠0
  ·rw[if_pos h2]at h;exact absurd h h2
  ·rw[if_neg h2]at h;by_cases h3:(aJ T 0 p).1=0
   ·rw[if_pos h3]at h;cases h
   ·rw[if_neg h3]at h;by_cases h4:(aH T tq).2.2≠0
    ·rw[if_pos h4]at h;exact absurd h h4
    ·rw[if_neg h4]at h;by_cases h5:dL T (aJ T 0 p).1=2∧kH tq p=true
     ·rw[if_pos h5]at h;cases h
     ·rw[if_neg h5]at h;refine⟨by omega,by omega,h3,by omega,fun h6=> ?_,fun h6=> ?_⟩
      ·cases hw:kH tq p with
       |false=>rfl
       |true=>exact absurd ⟨h6,hw⟩ h5
      ·rw[h6]at h;simp only at h;split at h
       ·cases h
       ·omega
theorem jm.bf{T:aL}(h:jm T)(p tq:List Nm):jm (bf T p tq).2:=by
 unfold Go.Proofs.YtjnhnlabpccgjaaGreatDoor.bf;simp only;by_cases hc:jN T p tq=0∧(aj (aH T tq).2.1 (bJ T (aH T tq).1)).isSome=false
 ·rw[if_pos hc];obtain⟨h1,dep,h2⟩:=h;obtain⟨a1,a2,a3,a4,a5,a6⟩:=GD hc.1;have hn:aj (aH T tq).2.1 (bJ T (aH T tq).1)=none:=by simpa using hc.2
  have hlk:aJ T 0 p=((aJ T 0 p).1,0):=aaO rfl a2;have hpl:aH T tq=((aH T tq).1,(aH T tq).2.1,0):=aaO rfl (aaO rfl a4);obtain⟨x2,hx2,hk2,hm2⟩:=je h1 a4;have hpn:p≠[]:=fun e=>a3 (by rw[e];rfl);obtain⟨d1,x1,n1,e1,hl1,hx1,hk1,hn1,_,ep⟩:=dx hlk hpn;have hf:=qM a1;unfold sM;refine⟨?_,h2.move h1 hlk a3 hpl (qy hf.2) fun hk=>⟨a5 hk,a6 hn⟩⟩;rw[e1];rw[fU hx2]at hn;exact h1.move hx1 hk1 hn1 hx2 hk2 (jT hf.2 _ hm2) hn
 ·rw[if_neg hc];exact h
end Go.Proofs.YtjnhnlabpccgjaaGreatDoor
