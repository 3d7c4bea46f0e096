/- What -/
import Derived.Test.YtmflaonodghbcaaGreatDoorM14
set_option maxRecDepth 100000
set_option maxHeartbeats 64000000
set_option linter.all false
namespace Go.Proofs.YtmflaonodghbcaaGreatDoor
open Go.ChangeShapes Go.WideShapes Go.ChangeAt Go.RowKit
theorem NA{T:aI}{tq:List Nm}{dt:Int}{nt:Nm}(hto:aQ T tq=(dt,nt,0)):tq≠[]∧aG T 0 tq.dropLast=(dt,0)∧bD T dt=2:=by
 unfold aQ at hto;by_cases ht0:tq=[]
 ·rw[if_pos ht0]at hto;cases hto
 ·rw[if_neg ht0]at hto;by_cases ht1:(aG T 0 tq.dropLast).2≠0
  ·rw[if_pos ht1]at hto;exact absurd (aaG (·.2.2) hto) ht1
  ·rw[if_neg ht1]at hto;by_cases ht2:bD T (aG T 0 tq.dropLast).1=2
   ·rw[if_pos ht2]at hto;have h3:(aG T 0 tq.dropLast).1=dt:=aaG Prod.fst hto;exact⟨ht0,abk h3 (by simpa using ht1),h3▸ht2⟩
   ·rw[if_neg ht2]at hto;cases hto
theorem eH.place{T:aI}{dep:Int→Nat}(h:eH T dep){tq:List Nm}{dt:Int}{nt:Nm}(hto:aQ T tq=(dt,nt,0))(hf:tq.length≤8):dep dt<8:=by
 obtain⟨h1,h2,h3⟩:=NA hto;have:=vk h _ 0 dt h2 h3;rw[h.zero,abq]at this;have:tq.length≠0:=fun e=>h1 (Pe e);omega
def Sub(T' T:aI):Prop:=∀d x,aj d T'=some x→∃y,aj d T=some y∧x.kind=y.kind∧∀e∈x.names,e∈y.names
theorem Sub.refl(T:aI):Sub T T:=fun d x h=>⟨x,h,rfl,fun _ he=>he⟩
theorem Sub.trans{A B C:aI}(h:Sub A B)(k:Sub B C):Sub A C:=fun d x hx=>by
 obtain⟨y,hy,h1,h2⟩:=h d x hx;obtain⟨z,hz,h3,h4⟩:=k d y hy;exact⟨z,hz,h1.trans h3,fun e he=>h4 e (h2 e he)⟩
theorem Sub.cu{T:aI}{k:Int}{f:eG→eG}(h1:∀x,(f x).kind=x.kind)(h2:∀x,∀e∈(f x).names,e∈x.names):Sub (Go.Proofs.YtmflaonodghbcaaGreatDoor.cu k f T) T:=fun d x hx=>by
 rw[bF]at hx;by_cases hd:d=k
 ·rw[if_pos hd]at hx;cases hy:aj d T with
  |none=>rw[hy]at hx;cases hx
  |some y=>
   rw[hy]at hx;simp only[aam,aag]at hx;exact⟨y,rfl,by rw[←hx];exact h1 y,fun e he=>h2 y e (by rw[hx];exact he)⟩
 ·rw[if_neg hd]at hx;exact⟨x,hx,rfl,fun _ he=>he⟩
theorem Sub.del{T:aI}(k:Int):Sub (bM k T) T:=fun d x hx=>by
 rw[eZ]at hx;split at hx
 ·cases hx
 ·exact⟨x,hx,rfl,fun _ he=>he⟩
theorem Sub.settle{T:aI}(k:Int):Sub (gX T k) T:=by
 unfold gX;cases aj k T with
 |none=>exact Sub.refl T
 |some x=>
  simp only;split
  ·exact Sub.del k
  ·exact Sub.refl T
theorem Sub.cut{T:aI}(d:Int)(n:Nm):Sub (aZ T d n) T:=Sub.cu (fun _=>by exact rfl) fun x e he=>(aax.1 he).1
theorem eH.sub{T T':aI}{dep:Int→Nat}(h:eH T dep)(hs:Sub T' T):eH T' dep:=by
 refine⟨h.zero,fun d x hx e he=> ?_⟩;obtain⟨y,hy,_,hn⟩:=hs d x hx;have h1:=h.up d y hy e (hn e he);refine⟨h1.1,fun hk=>h1.2 ?_⟩;obtain⟨z,hz,hzk⟩:=gT hk;obtain⟨u,hu,huk,_⟩:=hs _ z hz;rw[eP hu,←huk];exact hzk
theorem Ea{T:aI}{d id a:Int}{n:Nm}{x:eG}(h:aj a (setName T d n id)=some x):∃y,aj a T=some y∧x.kind=y.kind∧∀e∈x.names,e∈y.names∨(a=d∧e=(n,id)):=by
 unfold setName at h;rw[bF]at h;by_cases hd:a=d
 ·rw[if_pos hd]at h;cases hz:aj a T with
  |none=>rw[hz]at h;cases h
  |some z=>
   rw[hz]at h;simp only[aam,aag]at h;refine⟨z,rfl,by rw[←h],fun e he=> ?_⟩;rw[←h]at he;rcases (pG bytesBefore).1 he with h2|h2
   ·exact .inr ⟨hd,h2⟩
   ·exact .inl (aax.1 h2).1
 ·rw[if_neg hd]at h;exact⟨x,h,rfl,fun e he=> .inl he⟩
theorem KS{T:aI}{d id:Int}{n:Nm}(k:Int):bD (setName T d n id) k=bD T k:=by
 unfold setName;exact AJ (fun _=>by exact rfl) k
theorem eH.link{T:aI}{dep:Int→Nat}(h:eH T dep){d id:Int}{n:Nm}(hd:dep d<8)(hk:bD T id≠2):eH (setName T d n id) dep:=by
 refine⟨h.zero,fun a x hx e he=> ?_⟩;rw[KS];obtain⟨y,hy,_,hn⟩:=Ea hx;rcases hn e he with h1|⟨h1,h2⟩
 ·exact h.up a y hy e h1
 ·subst h1 h2;exact⟨hd,fun h3=>absurd h3 hk⟩
theorem eH.make{T:aI}{dep:Int→Nat}(h:eH T dep)(hT:fu T){d f kind:Int}{n:Nm}(hd:dep d<8)(hf:aj f T=none)(hf0:f≠0)(hdt:(aj d T).isSome=true):∃dep',eH (setName (bX jX f (dQ kind) T) d n f) dep':=by
 refine⟨fun k=>if k=f then dep d+1 else dep k,by simp only[if_neg (aaP hf0),h.zero],fun a x hx e he=> ?_⟩;have hdf:d≠f:=fun e=>by rw[e,hf]at hdt;cases hdt
 obtain⟨y,hy,_,hn⟩:=Ea hx;rw[KS];rcases uY hT.sorted hy with⟨h1,h2⟩|⟨h1,h2⟩
 ·rcases hn e he with h3|⟨h3,h4⟩
  ·rw[h2]at h3;cases h3
  ·exact absurd (h3.symm.trans h1) hdf
 ·rcases hn e he with h3|⟨h3,h4⟩
  ·have hup:=h.up a y h2 e h3;have hl:=(hT.leads a y h2 e h3).1;have hef:e.2≠f:=fun e5=>by rw[e5,hf]at hl;cases hl
   simp only[if_neg h1,if_neg hef];have:bD (bX jX f (dQ kind) T) e.2=bD T e.2:=by unfold bD;rw[dS,if_neg hef]
   rw[this];exact hup
  ·subst h3 h4;simp only[if_neg h1,if_pos];exact⟨hd,fun _=>trivial⟩
def fH(T:aI):Prop:=fu T∧∃dep,eH T dep
def Vi(T:aI):Prop:=OkW T∧∃dep,eH T dep
theorem fH.w{T:aI}(h:fH T):Vi T:=⟨h.1.w,h.2⟩
instance{T:aI}:Coe (fH T) (Vi T):=⟨fH.w⟩
theorem fH.new:fH yT:=by
 refine⟨Ze,fun _=>0,rfl,fun d x hx e he=> ?_⟩;unfold yT at hx;rw[fD]at hx;by_cases hk:(0:Int)=d
 ·rw[if_pos hk]at hx;cases hx;cases he
 ·rw[if_neg hk]at hx;cases hx
theorem fH.dF{T:aI}(h:fH T)(ls:List Nm)(kind:Int):fH (dF T ls kind).2:=by
 obtain⟨h1,dep,h2⟩:=h;refine⟨h1.dF ls kind,?_⟩;unfold Go.Proofs.YtmflaonodghbcaaGreatDoor.dF;by_cases he:nQ T ls kind=0
 ·rw[if_pos he];obtain⟨a1,a2,a3,a4,a5⟩:=D7 h1 he;obtain⟨x,hx,hk,hm⟩:=nR h1 a3;obtain⟨f,hf,hf1,hf2,hfn,_⟩:=h1.free;show ∃dep,eH (xS T ls kind) dep;unfold xS;rw[hf];exact h2.make h1 (h2.place (nt:=(aQ T ls).2.1) (abk rfl (abk rfl a3)) (Ay a1)) hfn (by omega) (by rw[hx];rfl)
 ·rw[if_neg he];exact⟨dep,h2⟩
theorem fH.w_{T:aI}(h:fH T)(p tq:List Nm):fH (w_ T p tq).2:=by
 obtain⟨h1,dep,h2⟩:=h;refine⟨h1.w_ p tq,?_⟩;unfold Go.Proofs.YtmflaonodghbcaaGreatDoor.w_;by_cases he:GH T p tq=0
 ·simp only[if_pos he];obtain⟨a1,a2,a3,a4,a5,a6⟩:=D8 he;have h3:=h2.link (n:=(aQ T tq).2.1) (h2.place (nt:=(aQ T tq).2.1) (abk rfl (abk rfl a4)) (Ay (xY a1).2)) a3;unfold UN;exact⟨dep,h3.sub (Sub.cu (fun _=>by exact rfl) fun x e he=>he)⟩
 ·simp only[if_neg he];exact⟨dep,h2⟩
theorem fH.dR{T:aI}(h:fH T)(p:List Nm):fH (dR T p).2:=by
 obtain⟨h1,dep,h2⟩:=h;refine⟨h1.dR p,dep,?_⟩;unfold Go.Proofs.YtmflaonodghbcaaGreatDoor.dR;simp only;split
 ·unfold yU;exact h2.sub ((Sub.settle _).trans ((Sub.cu (f:=fun x=>{x with links:=x.links-1}) (fun _=>by exact rfl) fun x e he=>he).trans (Sub.cut _ _)))
 ·exact h2
theorem fH.qZ{T:aI}(h:fH T)(p:List Nm):fH (qZ T p).2:=by
 obtain⟨h1,dep,h2⟩:=h;refine⟨h1.qZ p,dep,?_⟩;unfold Go.Proofs.YtmflaonodghbcaaGreatDoor.qZ;simp only;split
 ·unfold IU;exact h2.sub ((Sub.del _).trans (Sub.cut _ _))
 ·exact h2
theorem fH.dG{T:aI}(h:fH T)(id:Int)(b:List UInt8):fH (dG T id b).2:=by
 obtain⟨h1,dep,h2⟩:=h;refine⟨h1.dG id b,dep,?_⟩;unfold Go.Proofs.YtmflaonodghbcaaGreatDoor.dG;simp only;split
 ·exact h2.sub (Sub.cu (fun _=>by exact rfl) fun x e he=>he)
 ·exact h2
theorem fH.fZ{T:aI}(h:fH T)(id aT:Int)(h0:0≤aT):fH (fZ T id aT).2:=by
 obtain⟨h1,dep,h2⟩:=h;refine⟨h1.fZ id aT h0,dep,?_⟩;unfold Go.Proofs.YtmflaonodghbcaaGreatDoor.fZ;simp only;split
 ·exact h2.sub ((Sub.settle _).trans (Sub.cu (fun _=>by exact rfl) fun x e he=>he))
 ·exact h2
theorem fH.uW{T:aI}(h:fH T)(id aT:Int)(h0:0≤aT):fH (uW T id aT).2:=by
 obtain⟨h1,dep,h2⟩:=h;refine⟨h1.uW id aT h0,dep,?_⟩;unfold Go.Proofs.YtmflaonodghbcaaGreatDoor.uW;simp only;split
 ·exact h2.sub (Sub.cu (fun _=>by exact rfl) fun x e he=>he)
 ·exact h2
def jN(T:aI)(id:Int):aI:=T.map fun q=>(q.1,{q.2 with names:=q.2.names.filter fun e=> !decide (e.2=id)})
theorem wo(T:aI)(id:Int):Ao T id=bM id (jN T id):=rfl
def h_(id:Int)(x:eG):eG:={x with names:=x.names.filter fun e=> !decide (e.2=id)}
theorem lu(T:aI)(id k:Int):aj k (jN T id)=(aj k T).map (h_ id):=uR (h_ id) k T
theorem Vj(id j:Int)(x:eG):cn j (h_ id x)=if j=id then 0 else cn j x:=by
 unfold cn h_;simp only;rw[List.countP_filter];by_cases h:j=id
 ·subst h;rw[if_pos rfl,abY];intro e _;simp
 ·rw[if_neg h];apply List.countP_congr;intro e _;simp only[aa2,aar,Bool.not_eq_true',abx];exact⟨fun h1=>h1.1,fun h1=>⟨h1,fun h2=>h (h1.symm.trans h2)⟩⟩
theorem Eb(T:aI)(id j:Int):fF (jN T id) j=if j=id then 0 else fF T j:=by
 induction T with
 |nil=>simp[fF,jN]
 |cons y r ih=>
  have e1:fF (jN (y::r) id) j=cn j (h_ id y.2)+fF (jN r id) j:=by
   unfold fF jN h_;simp
  have e2:fF (y::r) j=cn j y.2+fF r j:=by unfold fF;simp
  rw[e1,e2,ih,Vj];split<;>simp
theorem DI.strip{T:aI}(h:DI T)(id:Int):DI (jN T id):=by
 have hget:∀k x,aj k (jN T id)=some x→∃y,aj k T=some y∧x=h_ id y:=fun k x hx=>by
  rw[lu]at hx;cases hy:aj k T with
  |none=>rw[hy]at hx;cases hx
  |some y=>
   rw[hy]at hx;simp only[aam,aag]at hx;exact⟨y,rfl,hx.symm⟩
 refine⟨?_,?_,fun k x hx=> ?_,fun k x hx e he=> ?_,by unfold jN;rw[List.length_map];exact h.len,fun k x hx=> ?_⟩
 ·have:=h.sorted;unfold aO jN at*;rw[List.pairwise_map];exact this
 ·obtain⟨x,hx,hk⟩:=gT h.root;unfold bD;rw[lu,hx];exact hk
 ·obtain⟨y,hy,rfl⟩:=hget k x hx;have o:=h.each k y hy;refine⟨o.kind,fun h1=> ?_,o.dir,o.gone,?_,fun e he=>o.good e (aax.1 he).1,o.size,o.links,o.aT⟩
  ·unfold h_;simp only;rw[o.file h1];rfl
  ·exact abP _ o.sorted
 ·obtain⟨y,hy,rfl⟩:=hget k x hx;have:=h.leads k y hy e (aax.1 he).1;refine⟨?_,this.2⟩;rw[lu];obtain⟨z,hz⟩:=aak.1 this.1;rw[hz];rfl
 ·obtain⟨y,hy,rfl⟩:=hget k x hx;exact h.ids k y hy
theorem Sub.strip(T:aI)(id:Int):Sub (jN T id) T:=fun d x hx=>by
 rw[lu]at hx;cases hy:aj d T with
 |none=>rw[hy]at hx;cases hx
 |some y=>
  rw[hy]at hx;simp only[aam,aag]at hx;subst hx;exact⟨y,rfl,rfl,fun e he=>(aax.1 he).1⟩
theorem Ec{T:aI}{id:Int}(h:kC T id=0):∃x,aj id T=some x∧x.kind≠2∧x.closed=false:=by
 unfold kC at h;cases hx:aj id T with
 |none=>rw[hx]at h;cases h
 |some x=>
  rw[hx]at h;simp only at h;by_cases hk:x.kind=2
  ·rw[if_pos hk]at h;cases h
  ·rw[if_neg hk]at h;cases hc:x.closed with
   |true=>rw[hc]at h;cases h
   |false=>exact⟨x,rfl,hk,hc⟩
theorem OkW.eU{T:aI}(h:OkW T)(id:Int):OkW (eU T id).2:=by
 unfold Go.Proofs.YtmflaonodghbcaaGreatDoor.eU;by_cases he:kC T id=0
 ·simp only[if_pos he];obtain⟨x,hx,hk,_⟩:=Ec he;have h0:id≠0:=fun e=>by
   have hr:=h.root;unfold bD at hr;rw[←e,hx]at hr;exact hk hr
  have hnil:=(h.each id x hx).file ((h.each id x hx).kind.resolve_right hk);have hS:=h.toDI.strip id;have hx':aj id (jN T id)=some (h_ id x):=by rw[lu,hx];rfl
  have hn':(h_ id x).names=[]:=by unfold h_;simp only;rw[hnil];rfl
  rw[wo];refine⟨hS.del hx' h0 (by rw[Eb,if_pos rfl]),fun j y hy hj=> ?_⟩;have hji:j≠id:=fun e=>by subst e;rw[pI]at hy;cases hy
  rw[eZ,if_neg hji,lu]at hy;cases hz:aj j T with
  |none=>rw[hz]at hy;cases hy
  |some z=>
   rw[hz]at hy;simp only[aam,aag]at hy;have h1:=Au hS.sorted hx' j;have h2:cn j (h_ id x)=0:=by unfold cn;rw[hn'];rfl
   have h3:=Eb T id j;rw[if_neg hji]at h3;have h4:=h.counts j z hz hj;have h5:y.links=z.links:=by rw[←hy];rfl
   omega
 ·simp only[if_neg he];exact h
theorem fu.eU{T:aI}(h:fu T)(id:Int):fu (eU T id).2:=by
 have hw:=h.w.eU id;refine⟨Cw.of_w hw.toDI fun k x hx=> ?_,hw.counts⟩;unfold Go.Proofs.YtmflaonodghbcaaGreatDoor.eU at hx;simp only at hx;split at hx
 ·rw[wo,eZ]at hx;split at hx
  ·cases hx
  ·rw[lu]at hx;cases hy:aj k T with
   |none=>rw[hy]at hx;cases hx
   |some y=>
    rw[hy]at hx;simp only[aam,aag]at hx;subst hx;exact(h.each k y hy).links.2
 ·exact(h.each k x hx).links.2
theorem fH.eU{T:aI}(h:fH T)(id:Int):fH (eU T id).2:=by
 obtain⟨h1,dep,h2⟩:=h;refine⟨h1.eU id,dep,?_⟩;unfold Go.Proofs.YtmflaonodghbcaaGreatDoor.eU;simp only;split
 ·rw[wo];exact h2.sub ((Sub.del _).trans (Sub.strip _ _))
 ·exact h2
theorem I4{T:aI}{p tq:List Nm}(h:zw T p tq=0):wZ p tq=0∧(aG T 0 p).2=0∧(aG T 0 p).1≠0∧(aQ T tq).2.2=0∧(bD T (aG T 0 p).1=2→wh tq p=false)∧(aj (aQ T tq).2.1 (aX T (aQ T tq).1)=none→tq.length+rP T 8 (aG T 0 p).1≤8):=by
 unfold zw at h;by_cases h1:wZ p tq≠0
 ·rw[if_pos h1]at h;exact absurd h h1
 ·rw[if_neg h1]at h;by_cases h2:(aG T 0 p).2≠0
  ·rw[if_pos h2]at h;exact absurd h h2
  ·rw[if_neg h2]at h;by_cases h3:(aG T 0 p).1=0
   ·rw[if_pos h3]at h;cases h
   ·rw[if_neg h3]at h;by_cases h4:(aQ T tq).2.2≠0
    ·rw[if_pos h4]at h;exact absurd h h4
    ·rw[if_neg h4]at h;by_cases h5:bD T (aG T 0 p).1=2∧wh tq p=true
     ·rw[if_pos h5]at h;cases h
     ·rw[if_neg h5]at h;refine⟨by omega,by omega,h3,by omega,fun h6=> ?_,fun h6=> ?_⟩
      ·cases hw:wh tq p with
       |false=>rfl
       |true=>exact absurd ⟨h6,hw⟩ h5
      ·rw[h6]at h;simp only at h;split at h
       ·cases h
       ·omega
theorem fH.wm{T:aI}(h:fH T)(p tq:List Nm):fH (wm T p tq).2:=by
 unfold Go.Proofs.YtmflaonodghbcaaGreatDoor.wm;simp only;by_cases hc:zw T p tq=0∧(aj (aQ T tq).2.1 (aX T (aQ T tq).1)).isSome=false
 ·rw[if_pos hc];obtain⟨h1,dep,h2⟩:=h;obtain⟨a1,a2,a3,a4,a5,a6⟩:=I4 hc.1;have hn:aj (aQ T tq).2.1 (aX T (aQ T tq).1)=none:=by simpa using hc.2
  have hlk:aG T 0 p=((aG T 0 p).1,0):=abk rfl a2;have hpl:aQ T tq=((aQ T tq).1,(aQ T tq).2.1,0):=abk rfl (abk rfl a4);obtain⟨x2,hx2,hk2,hm2⟩:=nR h1 a4;have hpn:p≠[]:=fun e=>a3 (by rw[e];rfl);obtain⟨d1,x1,n1,e1,hl1,hx1,hk1,hn1,_,ep⟩:=fG hlk hpn;have hf:=xY a1;unfold KQ;refine⟨?_,h2.move h1 hlk a3 hpl (Ay hf.2) fun hk=>⟨a5 hk,a6 hn⟩⟩;rw[e1];rw[iW hx2]at hn;exact h1.move hx1 hk1 hn1 hx2 hk2 (pU hf.2 _ hm2) hn
 ·rw[if_neg hc];exact h
end Go.Proofs.YtmflaonodghbcaaGreatDoor
