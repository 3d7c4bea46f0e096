/- What holds of a tree, and how deep it is, whatever is done. All paths of a node, plainly. What the law asks of Names, plainly. How many nodes have a lesser ID. All paths, whatever the order of a directory's names. slices.Clone of texts: the new row is one's own. What names of package tree gives: paths, behind what was there. path.Join; what Names of package tree orders by. A row of one's own, kept. What is said of names of package tree, plainly: pieces for its walk. -/
import Derived.Test.YtjnhnlabpccgjaaGreatM13
import Derived.Test.YtjnhnlabpccgjaaGreatM08
import Derived.Test.YtjnhnlabpccgjaaGreatM10
namespace Go.Proofs.YtjnhnlabpccgjaaGreat
open Go.ChangeShapes Go.WideShapes Go.ChangeAt Go.RowKit
set_option linter.unusedVariables false
set_option linter.unusedSimpArgs false
theorem FP {T:aF} {tq:List Nm} {dt:Int} {nt:Nm} (hto:aC T tq=(dt,nt,0)):tq≠[]∧aA T 0 tq.dropLast=(dt,0)∧bf T dt=2:=by
 unfold aC at hto
 by_cases ht0:tq=[]
 ·rw[if_pos ht0]at hto;cases hto
 ·rw[if_neg ht0]at hto
  by_cases ht1:(aA T 0 tq.dropLast).2≠0
  ·rw[if_pos ht1]at hto
   exact absurd (congrArg (·.2.2) hto) ht1
  ·rw[if_neg ht1]at hto
   by_cases ht2:bf T (aA T 0 tq.dropLast).1=2
   ·rw[if_pos ht2]at hto
    have h3:(aA T 0 tq.dropLast).1=dt:=congrArg Prod.fst hto
    exact⟨ht0,Prod.ext h3 (by simpa using ht1),h3▸ht2⟩
   ·rw[if_neg ht2]at hto;cases hto
theorem dM.place {T:aF} {dep:Int→Nat} (h:dM T dep) {tq:List Nm} {dt:Int} {nt:Nm} (hto:aC T tq=(dt,nt,0)) (hf:tq.length≤8):dep dt<8:=by
 obtain⟨h1,h2,h3⟩:=FP hto
 have:=qE h _ 0 dt h2 h3
 rw[h.zero,List.length_dropLast]at this
 have:tq.length≠0:=fun e=>h1 (List.eq_nil_of_length_eq_zero e)
 omega
def Sub (T' T:aF):Prop:=∀d x,ah d T'=some x→∃y,ah d T=some y∧x.kind=y.kind∧∀e∈x.names,e∈y.names
theorem Sub.refl (T:aF):Sub T T:=fun d x h=>⟨x,h,rfl,fun _ he=>he⟩
theorem Sub.trans {A B C:aF} (h:Sub A B) (k:Sub B C):Sub A C:=fun d x hx=>by
 obtain⟨y,hy,h1,h2⟩:=h d x hx
 obtain⟨z,hz,h3,h4⟩:=k d y hy
 exact⟨z,hz,h1.trans h3,fun e he=>h4 e (h2 e he)⟩
theorem Sub.aX {T:aF} {k:Int} {f:bA→bA} (h1:∀x,(f x).kind=x.kind) (h2:∀x,∀e∈(f x).names,e∈x.names):Sub (Go.Proofs.YtjnhnlabpccgjaaGreat.aX k f T) T:=fun d x hx=>by
 rw[aS]at hx
 by_cases hd:d=k
 ·rw[if_pos hd]at hx
  cases hy:ah d T with
  |none=>rw[hy]at hx;cases hx
  |some y=>
   rw[hy]at hx
   simp only[Option.map_some,Option.some.injEq]at hx
   exact⟨y,rfl,by rw[←hx];exact h1 y,fun e he=>h2 y e (by rw[hx];exact he)⟩
 ·rw[if_neg hd]at hx;exact⟨x,hx,rfl,fun _ he=>he⟩
theorem Sub.del {T:aF} (k:Int):Sub (bB k T) T:=fun d x hx=>by
 rw[dP]at hx
 split at hx
 ·cases hx
 ·exact⟨x,hx,rfl,fun _ he=>he⟩
theorem Sub.settle {T:aF} (k:Int):Sub (eG T k) T:=by
 unfold eG
 cases ah k T with
 |none=>exact Sub.refl T
 |some x=>
  simp only
  split
  ·exact Sub.del k
  ·exact Sub.refl T
theorem Sub.cut {T:aF} (d:Int) (n:Nm):Sub (ak T d n) T:=Sub.aX (fun _=>by exact rfl) fun x e he=>(List.mem_filter.1 he).1
theorem dM.sub {T T':aF} {dep:Int→Nat} (h:dM T dep) (hs:Sub T' T):dM T' dep:=by
 refine⟨h.zero,fun d x hx e he=> ?_⟩
 obtain⟨y,hy,_,hn⟩:=hs d x hx
 have h1:=h.up d y hy e (hn e he)
 refine⟨h1.1,fun hk=>h1.2 ?_⟩
 obtain⟨z,hz,Ub⟩:=eX hk
 obtain⟨u,hu,huk,_⟩:=hs _ z hz
 rw[aY hu,←huk];exact Ub
theorem yx {T:aF} {d id a:Int} {n:Nm} {x:bA} (h:ah a (setName T d n id)=some x):∃y,ah a T=some y∧x.kind=y.kind∧∀e∈x.names,e∈y.names∨(a=d∧e=(n,id)):=by
 unfold setName at h
 rw[aS]at h
 by_cases hd:a=d
 ·rw[if_pos hd]at h
  cases hz:ah a T with
  |none=>rw[hz]at h;cases h
  |some z=>
   rw[hz]at h
   simp only[Option.map_some,Option.some.injEq]at h
   refine⟨z,rfl,by rw[←h],fun e he=> ?_⟩
   rw[←h]at he
   rcases (kZ bytesBefore).1 he with h2|h2
   ·exact .inr ⟨hd,h2⟩
   ·exact .inl (List.mem_filter.1 h2).1
 ·rw[if_neg hd]at h;exact⟨x,h,rfl,fun e he=> .inl he⟩
theorem Dw {T:aF} {d id:Int} {n:Nm} (k:Int):bf (setName T d n id) k=bf T k:=by
 unfold setName
 exact vL (fun _=>by exact rfl) k
theorem dM.link {T:aF} {dep:Int→Nat} (h:dM T dep) {d id:Int} {n:Nm} (hd:dep d<8) (hk:bf T id≠2):dM (setName T d n id) dep:=by
 refine⟨h.zero,fun a x hx e he=> ?_⟩
 rw[Dw]
 obtain⟨y,hy,_,hn⟩:=yx hx
 rcases hn e he with h1|⟨h1,h2⟩
 ·exact h.up a y hy e h1
 ·subst h1 h2
  exact⟨hd,fun h3=>absurd h3 hk⟩
theorem dM.make {T:aF} {dep:Int→Nat} (h:dM T dep) (hT:fB T) {d f kind:Int} {n:Nm} (hd:dep d<8) (hf:ah f T=none) (hf0:f≠0) (hdt:(ah d T).isSome=true):∃Ro,dM (setName (bZ gH f (bS kind) T) d n f) Ro:=by
 refine⟨fun k=>if k=f then dep d+1 else dep k,by simp only[if_neg (Ne.symm hf0),h.zero],fun a x hx e he=> ?_⟩
 have hdf:d≠f:=fun e=>by rw[e,hf]at hdt;cases hdt
 obtain⟨y,hy,_,hn⟩:=yx hx
 rw[Dw]
 rcases qA hT.sorted hy with⟨h1,h2⟩|⟨h1,h2⟩
 ·rcases hn e he with h3|⟨h3,h4⟩
  ·rw[h2]at h3;cases h3
  ·exact absurd (h3.symm.trans h1) hdf
 ·rcases hn e he with h3|⟨h3,h4⟩
  ·have hup:=h.up a y h2 e h3
   have hl:=(hT.leads a y h2 e h3).1
   have hef:e.2≠f:=fun e5=>by rw[e5,hf]at hl;cases hl
   simp only[if_neg h1,if_neg hef]
   have:bf (bZ gH f (bS kind) T) e.2=bf T e.2:=by unfold bf;rw[eY,if_neg hef]
   rw[this]
   exact hup
  ·subst h3 h4
   simp only[if_neg h1,if_pos]
   exact⟨hd,fun _=>trivial⟩
def gI (T:aF):Prop:=fB T∧∃dep,dM T dep
def mU (T:aF):Prop:=OkW T∧∃dep,dM T dep
theorem gI.w {T:aF} (h:gI T):mU T:=⟨h.1.w,h.2⟩
instance {T:aF}:Coe (gI T) (mU T):=⟨gI.w⟩
theorem gI.new:gI nM:=by
 refine⟨Hz,fun _=>0,rfl,fun d x hx e he=> ?_⟩
 unfold nM at hx
 rw[eU]at hx
 by_cases hk:(0:Int)=d
 ·rw[if_pos hk]at hx
  cases hx
  cases he
 ·rw[if_neg hk]at hx;cases hx
theorem gI.FM {T:aF} (h:gI T) (d:Int):um T 8 d:=by
 obtain⟨h1,dep,h2⟩:=h
 exact h2.Ia h1 d
theorem gI.dQ {T:aF} (h:gI T) (ls:List Nm) (kind:Int):gI (dQ T ls kind).2:=by
 obtain⟨h1,dep,h2⟩:=h
 refine⟨h1.dQ ls kind,?_⟩
 unfold Go.Proofs.YtjnhnlabpccgjaaGreat.dQ
 by_cases he:jl T ls kind=0
 ·rw[if_pos he]
  obtain⟨a1,a2,a3,a4,a5⟩:=yh h1 he
  obtain⟨x,hx,hk,hm⟩:=fV h1 a3
  obtain⟨f,hf,hf1,hf2,hfn,_⟩:=h1.free
  show ∃dep,dM (qz T ls kind) dep
  unfold qz
  rw[hf]
  exact h2.make h1 (h2.place (nt:=(aC T ls).2.1) (Prod.ext rfl (Prod.ext rfl a3)) (mE a1)) hfn (by omega) (by rw[hx];rfl)
 ·rw[if_neg he];exact⟨dep,h2⟩
theorem gI.dW {T:aF} (h:gI T) (p tq:List Nm):gI (dW T p tq).2:=by
 obtain⟨h1,dep,h2⟩:=h
 refine⟨h1.dW p tq,?_⟩
 unfold Go.Proofs.YtjnhnlabpccgjaaGreat.dW
 by_cases he:jM T p tq=0
 ·simp only[if_pos he]
  obtain⟨a1,a2,a3,a4,a5,a6⟩:=yj he
  have h3:=h2.link (n:=(aC T tq).2.1) (h2.place (nt:=(aC T tq).2.1) (Prod.ext rfl (Prod.ext rfl a4)) (mE (mP a1).2)) a3
  unfold xS
  exact⟨dep,h3.sub (Sub.aX (fun _=>by exact rfl) fun x e he=>he)⟩
 ·simp only[if_neg he];exact⟨dep,h2⟩
theorem gI.b_ {T:aF} (h:gI T) (p:List Nm):gI (b_ T p).2:=by
 obtain⟨h1,dep,h2⟩:=h
 refine⟨h1.b_ p,dep,?_⟩
 unfold Go.Proofs.YtjnhnlabpccgjaaGreat.b_
 simp only
 split
 ·unfold nP
  exact h2.sub ((Sub.settle _).trans ((Sub.aX (f:=fun x=>{x with links:=x.links-1}) (fun _=>by exact rfl) fun x e he=>he).trans (Sub.cut _ _)))
 ·exact h2
theorem gI.dF {T:aF} (h:gI T) (p:List Nm):gI (dF T p).2:=by
 obtain⟨h1,dep,h2⟩:=h
 refine⟨h1.dF p,dep,?_⟩
 unfold Go.Proofs.YtjnhnlabpccgjaaGreat.dF
 simp only
 split
 ·unfold tO
  exact h2.sub ((Sub.del _).trans (Sub.cut _ _))
 ·exact h2
theorem gI.dw {T:aF} (h:gI T) (id:Int) (b:List UInt8):gI (dw T id b).2:=by
 obtain⟨h1,dep,h2⟩:=h
 refine⟨h1.dw id b,dep,?_⟩
 unfold Go.Proofs.YtjnhnlabpccgjaaGreat.dw
 simp only
 split
 ·exact h2.sub (Sub.aX (fun _=>by exact rfl) fun x e he=>he)
 ·exact h2
theorem gI.fU {T:aF} (h:gI T) (id aO:Int) (h0:0≤aO):gI (fU T id aO).2:=by
 obtain⟨h1,dep,h2⟩:=h
 refine⟨h1.fU id aO h0,dep,?_⟩
 unfold Go.Proofs.YtjnhnlabpccgjaaGreat.fU
 simp only
 split
 ·exact h2.sub ((Sub.settle _).trans (Sub.aX (fun _=>by exact rfl) fun x e he=>he))
 ·exact h2
theorem gI.fG {T:aF} (h:gI T) (id aO:Int) (h0:0≤aO):gI (fG T id aO).2:=by
 obtain⟨h1,dep,h2⟩:=h
 refine⟨h1.fG id aO h0,dep,?_⟩
 unfold Go.Proofs.YtjnhnlabpccgjaaGreat.fG
 simp only
 split
 ·exact h2.sub (Sub.aX (fun _=>by exact rfl) fun x e he=>he)
 ·exact h2
def dV (T:aF) (id:Int):aF:=T.map fun q=>(q.1,{q.2 with names:=q.2.names.filter fun e=> !decide (e.2=id)})
theorem nY (T:aF) (id:Int):K3 T id=bB id (dV T id):=rfl
def fF (id:Int) (x:bA):bA:={x with names:=x.names.filter fun e=> !decide (e.2=id)}
theorem iI (T:aF) (id k:Int):ah k (dV T id)=(ah k T).map (fF id):=C8 (fF id) k T
theorem LG (id j:Int) (x:bA):cn j (fF id x)=if j=id then 0 else cn j x:=by
 unfold cn fF
 simp only
 rw[List.countP_filter]
 by_cases h:j=id
 ·subst h
  rw[if_pos rfl,List.countP_eq_zero]
  intro e _
  simp
 ·rw[if_neg h]
  apply List.countP_congr
  intro e _
  simp only[Bool.and_eq_true,decide_eq_true_eq,Bool.not_eq_true',decide_eq_false_iff_not]
  exact⟨fun h1=>h1.1,fun h1=>⟨h1,fun h2=>h (h1.symm.trans h2)⟩⟩
theorem yA (T:aF) (id j:Int):eB (dV T id) j=if j=id then 0 else eB T j:=by
 induction T with
 |nil=>simp[eB,dV]
 |cons y r ih=>
  have e1:eB (dV (y::r) id) j=cn j (fF id y.2)+eB (dV r id) j:=by
   unfold eB dV fF;simp
  have e2:eB (y::r) j=cn j y.2+eB r j:=by unfold eB;simp
  rw[e1,e2,ih,LG]
  split<;>simp
theorem xU.strip {T:aF} (h:xU T) (id:Int):xU (dV T id):=by
 have hget:∀k x,ah k (dV T id)=some x→∃y,ah k T=some y∧x=fF id y:=fun k x hx=>by
  rw[iI]at hx
  cases hy:ah k T with
  |none=>rw[hy]at hx;cases hx
  |some y=>
   rw[hy]at hx
   simp only[Option.map_some,Option.some.injEq]at hx
   exact⟨y,rfl,hx.symm⟩
 refine⟨?_,?_,fun k x hx=> ?_,fun k x hx e he=> ?_,by unfold dV;rw[List.length_map];exact h.len,fun k x hx=> ?_⟩
 ·have:=h.sorted
  unfold aI dV at*
  rw[List.pairwise_map]
  exact this
 ·obtain⟨x,hx,hk⟩:=eX h.root
  unfold bf
  rw[iI,hx]
  exact hk
 ·obtain⟨y,hy,rfl⟩:=hget k x hx
  have o:=h.each k y hy
  refine⟨o.kind,fun h1=> ?_,o.dir,o.gone,?_,fun e he=>o.good e (List.mem_filter.1 he).1,o.size,o.links,o.aO⟩
  ·unfold fF
   simp only
   rw[o.file h1];rfl
  ·exact List.Pairwise.filter _ o.sorted
 ·obtain⟨y,hy,rfl⟩:=hget k x hx
  have:=h.leads k y hy e (List.mem_filter.1 he).1
  refine⟨?_,this.2⟩
  rw[iI]
  obtain⟨z,hz⟩:=Option.isSome_iff_exists.1 this.1
  rw[hz];rfl
 ·obtain⟨y,hy,rfl⟩:=hget k x hx
  exact h.ids k y hy
theorem rz.strip {T:aF} (h:rz T) (id:Int):rz (dV T id):=
 rz.Q8 (h.w.strip id) fun k x hx=>by
  rw[iI]at hx
  cases hy:ah k T with
  |none=>rw[hy]at hx;cases hx
  |some y=>
   rw[hy]at hx
   simp only[Option.map_some,Option.some.injEq]at hx
   subst hx
   exact(h.each k y hy).links.2
theorem Sub.strip (T:aF) (id:Int):Sub (dV T id) T:=fun d x hx=>by
 rw[iI]at hx
 cases hy:ah d T with
 |none=>rw[hy]at hx;cases hx
 |some y=>
  rw[hy]at hx
  simp only[Option.map_some,Option.some.injEq]at hx
  subst hx
  exact⟨y,rfl,rfl,fun e he=>(List.mem_filter.1 he).1⟩
theorem yB {T:aF} {id:Int} (h:lV T id=0):∃x,ah id T=some x∧x.kind≠2∧x.closed=false:=by
 unfold lV at h
 cases hx:ah id T with
 |none=>rw[hx]at h;cases h
 |some x=>
  rw[hx]at h
  simp only at h
  by_cases hk:x.kind=2
  ·rw[if_pos hk]at h;cases h
  ·rw[if_neg hk]at h
   cases hc:x.closed with
   |true=>rw[hc]at h;cases h
   |false=>exact⟨x,rfl,hk,hc⟩
theorem OkW.eD {T:aF} (h:OkW T) (id:Int):OkW (eD T id).2:=by
 unfold Go.Proofs.YtjnhnlabpccgjaaGreat.eD
 by_cases he:lV T id=0
 ·simp only[if_pos he]
  obtain⟨x,hx,hk,_⟩:=yB he
  have h0:id≠0:=fun e=>by
   have hr:=h.root
   unfold bf at hr
   rw[←e,hx]at hr
   exact hk hr
  have hnil:=(h.each id x hx).file ((h.each id x hx).kind.resolve_right hk)
  have hS:=h.toxU.strip id
  have hx':ah id (dV T id)=some (fF id x):=by rw[iI,hx];rfl
  have hn':(fF id x).names=[]:=by unfold fF;simp only;rw[hnil];rfl
  rw[nY]
  refine⟨hS.del hx' h0 (by rw[yA,if_pos rfl]),fun j y hy hj=> ?_⟩
  have hji:j≠id:=fun e=>by subst e;rw[mH]at hy;cases hy
  rw[dP,if_neg hji,iI]at hy
  cases hz:ah j T with
  |none=>rw[hz]at hy;cases hy
  |some z=>
   rw[hz]at hy
   simp only[Option.map_some,Option.some.injEq]at hy
   have h1:=vG hS.sorted hx' j
   have h2:cn j (fF id x)=0:=by unfold cn;rw[hn'];rfl
   have h3:=yA T id j
   rw[if_neg hji]at h3
   have h4:=h.counts j z hz hj
   have h5:y.links=z.links:=by rw[←hy];rfl
   omega
 ·simp only[if_neg he];exact h
theorem fB.eD {T:aF} (h:fB T) (id:Int):fB (eD T id).2:=by
 have hw:=h.w.eD id
 refine⟨rz.Q8 hw.toxU fun k x hx=> ?_,hw.counts⟩
 unfold Go.Proofs.YtjnhnlabpccgjaaGreat.eD at hx
 simp only at hx
 split at hx
 ·rw[nY,dP]at hx
  split at hx
  ·cases hx
  ·rw[iI]at hx
   cases hy:ah k T with
   |none=>rw[hy]at hx;cases hx
   |some y=>
    rw[hy]at hx
    simp only[Option.map_some,Option.some.injEq]at hx
    subst hx
    exact(h.each k y hy).links.2
 ·exact(h.each k x hx).links.2
theorem gI.eD {T:aF} (h:gI T) (id:Int):gI (eD T id).2:=by
 obtain⟨h1,dep,h2⟩:=h
 refine⟨h1.eD id,dep,?_⟩
 unfold Go.Proofs.YtjnhnlabpccgjaaGreat.eD
 simp only
 split
 ·rw[nY]
  exact h2.sub ((Sub.del _).trans (Sub.strip _ _))
 ·exact h2
theorem Ch {T:aF} {p tq:List Nm} (h:gV T p tq=0):iC p tq=0∧(aA T 0 p).2=0∧(aA T 0 p).1≠0∧(aC T tq).2.2=0∧(bf T (aA T 0 p).1=2→iH tq p=false)∧(ah (aC T tq).2.1 (aJ T (aC T tq).1)=none→tq.length+gy T 8 (aA T 0 p).1≤8):=by
 unfold gV at h
 by_cases h1:iC p tq≠0
 ·rw[if_pos h1]at h;exact absurd h h1
 ·rw[if_neg h1]at h
  by_cases h2:(aA T 0 p).2≠0
  ·rw[if_pos h2]at h;exact absurd h h2
  ·rw[if_neg h2]at h
   by_cases h3:(aA T 0 p).1=0
   ·rw[if_pos h3]at h;cases h
   ·rw[if_neg h3]at h
    by_cases h4:(aC T tq).2.2≠0
    ·rw[if_pos h4]at h;exact absurd h h4
    ·rw[if_neg h4]at h
     by_cases h5:bf T (aA T 0 p).1=2∧iH tq p=true
     ·rw[if_pos h5]at h;cases h
     ·rw[if_neg h5]at h
      refine⟨by omega,by omega,h3,by omega,fun h6=> ?_,fun h6=> ?_⟩
      ·cases hw:iH tq p with
       |false=>rfl
       |true=>exact absurd ⟨h6,hw⟩ h5
      ·rw[h6]at h
       simp only at h
       split at h
       ·cases h
       ·omega
theorem gI.bg {T:aF} (h:gI T) (p tq:List Nm):gI (bg T p tq).2:=by
 unfold Go.Proofs.YtjnhnlabpccgjaaGreat.bg
 simp only
 by_cases hc:gV T p tq=0∧(ah (aC T tq).2.1 (aJ T (aC T tq).1)).isSome=false
 ·rw[if_pos hc]
  obtain⟨h1,dep,h2⟩:=h
  obtain⟨a1,a2,a3,a4,a5,a6⟩:=Ch hc.1
  have hn:ah (aC T tq).2.1 (aJ T (aC T tq).1)=none:=by simpa using hc.2
  have hlk:aA T 0 p=((aA T 0 p).1,0):=Prod.ext rfl a2
  have hpl:aC T tq=((aC T tq).1,(aC T tq).2.1,0):=Prod.ext rfl (Prod.ext rfl a4)
  obtain⟨x2,hx2,hk2,hm2⟩:=fV h1 a4
  have hpn:p≠[]:=fun e=>a3 (by rw[e];rfl)
  obtain⟨d1,x1,n1,e1,hl1,hx1,hk1,hn1,_,ep⟩:=bQ hlk hpn
  have hf:=mP a1
  unfold nX
  refine⟨?_,h2.move h1 hlk a3 hpl (mE hf.2) fun hk=>⟨a5 hk,a6 hn⟩⟩
  rw[e1]
  rw[bT hx2]at hn
  exact h1.move hx1 hk1 hn1 hx2 hk2 (h_ hf.2 _ hm2) hn
 ·rw[if_neg hc];exact h
def fP (T:aF) (id:Int):Nat→Int→List Nm→List (List Nm)
 |0,a,p=>if a=id then[p]else[]
 |n+1,a,p=>(if a=id then[p]else[])++(aJ T a).flatMap fun e=>fP T id n e.2 (p++[e.1])
theorem o_ {T:aF} {id:Int}:∀(n:Nat) (a:Int) (p q:List Nm),q∈fP T id n a p→∃s,q=p++s
 |0,a,p,q,h=>by
  unfold fP at h
  split at h
  ·simp only[List.mem_singleton]at h
   exact⟨[],by simp[h]⟩
  ·cases h
 |n+1,a,p,q,h=>by
  unfold fP at h
  rcases List.mem_append.1 h with h|h
  ·split at h
   ·simp only[List.mem_singleton]at h
    exact⟨[],by simp[h]⟩
   ·cases h
  ·obtain⟨e,_,he⟩:=List.mem_flatMap.1 h
   obtain⟨s,hs⟩:=o_ n e.2 _ q he
   exact⟨e.1::s,by rw[hs];simp⟩
theorem rG {T:aF} (hT:OkW T) {id:Int}:∀(n:Nat) (a:Int) (p q:List Nm),(ah a T).isSome=true→um T n a→(q∈fP T id n a p↔∃s,q=p++s∧aA T a s=(id,0))
 |0,a,p,q,ha,hs=>by
  unfold fP
  constructor
  ·intro h
   split at h
   ·rename_i he
    simp only[List.mem_singleton]at h
    exact⟨[],by simp[h],by simp[aA,he]⟩
   ·cases h
  ·rintro ⟨s,rfl,hl⟩
   cases s with
   |nil=>
    have:a=id:=congrArg Prod.fst hl
    rw[if_pos this]
    simp
   |cons m r=>
    obtain⟨x,k,hx,_,hn,_⟩:=jg hl
    have h1:aJ T a=[]:=hs
    rw[bT hx]at h1
    rw[h1]at hn
    cases hn
 |n+1,a,p,q,ha,hs=>by
  unfold fP
  rw[List.mem_append,List.mem_flatMap]
  constructor
  ·rintro (h|⟨e,he,h⟩)
   ·split at h
    ·rename_i he
     simp only[List.mem_singleton]at h
     exact⟨[],by simp[h],by simp[aA,he]⟩
    ·cases h
   ·obtain⟨x,hx,hm⟩:=kK he
    obtain⟨s,h1,h2⟩:=(rG hT n e.2 _ q (hT.leads a x hx e hm).1 (hs e he)).1 h
    refine⟨e.1::s,by rw[h1];simp,?_⟩
    unfold aA
    rw[hx]
    simp only
    rw[if_pos (kL hT hx hm),aL nk (hT.each a x hx).sorted hm]
    exact h2
  ·rintro ⟨s,rfl,hl⟩
   cases s with
   |nil=>
    have:a=id:=congrArg Prod.fst hl
    left
    rw[if_pos this]
    simp
   |cons m r=>
    obtain⟨x,k,hx,_,hn,hr⟩:=jg hl
    have he:(m,k)∈aJ T a:=by rw[bT hx];exact bq hn
    exact .inr ⟨(m,k),he,(rG hT n k _ _ (hT.leads a x hx _ (bq hn)).1 (hs _ he)).2 ⟨r,by simp,hr⟩⟩
theorem Ci {T:aF} (hT:OkW T) (a:Int):(aJ T a).Pairwise fun e e'=>e.1≠e'.1:=by
 unfold aJ
 cases hx:ah a T with
 |none=>exact List.Pairwise.nil
 |some x=>exact(hT.each a x hx).sorted.apart nk
theorem qF {T:aF} (hT:OkW T) {id:Int}:∀(n:Nat) (a:Int) (p:List Nm),(fP T id n a p).Nodup
 |0,a,p=>by
  unfold fP
  split<;>simp
 |n+1,a,p=>by
  unfold fP
  rw[List.nodup_append]
  refine⟨by split<;>simp,?_,fun q hq q' hq'=> ?_⟩
  ·unfold List.Nodup
   rw[List.pairwise_flatMap]
   refine⟨fun e _=>qF hT n e.2 _,(Ci hT a).imp fun{e e'} hne q hq q' hq' he=> ?_⟩
   obtain⟨s,h1⟩:=o_ n e.2 _ q hq
   obtain⟨s',h2⟩:=o_ n e'.2 _ q' hq'
   rw[h1,h2,List.append_assoc,List.append_assoc]at he
   have:=List.append_cancel_left he
   simp only[List.singleton_append,List.cons.injEq]at this
   exact hne this.1
  ·split at hq
   ·simp only[List.mem_singleton]at hq
    subst hq
    obtain⟨e,_,he⟩:=List.mem_flatMap.1 hq'
    obtain⟨s,h2⟩:=o_ n e.2 _ q' he
    intro heq
    have:=congrArg List.length (heq.trans h2)
    simp at this
   ·cases hq
theorem AP {T:aF} {dep:Int→Nat} (hT:OkW T) (hd:dM T dep):∀(n:Nat) (d:Int),dep d≤n→bf T d=2→∃q,aA T 0 q=(d,0)
 |n,d,hn,hk=>by
  by_cases h0:d=0
  ·exact⟨[],by rw[h0];rfl⟩
  ·obtain⟨x,hx,hxk⟩:=eX hk
   have hc:=hT.counts d x hx h0
   rw[((hT.each d x hx).dir hxk).1]at hc
   have hpos:0<eB T d:=by omega
   have:∃q∈T,0<cn d q.2:=by
    unfold eB at hpos
    cases hall:T.all (fun q=>cn d q.2==0)with
    |false=>
     rw[List.all_eq_false]at hall
     obtain⟨q,hq,h1⟩:=hall
     exact⟨q,hq,by simp at h1;omega⟩
    |true=>
     rw[List.all_eq_true]at hall
     have hz:(T.map fun q=>cn d q.2).sum=0:=by
      have:∀l:aF,(∀q∈l,cn d q.2=0)→(l.map fun q=>cn d q.2).sum=0:=by
       intro l
       induction l with
       |nil=>intro _;rfl
       |cons y r ih=>
        intro hh
        rw[List.map_cons,List.sum_cons,hh y (by simp),ih fun q hq=>hh q (by simp[hq])]
      exact this T fun q hq=>by simpa using hall q hq
     omega
   obtain⟨q,hq,hcq⟩:=this
   unfold cn at hcq
   rw[List.countP_pos_iff]at hcq
   obtain⟨e,he,hed⟩:=hcq
   simp only[decide_eq_true_eq]at hed
   have LH:=aL bW hT.sorted hq
   have hup:=(hd.up q.1 q.2 LH e he).2 (by rw[hed];exact hk)
   rw[hed]at hup
   match n,hn with
   |0,hn=>omega
   |n+1,hn=>
    obtain⟨p,hp⟩:=AP hT hd n q.1 (by omega) ((aY LH).trans (kL hT LH he))
    refine⟨p++[e.1],?_⟩
    rw[fO,hp,if_pos rfl]
    unfold aA
    rw[LH]
    simp only
    rw[if_pos (kL hT LH he),aL nk (hT.each _ _ LH).sorted he]
    simp only
    rw[hed]
    rfl
open Classical in
noncomputable def NU (T:aF) (d:Int):List Nm:=if h:∃q,aA T 0 q=(d,0)then h.choose else[]
theorem uq {T:aF} {d:Int} (h:∃q,aA T 0 q=(d,0)):aA T 0 (NU T d)=(d,0):=by
 unfold NU
 rw[dif_pos h]
 exact h.choose_spec
noncomputable def Ic (T:aF) (id:Int):List (List Nm):=T.flatMap fun d=>(d.2.names.filter fun e=>decide (e.2=id)).map fun e=>NU T d.1++[e.1]
theorem Jh (T:aF) (id:Int):(Ic T id).length=eB T id:=by
 unfold Ic eB
 rw[List.length_flatMap]
 congr 1
 apply List.map_congr_left
 intro q _
 rw[List.length_map,cn,List.countP_eq_length_filter]
theorem sJ {α:Type} [DecidableEq α]:∀{l m:List α},l.Nodup→m.Nodup→(∀a,a∈l↔a∈m)→l.Perm m
 |[],m,_,_,h=>by
  have:m=[]:=List.eq_nil_iff_forall_not_mem.2 fun a ha=>by have:=(h a).2 ha;cases this
  rw[this]
 |x::r,m,hl,hm,h=>by
  have hx:x∈m:=(h x).1 (by simp)
  obtain⟨h1,h2⟩:=List.nodup_cons.1 hl
  have hp:=List.perm_cons_erase hx
  refine List.Perm.trans (List.Perm.cons x (sJ h2 (hm.erase x) fun a=> ?_)) hp.symm
  rw[hm.mem_erase_iff]
  constructor
  ·intro ha
   exact⟨fun e=>h1 (e▸ha),(h a).1 (by simp[ha])⟩
  ·rintro ⟨hne,ha⟩
   rcases List.mem_cons.1 ((h a).2 ha)with h3|h3
   ·exact absurd h3 hne
   ·exact h3
theorem wI {T:aF} (hO:mU T) {id:Int} (h0:id≠0):(fP T id 8 0 []).length=eB T id:=by
 obtain⟨hT,dep,hd⟩:=hO
 have hS:um T 8 0:=hd.Ia hT 0
 have vM:∀d x,ah d T=some x→∀e∈x.names,aA T 0 (NU T d)=(d,0):=fun d x hx e he=>uq (AP hT hd (dep d) d (Nat.le_refl _) ((aY hx).trans (kL hT hx he)))
 rw[←Jh]
 refine(sJ (qF hT 8 0 []) ?_ fun q=> ?_).length_eq
 ·unfold Ic List.Nodup
  rw[List.pairwise_flatMap]
  refine⟨fun d NV=> ?_,?_⟩
  ·rw[List.pairwise_map]
   have hs:=(hT.each _ _ (aL bW hT.sorted NV)).sorted.apart nk
   refine(List.Pairwise.filter _ hs).imp fun{e e'} hne he=>hne ?_
   have:=List.append_cancel_left he
   simpa using this
  ·refine(hT.sorted.apart bW).imp_of_mem fun{d d'} NV WB hne q hq q' hq' he=> ?_
   obtain⟨e,he1,rfl⟩:=List.mem_map.1 hq
   obtain⟨e',he2,rfl⟩:=List.mem_map.1 hq'
   have hl:=congrArg List.dropLast he
   rw[List.dropLast_concat,List.dropLast_concat]at hl
   have h1:=vM d.1 d.2 (aL bW hT.sorted NV) e (List.mem_filter.1 he1).1
   have h2:=vM d'.1 d'.2 (aL bW hT.sorted WB) e' (List.mem_filter.1 he2).1
   rw[hl,h2]at h1
   exact hne (congrArg Prod.fst h1).symm
 ·rw[rG hT 8 0 [] q (dH hT) hS]
  unfold Ic
  rw[List.mem_flatMap]
  constructor
  ·rintro ⟨s,WC,hl⟩
   rw[List.nil_append]at WC
   rw[←WC]at hl
   clear WC
   have hs:q≠[]:=fun e=>by
    rw[e]at hl
    exact h0 (congrArg Prod.fst hl).symm
   obtain⟨d,x,n,-,hl1,hx,hxk,hn,_,e1⟩:=bQ hl hs
   have hmem:=bq hn
   have h2:=mR hT q.dropLast.length q.dropLast (NU T d) d (Nat.le_refl _) hl1 (vM d x hx _ hmem) ((aY hx).trans hxk)
   refine⟨(d,x),bq hx,List.mem_map.2 ⟨(n,id),List.mem_filter.2 ⟨hmem,by simp⟩,?_⟩⟩
   rw[e1,h2]
  ·rintro ⟨d,NV,hq⟩
   obtain⟨e,he,rfl⟩:=List.mem_map.1 hq
   obtain⟨hen,Qv⟩:=List.mem_filter.1 he
   simp only[decide_eq_true_eq]at Qv
   have hx:=aL bW hT.sorted NV
   refine⟨NU T d.1++[e.1],rfl,?_⟩
   rw[fO,vM d.1 d.2 hx e hen,if_pos rfl]
   unfold aA
   rw[hx]
   simp only
   rw[if_pos (kL hT hx hen),aL nk (hT.each _ _ hx).sorted hen]
   simp only
   rw[Qv]
   rfl
def nZ (T:aF) (id:Int):List (List Nm):=fP T id 8 0 []
theorem qG {T:aF} (hO:mU T) {id:Int} {q:List Nm}:q∈nZ T id↔aA T 0 q=(id,0):=by
 obtain⟨hT,dep,hd⟩:=hO
 unfold nZ
 rw[rG hT 8 0 [] q (dH hT) (hd.Ia hT 0)]
 constructor
 ·rintro ⟨s,h1,h2⟩
  rw[List.nil_append]at h1
  rw[h1]
  exact h2
 ·exact fun h=>⟨q,rfl,h⟩
theorem AQ {T:aF} {dep:Int→Nat} (hT:OkW T) (hd:dM T dep):∀(q:List Nm) (a id:Int),aA T a q=(id,0)→(∀n∈q,bV n=true)∧(q≠[]→dep a+q.length≤8)
 |[],a,id,h=>⟨fun n hn=>by simp at hn,fun h=>absurd rfl h⟩
 |m::r,a,id,h=>by
  obtain⟨x,k,hx,hk,hn,hr⟩:=jg h
  have hm:=bq hn
  have hu:=hd.up a x hx _ hm
  obtain⟨h1,h2⟩:=AQ hT hd r k id hr
  refine⟨fun n hn'=> ?_,fun _=> ?_⟩
  ·rcases List.mem_cons.1 hn' with rfl|h3
   ·exact(hT.each a x hx).good _ hm
   ·exact h1 n h3
  ·cases r with
   |nil=>simp only[List.length_cons,List.length_nil];omega
   |cons m' r'=>
    have h3:=h2 (by simp)
    obtain⟨y,k',hy,hk',_,_⟩:=jg hr
    have:=hu.2 ((aY hy).trans hk')
    simp only at this
    simp only[List.length_cons]at h3⊢
    omega
theorem AU {T:aF} (hO:mU T) {q:List Nm} {id:Int} (h:aA T 0 q=(id,0)):q.length≤8∧(∀n∈q,bV n=true)∧bK q=0∧dY T q=(id,0):=by
 obtain⟨hT,dep,hd⟩:=hO
 obtain⟨h1,h2⟩:=AQ hT hd q 0 id h
 have hl:q.length≤8:=by
  by_cases hq:q=[]
  ·rw[hq];decide
  ·have:=h2 hq;omega
 have hf:bK q=0:=by
  unfold bK
  have ha:q.any (fun x=> !bV x)=false:=by
   rw[List.any_eq_false]
   intro x hx
   rw[h1 x hx]
   decide
  rw[ha]
  simp only[Bool.false_eq_true,if_false]
  rw[if_neg (by omega)]
 refine⟨hl,h1,hf,?_⟩
 unfold dY
 rw[if_neg (by simp[hf])]
 exact h
theorem AV {T:aF} (hT:OkW T):∀(q:List Nm) (a:Int),aA T a q=(0,0)→q≠[]→False
 |[],a,h,hq=>hq rfl
 |m::r,a,h,_=>by
  obtain⟨x,k,hx,hk,hn,hr⟩:=jg h
  have hl:=hT.leads a x hx _ (bq hn)
  cases r with
  |nil=>
   have:k=0:=congrArg Prod.fst hr
   exact hl.2 this
  |cons m' r'=>exact AV hT _ k hr (by simp)
theorem Ji {T:aF} (hO:mU T):nZ T 0=[[]]:=by
 have hnd:(nZ T 0).Nodup:=qF hO.1 8 0 []
 have h0:([]:List Nm)∈nZ T 0:=(qG hO).2 rfl
 have hall:∀q∈nZ T 0,q=[]:=fun q hq=>by
  by_cases hq0:q=[]
  ·exact hq0
  ·exact(AV hO.1 q 0 ((qG hO).1 hq) hq0).elim
 generalize nZ T 0=l at hnd h0 hall
 match l,hnd,h0,hall with
 |[q],_,_,hall=>rw[hall q (by simp)]
 |q::q'::r,hnd,_,hall=>
  have h1:=hall q (by simp)
  have h2:=hall q' (by simp)
  rw[h1,h2]at hnd
  simp at hnd
theorem LJ {T:aF} (hO:mU T) {id:Int} {x:bA} (hx:ah id T=some x):((nZ T id).length:Int)=if id=0 then 1 else x.links:=by
 by_cases h0:id=0
 ·rw[if_pos h0,h0,Ji hO];rfl
 ·rw[if_neg h0,←hO.1.counts id x hx h0]
  unfold nZ
  rw[wI hO h0]
theorem yC {T:aF} (hO:mU T) {id:Int} {x:bA} (hx:ah id T=some x):((nZ T id).length:Int)=x.links:=by
 rw[LJ hO hx]
 by_cases h0:id=0
 ·rw[if_pos h0]
  have hr:=hO.1.root
  rw[←h0,aY hx]at hr
  rw[((hO.1.each id x hx).dir hr).1]
 ·rw[if_neg h0]
theorem Jj {T:aF} (hO:mU T) {id:Int} (hx:ah id T=none):nZ T id=[]:=by
 rw[List.eq_nil_iff_forall_not_mem]
 intro q hq
 have hl:=(qG hO).1 hq
 have:=eF hO.1 q 0 (dH hO.1) (by rw[hl])
 rw[hl,hx]at this
 cases this
theorem Ie {T:aF} (hO:mU T) (id:Int):(nZ T id).length≤65535:=by
 cases hx:ah id T with
 |none=>rw[Jj hO hx];simp
 |some x=>
  have h1:=yC hO hx
  have h2:=(hO.1.each id x hx).links
  omega
def below_ (T:aF) (k:Nat):Nat:=T.countP fun q=>decide (q.1<(k:Int))
theorem below_le (T:aF) (k:Nat):below_ T k≤T.length:=List.countP_le_length
theorem qc {T:aF} {k:Nat} (hn:∀q∈T,q.1≠(k:Int)):below_ T (k+1)=below_ T k:=by
 unfold below_
 apply List.countP_congr
 intro q hq
 have:=hn q hq
 simp only[decide_eq_true_eq]
 omega
theorem qd:∀{T:aF} {k:Nat},T.Pairwise (fun p q=>p.1≠q.1)→(∃q∈T,q.1=(k:Int))→below_ T (k+1)=below_ T k+1
 |[],k,_,h=>by obtain⟨q,hq,_⟩:=h;cases hq
 |y::r,k,hp,h=>by
  obtain⟨h1,h2⟩:=List.pairwise_cons.1 hp
  by_cases hy:y.1=(k:Int)
  ·have h3:=qc (T:=r) (k:=k) fun q hq he=>h1 q hq (by rw[he];exact hy)
   unfold below_ at h3⊢
   rw[List.countP_cons,List.countP_cons,h3,if_pos (by simp;omega),if_neg (by simp;omega)]
  ·obtain⟨q,hq,he⟩:=h
   rcases List.mem_cons.1 hq with h3|h3
   ·subst h3;exact absurd he hy
   ·have h4:=qd h2 ⟨q,h3,he⟩
    unfold below_ at h4⊢
    rw[List.countP_cons,List.countP_cons,h4]
    by_cases h5:y.1<(k:Int)
    ·rw[if_pos (by simp;omega),if_pos (by simpa using h5)]
    ·rw[if_neg (by simp;omega),if_neg (by simpa using h5)]
theorem FQ {T:aF} (hT:OkW T):below_ T 0=0:=by
 unfold below_
 rw[List.countP_eq_zero]
 intro q hq
 have:=(hT.ids q.1 q.2 (aL bW hT.sorted hq)).1
 simp only[decide_eq_true_eq]
 omega
theorem Jk {T:aF} (hT:OkW T):below_ T 65536=T.length:=by
 unfold below_
 rw[List.countP_eq_length]
 intro q hq
 have:=(hT.ids q.1 q.2 (aL bW hT.sorted hq)).2
 simp only[decide_eq_true_eq]
 omega
theorem LK {T:aF} (hT:OkW T) (k:Nat):below_ T (k+1)=below_ T k+if (ah (k:Int) T).isSome then 1 else 0:=by
 cases hx:ah (k:Int) T with
 |none=>
  simp only[Option.isSome_none,Bool.false_eq_true,if_false,Nat.add_zero]
  exact qc fun q hq he=>by
   have:=aL bW hT.sorted hq
   rw[he,hx]at this
   cases this
 |some x=>
  simp only[Option.isSome_some,if_true]
  exact qd (hT.sorted.apart bW) ⟨_,bq hx,rfl⟩
def doneN (left:Nm→Bool) (l:List (Nm×Int)):List (Nm×Int):=l.filter fun e=> !left e.1
theorem pq {left:Nm→Bool} {k:Nm} {j:Int}:∀{l:List (Nm×Int)},l.Pairwise (fun e e'=>e.1≠e'.1)→(k,j)∈l→left k=true→(doneN (fun z=>left z&& !decide (z=k)) l).Perm (doneN left l++[(k,j)])
 |[],_,h,_=>by cases h
 |y::r,hp,h,hl=>by
  obtain⟨h1,h2⟩:=List.pairwise_cons.1 hp
  unfold doneN
  rw[List.filter_cons,List.filter_cons]
  rcases List.mem_cons.1 h with h3|h3
  ·subst h3
   have hr:r.filter (fun e=> !(left e.1&& !decide (e.1=k)))=r.filter fun e=> !left e.1:=by
    apply List.filter_congr
    intro e he
    have hne:e.1≠k:=fun hh=>h1 e he hh.symm
    simp[hne]
   rw[hr]
   simp only[decide_true,Bool.not_true,Bool.and_false,Bool.not_false,if_true,hl]
   rw[if_neg (by decide)]
   exact(List.perm_append_singleton _ _).symm
  ·have hne:y.1≠k:=h1 (k,j) h3
   have ih:=pq h2 h3 hl
   unfold doneN at ih
   have e1:(!(left y.1&& !decide (y.1=k)))= !left y.1:=by simp[hne]
   rw[e1]
   cases left y.1 with
   |true=>simpa using ih
   |false=>simpa using ih
theorem yD {left:Nm→Bool} {l:List (Nm×Int)} (h:∀e∈l,left e.1=true):doneN left l=[]:=by
 unfold doneN
 rw[List.filter_eq_nil_iff]
 intro e he
 simp[h e he]
theorem AX {left:Nm→Bool} {l:List (Nm×Int)} (h:∀k,left k=false):doneN left l=l:=by
 unfold doneN
 rw[List.filter_eq_self]
 intro e _
 simp[h e.1]
def Rp (w:World) (n:Nat) (ss:List ByteArray) (e:Ending) (w':World):Prop:=∃v,e= .returned v∧w'.ownsRow w.heap.size 9 1 v n (ss.map .string)∧Below w.heap.size w w'
theorem sK {S:Nat→Prop} (a:Option Addr) (len cap:Nat) (ss:List ByteArray) (w:World) (h:aP S w a len ss) (hsz:len≤1000000):
  Calls Tryz.prog 163 #[.slice a len cap] w (Rp w len ss):=by
 have hl:=h.length
 cases a with
 |none=>
  have h0:len=0:=by
   rcases Nat.eq_zero_or_pos len with h0|h0
   ·exact h0
   ·obtain⟨_,_,e,_⟩:=h.row.at_ h0
    cases e
  subst h0
  obtain rfl:ss=[]:=by simpa using hl
  refine(Tryz.slices_Clone_string_nil 0 cap w).mono ?_
  rintro e w' ⟨rfl,rfl⟩
  exact⟨_,rfl,⟨rfl, .inl ⟨rfl,rfl⟩⟩,Below.refl _ _⟩
 |some ad=>
  by_cases h0:len=0
  ·subst h0
   obtain rfl:ss=[]:=by simpa using hl
   refine(Tryz.slices_Clone_string_zero ad cap w).mono ?_
   rintro e w' ⟨v,rfl,ho,hv,hb⟩
   exact⟨v,rfl,ho,hb⟩
  ·obtain⟨b,off,e,_,_,_⟩:=h.row.at_ (by omega)
   simp only[Option.some.injEq]at e
   subst e
   refine(Tryz.slices_Clone_string b off len cap ss w (by omega) (by omega) (fun j hj=>nQ h j hj)).mono ?_
   rintro e w' ⟨v,rfl,ho,hv,hb⟩
   rw[List.take_of_length_le (by omega)]at ho
   exact⟨v,rfl,ho,hb⟩
def gJ (S:Nat→Prop) (w:World) (u:Value) (q:List Nm):Prop:=∃a c,u= .slice a q.length c∧q.length≤c∧aP S w a q.length (q.map strOf)
def jm (S:Nat→Prop) (w:World) (vals:List Value) (l:List (List Nm)):Prop:=vals.length=l.length∧∀(i:Nat) (q:List Nm),l[i]? =some q→∃u,vals[i]? =some u∧gJ S w u q
theorem gJ.move {S S':Nat→Prop} {w w':World} {u:Value} {q:List Nm} (h:gJ S w u q) (hs:w.heap.size≤w'.heap.size) (hk:∀b,S b→b<w.heap.size→S' b∧w'.heap[b]? =w.heap[b]?):gJ S' w' u q:=by
 obtain⟨a,c,h1,h2,h3⟩:=h
 exact⟨a,c,h1,h2,h3.row.move hs hk,h3.short⟩
theorem jm.move {S S':Nat→Prop} {w w':World} {vals:List Value} {l:List (List Nm)} (h:jm S w vals l) (hs:w.heap.size≤w'.heap.size) (hk:∀b,S b→b<w.heap.size→S' b∧w'.heap[b]? =w.heap[b]?):jm S' w' vals l:=
 ⟨h.1,fun i q hq=>by
  obtain⟨u,h1,h2⟩:=h.2 i q hq
  exact⟨u,h1,h2.move hs hk⟩⟩
theorem jm.append {S:Nat→Prop} {w:World} {v1 v2:List Value} {l1 l2:List (List Nm)} (h:jm S w v1 l1) (k:jm S w v2 l2):jm S w (v1++v2) (l1++l2):=by
 refine⟨by rw[List.length_append,List.length_append,h.1,k.1],fun i q hq=> ?_⟩
 by_cases hi:i<l1.length
 ·rw[List.getElem?_append_left hi]at hq
  rw[List.getElem?_append_left (by rw[h.1];exact hi)]
  exact h.2 i q hq
 ·rw[List.getElem?_append_right (by omega)]at hq
  rw[List.getElem?_append_right (by rw[h.1];omega),h.1]
  exact k.2 _ q hq
def bC (B:Nat) (w:World) (v:Value) (m:Nat) (xs:List Value) (L:List (List Nm)) (v':Value) (w':World):Prop:=
 ∃vals l,l.Perm L∧w'.ownsRow B 61 1 v' (m+l.length) (xs++vals)∧jm (fun b=>w.heap.size≤b∧b<w'.heap.size∧v'.ownBlock≠some b) w' vals l∧Keeps (fun b=>v.ownBlock=some b) w w'∧∀b,v'.ownBlock=some b→v.ownBlock=some b∨w.heap.size≤b
theorem bC.refl {B:Nat} {w:World} {v:Value} {m:Nat} {xs:List Value} (h:w.ownsRow B 61 1 v m xs):bC B w v m xs [] v w:=
 ⟨[],[],List.Perm.refl _,by simpa using h,⟨rfl,fun i q hq=>by simp at hq⟩,Keeps.refl _ _,fun b hb=> .inl hb⟩
theorem bC.trans {B:Nat} {w w1 w2:World} {v v1 v2:Value} {m:Nat} {xs:List Value} {L1 L2:List (List Nm)} (h:bC B w v m xs L1 v1 w1) (k:∀m1 xs1,w1.ownsRow B 61 1 v1 m1 xs1→bC B w1 v1 m1 xs1 L2 v2 w2):bC B w v m xs (L1++L2) v2 w2:=by
 obtain⟨vals,l,hp,ho,hv,hK,hb⟩:=h
 obtain⟨LM,l2,hp2,ho2,hv2,hK2,hb2⟩:=k _ _ ho
 have hs1:=hK.size
 have hs2:=hK2.size
 refine⟨vals++LM,l++l2,hp.append hp2,by rw[List.length_append,←Nat.add_assoc,←List.append_assoc];exact ho2,?_,hK.trans hK2 fun x hx hx1=> ?_,fun b hb'=> ?_⟩
 ·refine(hv.move (by omega) fun b hS hbw=>⟨⟨hS.1,by omega,fun he=> ?_⟩,hK2.block b hbw fun he=>hS.2.2 he⟩).append (hv2.move (Nat.le_refl _) fun b hS hbw=>⟨⟨by omega,hS.2.1,hS.2.2⟩,rfl⟩)
  rcases hb2 b he with h1|h1
  ·exact hS.2.2 h1
  ·omega
 ·rcases hb x hx1 with h1|h1
  ·exact h1
  ·omega
 ·rcases hb2 b hb' with h1|h1
  ·exact hb b h1
  ·exact .inr (by omega)
theorem bC.perm {B:Nat} {w w':World} {v v':Value} {m:Nat} {xs:List Value} {L L':List (List Nm)} (h:bC B w v m xs L v' w') (hp:L.Perm L'):bC B w v m xs L' v' w':=by
 obtain⟨vals,l,h1,h2⟩:=h
 exact⟨vals,l,h1.trans hp,h2⟩
def KI (l:List UInt8):ByteArray:=⟨l.toArray⟩
theorem yE (l:List UInt8):(KI l).data.toList=l:=rfl
theorem LP (l:List UInt8):(KI l).size=l.length:=by simp[KI,ByteArray.size]
theorem LQ {a b:ByteArray} (h:a=b):Ending.returned (.string a)= .returned (.string b):=by rw[h]
theorem Dx {S:Nat→Prop} (a:Option Addr) (len cap:Nat) (ss:List ByteArray) (w:World) (h:aP S w a len ss) (hcap:len≤cap)
  (hlen:(Lib.join (Qr ss) [47]).length≤140737488355328) (hn:len≤140737488355328):
  Calls Tryz.prog 166 #[.slice a len cap, .string ⟨#[47]⟩] w fun e w'=>e= .returned (.string (KI (Lib.join (Qr ss) [47])))∧Below w.heap.size w w':=by
 have hl:=h.length
 by_cases h0:len=0
 ·subst h0
  obtain rfl:ss=[]:=by simpa using hl
  refine(Tryz.strings_Join_none a cap ⟨#[47]⟩ w).mono ?_
  rintro e w' ⟨rfl,rfl⟩
  exact⟨rfl,Below.refl _ _⟩
 ·obtain⟨b,off,rfl,_,hbw,_⟩:=h.row.at_ (by omega)
  subst hl
  refine(Tryz.strings_Join b off cap ss ⟨#[47]⟩ w (fun j x hx=> ?_) hbw hn hcap hlen).mono ?_
  ·have hj:=(List.getElem?_eq_some_iff.1 hx).1
   rw[nQ h j hj]
   simp[List.getD,hx]
  ·rintro e w' ⟨rfl,hb⟩
   exact⟨rfl,hb⟩
theorem LU {S:Nat→Prop} (a:Option Addr) (len cap:Nat) (ss:List ByteArray) (w:World) (h:aP S w a len ss) (hcap:len≤cap)
  (hlen:(Lib.join (Qr ss) [47]).length≤140737488355327) (hn:len≤140737488355328):
  Calls Tryz.prog 133 #[.slice a len cap] w fun e w'=>e= .returned (.string (KI (eO (Qr ss))))∧Below w.heap.size w w':=by
 have hsz:(KI (Lib.join (Qr ss) [47])).size≤140737488355327:=by rw[LP];exact hlen
 go_enter Tryz.func133,Tryz.ntmps133
 go_wp2_with fail
 refine(Dx _ _ _ ss _ h hcap (by omega) hn).mono ?_
 rintro e w1 ⟨rfl,hb⟩
 go_wp2_with fail
 go_ret
 refine⟨LQ (WideShapes.bytes_inj ?_),hb⟩
 simp[yE,eO]
def Small (q:List Nm):Prop:=q.length≤64∧∀n∈q,n.length≤16
theorem yF:∀(q:List Nm),(∀n∈q,n.length≤16)→Lib.lens q≤16*q.length
 |[],_=>by simp[Lib.lens]
 |x::r,h=>by
  have h1:=h x (by simp)
  have h2:=yF r fun n hn=>h n (by simp[hn])
  simp only[Lib.lens,List.map_cons,List.sum_cons,List.length_cons]at h2⊢
  omega
theorem FT {q:List Nm} (h:Small q):(Lib.join q [47]).length≤2000:=by
 cases q with
 |nil=>simp[Lib.join_nil]
 |cons x r=>
  have h1:=yF _ h.2
  have h2:=h.1
  rw[Lib.join_length]
  simp only[List.length_cons,List.length_nil]at h1 h2⊢
  omega
theorem AY {S:Nat→Prop} {w:World} {u:Value} {q:List Nm} (h:gJ S w u q) (hq:Small q):Calls Tryz.prog 133 #[u] w fun e w'=>e= .returned (.string (KI (eO q)))∧Below w.heap.size w w':=by
 obtain⟨a,c,rfl,hc,hs⟩:=h
 have hj:=FT hq
 have hl:=hq.1
 have:=LU a q.length c (q.map strOf) w hs hc (by rw[rA];omega) (by omega)
 rw[rA]at this
 exact this
theorem Dy {S1 S2:Nat→Prop} {w:World} {u1 u2:Value} {q1 q2:List Nm} (h1:gJ S1 w u1 q1) (h2:gJ S2 w u2 q2) (hq1:Small q1) (hq2:Small q2):
  Calls Tryz.prog 131 #[u1,u2] w fun e w'=>e= .returned (.int .i64 (Lib.compareBytes (eO q1) (eO q2)))∧Below w.heap.size w w':=by
 have Y6:=Lib.hid (AY h1 hq1)
 have HJ2:Hid (∀w',Below w.heap.size w w'→Calls Tryz.prog 133 #[u2] w' fun e w''=>e= .returned (.string (KI (eO q2)))∧Below w'.heap.size w' w''):=fun w' hb=>AY (h2.move (S':=fun _=>True) hb.size fun b hb' hbw=>⟨trivial,hb.block b hbw⟩) hq2
 have HC:=Tryz.strings_Compare (KI (eO q1)) (KI (eO q2))
 rw[yE,yE]at HC
 obtain⟨J1,hj1⟩:∃J1,J1=KI (eO q1):=⟨_,rfl⟩
 obtain⟨J2,hj2⟩:∃J2,J2=KI (eO q2):=⟨_,rfl⟩
 obtain⟨z,hz⟩:∃z,z=Lib.compareBytes (eO q1) (eO q2):=⟨_,rfl⟩
 rw[←hj1]at Y6 HC
 rw[←hj2]at HJ2 HC
 rw[←hz]at HC⊢
 have HCC:=Lib.hid HC
 clear hj1 hj2 hz HC h1 h2
 go_enter Tryz.func131,Tryz.ntmps131
 go_wp2_with fail
 (with_reducible refine Y6.out.mono ?_)
 rintro e w1 ⟨rfl,hb1⟩
 have HB1:=Lib.hid hb1
 clear hb1
 go_wp2_with fail
 (with_reducible refine(HJ2.out w1 HB1.out).mono ?_)
 rintro e w2 ⟨rfl,hb2⟩
 have HB2:=Lib.hid (HB1.out.trans (hb2.mono HB1.out.size))
 clear hb2
 go_wp2_with fail
 (with_reducible refine(HCC.out _).mono ?_)
 rintro e w3 ⟨rfl,rfl⟩
 go_wp2_with fail
 go_ret
 exact⟨rfl,HB2.out⟩
theorem kg {w w':World} {B:Nat} {e:TypeId} {size:Nat} {v:Value} {n:Nat} {xs:List Value} (h:w.ownsRow B e size v n xs) (hk:∀b,v.ownBlock=some b→b<w.heap.size→w'.heap[b]? =w.heap[b]?):w'.ownsRow B e size v n xs:=by
 refine⟨h.1,?_⟩
 rcases h.2 with h1|⟨g,cap,cur,rfl,hg,hcur,rest⟩
 ·exact .inl h1
 ·exact .inr ⟨g,cap,cur,rfl,hg,(hk g rfl (Array.getElem?_eq_some_iff.1 hcur).1).trans hcur,rest⟩
theorem lQ {w:World} {B:Nat} {e:TypeId} {size:Nat} {v:Value} {n:Nat} {xs:List Value} (h:w.ownsRow B e size v n xs):∀b,v.ownBlock=some b→b<w.heap.size:=by
 intro b hb
 rcases h.2 with⟨rfl,_⟩|⟨g,cap,cur,rfl,hg,hcur,rest⟩
 ·cases hb
 ·cases hb
  exact(Array.getElem?_eq_some_iff.1 hcur).1
theorem gJ.jI {w:World} {base:Nat} {v:Value} {n:Nat} {q:List Nm} (h:w.ownsRow base 9 1 v n ((q.map strOf).map .string)) (hs:∀k∈q,k.length≤maxLen):gJ (fun b=>base≤b∧b<w.heap.size) w v q:=by
 obtain⟨a,c,rfl,hc⟩:=gU h
 obtain⟨_,hr⟩:=aj.jI h
 have hn:q.length=n:=by simpa using hr.length
 subst hn
 refine⟨a,c,rfl,hc,hr,fun s hs'=> ?_⟩
 obtain⟨k,hk,rfl⟩:=List.mem_map.1 hs'
 rw[eT]
 exact hs k hk
theorem gJ.weak {S S':Nat→Prop} {w:World} {u:Value} {q:List Nm} (h:gJ S w u q) (hS:∀b,b<w.heap.size→S b→S' b):gJ S' w u q:=
 h.move (Nat.le_refl _) fun b hb hbw=>⟨hS b hbw hb,rfl⟩
theorem bC.push {B:Nat} {w w1 w2:World} {v v' cv:Value} {m:Nat} {xs:List Value} {q:List Nm} {o:Obj} (hv:w.ownsRow B 61 1 v m xs) (hB1:Below w.heap.size w w1) (hc:w1.ownsRow w.heap.size 9 1 cv q.length ((q.map strOf).map .string)) (hq:∀k∈q,k.length≤maxLen)
  (hown:w2.ownsRow B 61 1 v' (m+1) (xs++[cv])) (hg:(w1.alloc o).grownBy w2 v.ownBlock) (hat:v'.ownBlock=v.ownBlock∨v'.ownBlock=some (w1.alloc o).heap.size):bC B w v m xs [q] v' w2:=by
 have hs1:=hB1.size
 have hs2:=hg.size
 have hsa:(w1.alloc o).heap.size=w1.heap.size+1:=by simp
 have hvb:∀b,v'.ownBlock=some b→v.ownBlock=some b∨w1.heap.size<b:=fun b hb=>by
  rcases hat with h|h
  ·exact .inl (h▸hb)
  ·rw[h]at hb
   cases hb
   exact .inr (by omega)
 have hP:=gJ.jI hc hq
 have hold:∀b,b<w1.heap.size→v.ownBlock≠some b→w2.heap[b]? =w1.heap[b]? :=fun b hb hne=>(hg.block b (by omega) (fun e=>hne e.symm)).trans ((MapKept.heap_alloc w1 o).2 b hb)
 refine⟨[cv],[q],List.Perm.refl _,hown,⟨rfl,fun i p hp=> ?_⟩,?_,fun b hb=> ?_⟩
 ·match i,hp with
  |0,hp=>
   obtain rfl:q=p:=by simpa using hp
   refine⟨cv,rfl,hP.move (by omega) fun b hb hbw=>⟨⟨hb.1,by omega,fun he=> ?_⟩,hold b hbw fun he=> ?_⟩⟩
   ·rcases hvb b he with h1|h1
    ·have:=lQ hv b h1
     omega
    ·omega
   ·have:=lQ hv b he
    omega
 ·exact⟨hg.os.trans hB1.os,hg.tape.trans hB1.tape,hg.output.trans hB1.output,by omega,fun b hb hn=>(hold b (by omega) hn).trans (hB1.block b hb)⟩
 ·rcases hvb b hb with h1|h1
  ·exact .inl h1
  ·exact .inr (by omega)
theorem bC.own {B:Nat} {w w1:World} {v v1:Value} {m:Nat} {xs:List Value} {L1:List (List Nm)} (h:bC B w v m xs L1 v1 w1):
  ∃m1 xs1,m1=m+L1.length∧w1.ownsRow B 61 1 v1 m1 xs1∧∀L2 v2 w2,bC B w1 v1 m1 xs1 L2 v2 w2→bC B w v m xs (L1++L2) v2 w2:=by
 obtain⟨vals,l,hp,ho,hv,hK,hb⟩:=h
 refine⟨m+l.length,xs++vals,by rw[hp.length_eq],ho,fun L2 v2 w2 k=> ?_⟩
 obtain⟨LM,l2,hp2,ho2,hv2,hK2,hb2⟩:=k
 have hs1:=hK.size
 have hs2:=hK2.size
 refine⟨vals++LM,l++l2,hp.append hp2,by rw[List.length_append,←Nat.add_assoc,←List.append_assoc];exact ho2,?_,hK.trans hK2 fun x hx hx1=> ?_,fun b hb'=> ?_⟩
 ·refine(hv.move (by omega) fun b hS hbw=>⟨⟨hS.1,by omega,fun he=> ?_⟩,hK2.block b hbw fun he=>hS.2.2 he⟩).append (hv2.move (Nat.le_refl _) fun b hS hbw=>⟨⟨by omega,hS.2.1,hS.2.2⟩,rfl⟩)
  rcases hb2 b he with h1|h1
  ·exact hS.2.2 h1
  ·omega
 ·rcases hb x hx1 with h1|h1
  ·exact h1
  ·omega
 ·rcases hb2 b hb' with h1|h1
  ·exact hb b h1
  ·exact .inr (by omega)
theorem bC.below {B:Nat} {w w1 w2:World} {v v1:Value} {m:Nat} {xs:List Value} {L:List (List Nm)} (h:bC B w v m xs L v1 w1) (hb:Below w1.heap.size w1 w2):bC B w v m xs L v1 w2:=by
 obtain⟨vals,l,hp,ho,hv,hK,hbl⟩:=h
 have hs:=hb.size
 exact⟨vals,l,hp,kg ho fun b _ hbw=>hb.block b hbw,hv.move hs fun b hS hbw=>⟨⟨hS.1,by omega,hS.2.2⟩,hb.block b hbw⟩,hK.trans (Keeps.below hb) (fun x hx hx'=>by have:=hK.size;omega),hbl⟩
theorem bC.keeps {B:Nat} {w w1:World} {v v1:Value} {m:Nat} {xs:List Value} {L:List (List Nm)} (h:bC B w v m xs L v1 w1):Keeps (fun b=>v.ownBlock=some b) w w1:=by
 obtain⟨_,_,_,_,_,hK,_⟩:=h
 exact hK
theorem bC.new {B:Nat} {w w1:World} {v v1:Value} {m:Nat} {xs:List Value} {L:List (List Nm)} (h:bC B w v m xs L v1 w1):∀b,v1.ownBlock=some b→v.ownBlock=some b∨w.heap.size≤b:=by
 obtain⟨_,_,_,_,_,_,hb⟩:=h
 exact hb
theorem bC.path {B:Nat} {w w1:World} {v v1 u:Value} {m:Nat} {xs:List Value} {L:List (List Nm)} {q:List Nm} (h:bC B w v m xs L v1 w1) (hp:gJ (fun b=>v.ownBlock≠some b) w u q):gJ (fun b=>b<w.heap.size∧v1.ownBlock≠some b) w1 u q:=
 hp.move h.keeps.size fun b hb hbw=>⟨⟨hbw,fun he=>by
  rcases h.new b he with h1|h1
  ·exact hb h1
  ·omega⟩,h.keeps.block b hbw hb⟩
theorem gJ.off {S:Nat→Prop} {w:World} {u:Value} {q:List Nm} {r:Nat} (h:gJ S w u q) (hr:∀i,w.cell? ⟨r,i,none⟩=none):gJ (fun b=>S b∧b≠r) w u q:=by
 obtain⟨a,c,h1,h2,h3⟩:=h
 refine⟨a,c,h1,h2,⟨h3.row.length,h3.row.small,fun h0=> ?_⟩,h3.short⟩
 obtain⟨b,off,e,hS,hb,hc⟩:=h3.row.at_ h0
 refine⟨b,off,e,⟨hS,fun he=> ?_⟩,hb,hc⟩
 have hl:=h3.row.length
 have h4:=hc 0 h0
 rw[he,hr,List.getElem?_eq_getElem (by omega)]at h4
 cases h4
theorem jm.off {S:Nat→Prop} {w:World} {vals:List Value} {l:List (List Nm)} {r:Nat} (h:jm S w vals l) (hr:∀i,w.cell? ⟨r,i,none⟩=none):jm (fun b=>S b∧b≠r) w vals l:=
 ⟨h.1,fun i q hq=>by
  obtain⟨u,h1,h2⟩:=h.2 i q hq
  exact⟨u,h1,h2.off hr⟩⟩
theorem bC.iter {B:Nat} {w w1 w2:World} {v v1:Value} {m:Nat} {xs:List Value} {L:List (List Nm)} {r:Nat} (h:bC B w v m xs L v1 w1) (hK:Keeps (fun b=>b=r) w1 w2) (hr:∀i,w1.cell? ⟨r,i,none⟩=none) (hwr:w.heap.size≤r) (hne:v1.ownBlock≠some r):bC B w v m xs L v1 w2:=by
 obtain⟨vals,l,hp,ho,hv,hK1,hbl⟩:=h
 have hs:=hK.size
 refine⟨vals,l,hp,kg ho fun b hb hbw=>hK.block b hbw fun he=>hne (he▸hb),((hv.off hr).move hs fun b hS hbw=>⟨⟨hS.1.1,by omega,hS.1.2.2⟩,hK.block b hbw hS.2⟩),hK1.trans hK (fun x hx hx'=>by omega),hbl⟩
theorem dI.Rq {w:World} {b r cnt:Nat} {l:List (Nm×Value)} {left:Nm→Bool} (h:dI cK w b r l left cnt):∀i,w.cell? ⟨r,i,none⟩=none:=by
 obtain⟨L,⟨es,clock,since,seen,c0,hb,hF,hs,hD,hr,rest⟩,hL⟩:=h
 intro i
 simp only[World.cell?,hr]
theorem bC.tree {g:Nat→Own} {D:Nat→Prop} {p mb:Nat} {ib nb:Int→Nat} {T:aF} {B:Nat} {w w1:World} {v v1:Value} {m:Nat} {xs:List Value} {L:List (List Nm)} (h:bC B w v m xs L v1 w1) (hv:w.ownsRow B 61 1 v m xs) (hT:aH g D w p mb ib nb T) (hB:∀b,g b≠ .none∨D b→b<B):aH g D w1 p mb ib nb T:=
 hT.keeps h.keeps fun b hb he=>by have:=eu hv b he;have:=hB b hb;omega
theorem Dz {α:Type} (f:Nm×Int→List α) (left:Nm→Bool):∀l:List (Nm×Int),((doneN left l).flatMap f).length≤(l.flatMap f).length
 |[]=>by simp[doneN]
 |y::r=>by
  have ih:=Dz f left r
  unfold doneN at ih⊢
  rw[List.filter_cons]
  split
  ·simp only[List.flatMap_cons,List.length_append];omega
  ·simp only[List.flatMap_cons,List.length_append];omega
end Go.Proofs.YtjnhnlabpccgjaaGreat
