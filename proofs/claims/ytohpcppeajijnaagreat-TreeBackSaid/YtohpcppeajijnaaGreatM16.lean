/- What holds of a tree, and how deep it is, whatever is done. -/
import Derived.Test.YtohpcppeajijnaaGreatM15
namespace Go.Proofs.YtohpcppeajijnaaGreat
open Go.ChangeShapes Go.WideShapes Go.ChangeAt Go.RowKit
set_option linter.unusedVariables false
set_option linter.unusedSimpArgs false
theorem Dc {T:aF} {tq:List Nm} {dt:Int} {nt:Nm} (hto:aB T tq=(dt,nt,0)):tq≠[]∧aC T 0 tq.dropLast=(dt,0)∧bq T dt=2:=by
 unfold aB at hto
 by_cases ht0:tq=[]
 ·rw[if_pos ht0]at hto;cases hto
 ·rw[if_neg ht0]at hto
  by_cases ht1:(aC T 0 tq.dropLast).2≠0
  ·rw[if_pos ht1]at hto
   exact absurd (congrArg (·.2.2) hto) ht1
  ·rw[if_neg ht1]at hto
   by_cases ht2:bq T (aC T 0 tq.dropLast).1=2
   ·rw[if_pos ht2]at hto
    have h3:(aC T 0 tq.dropLast).1=dt:=congrArg Prod.fst hto
    exact⟨ht0,Prod.ext h3 (by simpa using ht1),h3▸ht2⟩
   ·rw[if_neg ht2]at hto;cases hto
theorem dY.place {T:aF} {dep:Int→Nat} (h:dY T dep) {tq:List Nm} {dt:Int} {nt:Nm} (hto:aB T tq=(dt,nt,0)) (hf:tq.length≤8):dep dt<8:=by
 obtain⟨h1,h2,h3⟩:=Dc hto
 have:=pR h _ 0 dt h2 h3
 rw[h.zero,List.length_dropLast]at this
 have:tq.length≠0:=fun e=>h1 (List.eq_nil_of_length_eq_zero e)
 omega
def Sub (T' T:aF):Prop:=∀d x,aj d T'=some x→∃y,aj d T=some y∧x.kind=y.kind∧∀e∈x.names,e∈y.names
theorem Sub.refl (T:aF):Sub T T:=fun d x h=>⟨x,h,rfl,fun _ he=>he⟩
theorem Sub.trans {A B C:aF} (h:Sub A B) (k:Sub B C):Sub A C:=fun d x hx=>by
 obtain⟨y,hy,h1,h2⟩:=h d x hx
 obtain⟨z,hz,h3,h4⟩:=k d y hy
 exact⟨z,hz,h1.trans h3,fun e he=>h4 e (h2 e he)⟩
theorem Sub.aX {T:aF} {k:Int} {f:bF→bF} (h1:∀x,(f x).kind=x.kind) (h2:∀x,∀e∈(f x).names,e∈x.names):Sub (Go.Proofs.YtohpcppeajijnaaGreat.aX k f T) T:=fun d x hx=>by
 rw[aQ]at hx
 by_cases hd:d=k
 ·rw[if_pos hd]at hx
  cases hy:aj d T with
  |none=>rw[hy]at hx;cases hx
  |some y=>
   rw[hy]at hx
   simp only[Option.map_some,Option.some.injEq]at hx
   exact⟨y,rfl,by rw[←hx];exact h1 y,fun e he=>h2 y e (by rw[hx];exact he)⟩
 ·rw[if_neg hd]at hx;exact⟨x,hx,rfl,fun _ he=>he⟩
theorem Sub.del {T:aF} (k:Int):Sub (bg k T) T:=fun d x hx=>by
 rw[eH]at hx
 split at hx
 ·cases hx
 ·exact⟨x,hx,rfl,fun _ he=>he⟩
theorem Sub.settle {T:aF} (k:Int):Sub (eP T k) T:=by
 unfold eP
 cases aj k T with
 |none=>exact Sub.refl T
 |some x=>
  simp only
  split
  ·exact Sub.del k
  ·exact Sub.refl T
theorem Sub.cut {T:aF} (d:Int) (n:Nm):Sub (aA T d n) T:=Sub.aX (fun _=>by exact rfl) fun x e he=>(List.mem_filter.1 he).1
theorem dY.sub {T T':aF} {dep:Int→Nat} (h:dY T dep) (hs:Sub T' T):dY T' dep:=by
 refine⟨h.zero,fun d x hx e he=> ?_⟩
 obtain⟨y,hy,_,hn⟩:=hs d x hx
 have h1:=h.up d y hy e (hn e he)
 refine⟨h1.1,fun hk=>h1.2 ?_⟩
 obtain⟨z,hz,PV⟩:=fG hk
 obtain⟨u,hu,WQ,_⟩:=hs _ z hz
 rw[bI hu,←WQ];exact PV
theorem wB {T:aF} {d id a:Int} {n:Nm} {x:bF} (h:aj a (setName T d n id)=some x):∃y,aj a T=some y∧x.kind=y.kind∧∀e∈x.names,e∈y.names∨(a=d∧e=(n,id)):=by
 unfold setName at h
 rw[aQ]at h
 by_cases hd:a=d
 ·rw[if_pos hd]at h
  cases hz:aj a T with
  |none=>rw[hz]at h;cases h
  |some z=>
   rw[hz]at h
   simp only[Option.map_some,Option.some.injEq]at h
   refine⟨z,rfl,by rw[←h],fun e he=> ?_⟩
   rw[←h]at he
   rcases (kG bytesBefore).1 he with h2|h2
   ·exact .inr ⟨hd,h2⟩
   ·exact .inl (List.mem_filter.1 h2).1
 ·rw[if_neg hd]at h;exact⟨x,h,rfl,fun e he=> .inl he⟩
theorem Bo {T:aF} {d id:Int} {n:Nm} (k:Int):bq (setName T d n id) k=bq T k:=by
 unfold setName
 exact uf (fun _=>by exact rfl) k
theorem dY.link {T:aF} {dep:Int→Nat} (h:dY T dep) {d id:Int} {n:Nm} (hd:dep d<8) (hk:bq T id≠2):dY (setName T d n id) dep:=by
 refine⟨h.zero,fun a x hx e he=> ?_⟩
 rw[Bo]
 obtain⟨y,hy,_,hn⟩:=wB hx
 rcases hn e he with h1|⟨h1,h2⟩
 ·exact h.up a y hy e h1
 ·subst h1 h2
  exact⟨hd,fun h3=>absurd h3 hk⟩
theorem dY.make {T:aF} {dep:Int→Nat} (h:dY T dep) (hT:dG T) {d f kind:Int} {n:Nm} (hd:dep d<8) (hf:aj f T=none) (hf0:f≠0) (hdt:(aj d T).isSome=true):∃Nf,dY (setName (bT fT f (bE kind) T) d n f) Nf:=by
 refine⟨fun k=>if k=f then dep d+1 else dep k,by simp only[if_neg (Ne.symm hf0),h.zero],fun a x hx e he=> ?_⟩
 have hdf:d≠f:=fun e=>by rw[e,hf]at hdt;cases hdt
 obtain⟨y,hy,_,hn⟩:=wB hx
 rw[Bo]
 rcases pJ hT.sorted hy with⟨h1,h2⟩|⟨h1,h2⟩
 ·rcases hn e he with h3|⟨h3,h4⟩
  ·rw[h2]at h3;cases h3
  ·exact absurd (h3.symm.trans h1) hdf
 ·rcases hn e he with h3|⟨h3,h4⟩
  ·have hup:=h.up a y h2 e h3
   have hl:=(hT.leads a y h2 e h3).1
   have hef:e.2≠f:=fun e5=>by rw[e5,hf]at hl;cases hl
   simp only[if_neg h1,if_neg hef]
   have:bq (bT fT f (bE kind) T) e.2=bq T e.2:=by unfold bq;rw[eY,if_neg hef]
   rw[this]
   exact hup
  ·subst h3 h4
   simp only[if_neg h1,if_pos]
   exact⟨hd,fun _=>trivial⟩
def fU (T:aF):Prop:=dG T∧∃dep,dY T dep
theorem fU.new:fU kV:=by
 refine⟨Er,fun _=>0,rfl,fun d x hx e he=> ?_⟩
 unfold kV at hx
 rw[eX]at hx
 by_cases hk:(0:Int)=d
 ·rw[if_pos hk]at hx
  cases hx
  cases he
 ·rw[if_neg hk]at hx;cases hx
theorem fU.Da {T:aF} (h:fU T) (d:Int):t_ T 8 d:=by
 obtain⟨h1,dep,h2⟩:=h
 exact h2.Mk h1 d
theorem fU.cu {T:aF} (h:fU T) (ls:List Nm) (kind:Int):fU (cu T ls kind).2:=by
 obtain⟨h1,dep,h2⟩:=h
 refine⟨h1.cu ls kind,?_⟩
 unfold Go.Proofs.YtohpcppeajijnaaGreat.cu
 by_cases he:iX T ls kind=0
 ·rw[if_pos he]
  obtain⟨a1,a2,a3,a4,a5⟩:=vZ h1 he
  obtain⟨x,hx,hk,hm⟩:=fQ h1 a3
  obtain⟨f,hf,hf1,hf2,hfn,_⟩:=h1.free
  show ∃dep,dY (pI T ls kind) dep
  unfold pI
  rw[hf]
  exact h2.make h1 (h2.place (nt:=(aB T ls).2.1) (Prod.ext rfl (Prod.ext rfl a3)) (lK a1)) hfn (by omega) (by rw[hx];rfl)
 ·rw[if_neg he];exact⟨dep,h2⟩
theorem fU.dz {T:aF} (h:fU T) (p tq:List Nm):fU (dz T p tq).2:=by
 obtain⟨h1,dep,h2⟩:=h
 refine⟨h1.dz p tq,?_⟩
 unfold Go.Proofs.YtohpcppeajijnaaGreat.dz
 by_cases he:jC T p tq=0
 ·simp only[if_pos he]
  obtain⟨a1,a2,a3,a4,a5,a6⟩:=wh he
  have h3:=h2.link (n:=(aB T tq).2.1) (h2.place (nt:=(aB T tq).2.1) (Prod.ext rfl (Prod.ext rfl a4)) (lK (mg a1).2)) a3
  unfold vS
  exact⟨dep,h3.sub (Sub.aX (fun _=>by exact rfl) fun x e he=>he)⟩
 ·simp only[if_neg he];exact⟨dep,h2⟩
theorem fU.bB {T:aF} (h:fU T) (p:List Nm):fU (bB T p).2:=by
 obtain⟨h1,dep,h2⟩:=h
 refine⟨h1.bB p,dep,?_⟩
 unfold Go.Proofs.YtohpcppeajijnaaGreat.bB
 simp only
 split
 ·unfold nu
  exact h2.sub ((Sub.settle _).trans ((Sub.aX (f:=fun x=>{x with links:=x.links-1}) (fun _=>by exact rfl) fun x e he=>he).trans (Sub.cut _ _)))
 ·exact h2
theorem fU.bU {T:aF} (h:fU T) (p:List Nm):fU (bU T p).2:=by
 obtain⟨h1,dep,h2⟩:=h
 refine⟨h1.bU p,dep,?_⟩
 unfold Go.Proofs.YtohpcppeajijnaaGreat.bU
 simp only
 split
 ·unfold rR
  exact h2.sub ((Sub.del _).trans (Sub.cut _ _))
 ·exact h2
theorem fU.bK {T:aF} (h:fU T) (id:Int) (b:List UInt8):fU (bK T id b).2:=by
 obtain⟨h1,dep,h2⟩:=h
 refine⟨h1.bK id b,dep,?_⟩
 unfold Go.Proofs.YtohpcppeajijnaaGreat.bK
 simp only
 split
 ·exact h2.sub (Sub.aX (fun _=>by exact rfl) fun x e he=>he)
 ·exact h2
theorem fU.dR {T:aF} (h:fU T) (id aK:Int) (h0:0≤aK):fU (dR T id aK).2:=by
 obtain⟨h1,dep,h2⟩:=h
 refine⟨h1.dR id aK h0,dep,?_⟩
 unfold Go.Proofs.YtohpcppeajijnaaGreat.dR
 simp only
 split
 ·exact h2.sub ((Sub.settle _).trans (Sub.aX (fun _=>by exact rfl) fun x e he=>he))
 ·exact h2
theorem fU.dL {T:aF} (h:fU T) (id aK:Int) (h0:0≤aK):fU (dL T id aK).2:=by
 obtain⟨h1,dep,h2⟩:=h
 refine⟨h1.dL id aK h0,dep,?_⟩
 unfold Go.Proofs.YtohpcppeajijnaaGreat.dL
 simp only
 split
 ·exact h2.sub (Sub.aX (fun _=>by exact rfl) fun x e he=>he)
 ·exact h2
def eF (T:aF) (id:Int):aF:=T.map fun q=>(q.1,{q.2 with names:=q.2.names.filter fun e=> !decide (e.2=id)})
theorem qy (T:aF) (id:Int):G9 T id=bg id (eF T id):=rfl
def fB (id:Int) (x:bF):bF:={x with names:=x.names.filter fun e=> !decide (e.2=id)}
theorem jw (T:aF) (id k:Int):aj k (eF T id)=(aj k T).map (fB id):=AO (fB id) k T
theorem Ii (id j:Int) (x:bF):cn j (fB id x)=if j=id then 0 else cn j x:=by
 unfold cn fB
 simp only
 rw[List.countP_filter]
 by_cases h:j=id
 ·subst h
  rw[if_pos rfl,List.countP_eq_zero]
  intro e _
  simp
 ·rw[if_neg h]
  apply List.countP_congr
  intro e _
  simp only[Bool.and_eq_true,decide_eq_true_eq,Bool.not_eq_true',decide_eq_false_iff_not]
  exact⟨fun h1=>h1.1,fun h1=>⟨h1,fun h2=>h (h1.symm.trans h2)⟩⟩
theorem wC (T:aF) (id j:Int):fq (eF T id) j=if j=id then 0 else fq T j:=by
 induction T with
 |nil=>simp[fq,eF]
 |cons y r ih=>
  have e1:fq (eF (y::r) id) j=cn j (fB id y.2)+fq (eF r id) j:=by
   unfold fq eF fB;simp
  have e2:fq (y::r) j=cn j y.2+fq r j:=by unfold fq;simp
  rw[e1,e2,ih,Ii]
  split<;>simp
theorem vw.strip {T:aF} (h:vw T) (id:Int):vw (eF T id):=by
 have hget:∀k x,aj k (eF T id)=some x→∃y,aj k T=some y∧x=fB id y:=fun k x hx=>by
  rw[jw]at hx
  cases hy:aj k T with
  |none=>rw[hy]at hx;cases hx
  |some y=>
   rw[hy]at hx
   simp only[Option.map_some,Option.some.injEq]at hx
   exact⟨y,rfl,hx.symm⟩
 refine⟨?_,?_,fun k x hx=> ?_,fun k x hx e he=> ?_,by unfold eF;rw[List.length_map];exact h.len,fun k x hx=> ?_⟩
 ·have:=h.sorted
  unfold aI eF at*
  rw[List.pairwise_map]
  exact this
 ·obtain⟨x,hx,hk⟩:=fG h.root
  unfold bq
  rw[jw,hx]
  exact hk
 ·obtain⟨y,hy,rfl⟩:=hget k x hx
  have o:=h.each k y hy
  refine⟨o.kind,fun h1=> ?_,o.dir,o.gone,?_,fun e he=>o.good e (List.mem_filter.1 he).1,o.size,o.links,o.aK⟩
  ·unfold fB
   simp only
   rw[o.file h1];rfl
  ·exact List.Pairwise.filter _ o.sorted
 ·obtain⟨y,hy,rfl⟩:=hget k x hx
  have:=h.leads k y hy e (List.mem_filter.1 he).1
  refine⟨?_,this.2⟩
  rw[jw]
  obtain⟨z,hz⟩:=Option.isSome_iff_exists.1 this.1
  rw[hz];rfl
 ·obtain⟨y,hy,rfl⟩:=hget k x hx
  exact h.ids k y hy
theorem Sub.strip (T:aF) (id:Int):Sub (eF T id) T:=fun d x hx=>by
 rw[jw]at hx
 cases hy:aj d T with
 |none=>rw[hy]at hx;cases hx
 |some y=>
  rw[hy]at hx
  simp only[Option.map_some,Option.some.injEq]at hx
  subst hx
  exact⟨y,rfl,rfl,fun e he=>(List.mem_filter.1 he).1⟩
theorem wD {T:aF} {id:Int} (h:kS T id=0):∃x,aj id T=some x∧x.kind≠2∧x.closed=false:=by
 unfold kS at h
 cases hx:aj id T with
 |none=>rw[hx]at h;cases h
 |some x=>
  rw[hx]at h
  simp only at h
  by_cases hk:x.kind=2
  ·rw[if_pos hk]at h;cases h
  ·rw[if_neg hk]at h
   cases hc:x.closed with
   |true=>rw[hc]at h;cases h
   |false=>exact⟨x,rfl,hk,hc⟩
theorem dG.dM {T:aF} (h:dG T) (id:Int):dG (dM T id).2:=by
 unfold Go.Proofs.YtohpcppeajijnaaGreat.dM
 by_cases he:kS T id=0
 ·simp only[if_pos he]
  obtain⟨x,hx,hk,_⟩:=wD he
  have h0:=h.qx hx hk
  have hnil:=(h.each id x hx).file ((h.each id x hx).kind.resolve_right hk)
  have hS:=h.tovw.strip id
  have hx':aj id (eF T id)=some (fB id x):=by rw[jw,hx];rfl
  have hn':(fB id x).names=[]:=by unfold fB;simp only;rw[hnil];rfl
  rw[qy]
  refine⟨hS.del hx' h0 (by rw[wC,if_pos rfl]),fun j y hy hj=> ?_⟩
  have hji:j≠id:=fun e=>by subst e;rw[lV]at hy;cases hy
  rw[eH,if_neg hji,jw]at hy
  cases hz:aj j T with
  |none=>rw[hz]at hy;cases hy
  |some z=>
   rw[hz]at hy
   simp only[Option.map_some,Option.some.injEq]at hy
   have h1:=tQ hS.sorted hx' j
   have h2:cn j (fB id x)=0:=by unfold cn;rw[hn'];rfl
   have h3:=wC T id j
   rw[if_neg hji]at h3
   have h4:=h.counts j z hz hj
   have h5:y.links=z.links:=by rw[←hy];rfl
   omega
 ·simp only[if_neg he];exact h
theorem fU.dM {T:aF} (h:fU T) (id:Int):fU (dM T id).2:=by
 obtain⟨h1,dep,h2⟩:=h
 refine⟨h1.dM id,dep,?_⟩
 unfold Go.Proofs.YtohpcppeajijnaaGreat.dM
 simp only
 split
 ·rw[qy]
  exact h2.sub ((Sub.del _).trans (Sub.strip _ _))
 ·exact h2
theorem Ac {T:aF} {p tq:List Nm} (h:gP T p tq=0):iw p tq=0∧(aC T 0 p).2=0∧(aC T 0 p).1≠0∧(aB T tq).2.2=0∧(bq T (aC T 0 p).1=2→iB tq p=false)∧(aj (aB T tq).2.1 (aO T (aB T tq).1)=none→tq.length+fV T 8 (aC T 0 p).1≤8):=by
 unfold gP at h
 by_cases h1:iw p tq≠0
 ·rw[if_pos h1]at h;exact absurd h h1
 ·rw[if_neg h1]at h
  by_cases h2:(aC T 0 p).2≠0
  ·rw[if_pos h2]at h;exact absurd h h2
  ·rw[if_neg h2]at h
   by_cases h3:(aC T 0 p).1=0
   ·rw[if_pos h3]at h;cases h
   ·rw[if_neg h3]at h
    by_cases h4:(aB T tq).2.2≠0
    ·rw[if_pos h4]at h;exact absurd h h4
    ·rw[if_neg h4]at h
     by_cases h5:bq T (aC T 0 p).1=2∧iB tq p=true
     ·rw[if_pos h5]at h;cases h
     ·rw[if_neg h5]at h
      refine⟨by omega,by omega,h3,by omega,fun h6=> ?_,fun h6=> ?_⟩
      ·cases hw:iB tq p with
       |false=>rfl
       |true=>exact absurd ⟨h6,hw⟩ h5
      ·rw[h6]at h
       simp only at h
       split at h
       ·cases h
       ·omega
theorem fU.aT {T:aF} (h:fU T) (p tq:List Nm):fU (aT T p tq).2:=by
 unfold Go.Proofs.YtohpcppeajijnaaGreat.aT
 simp only
 by_cases hc:gP T p tq=0∧(aj (aB T tq).2.1 (aO T (aB T tq).1)).isSome=false
 ·rw[if_pos hc]
  obtain⟨h1,dep,h2⟩:=h
  obtain⟨a1,a2,a3,a4,a5,a6⟩:=Ac hc.1
  have hn:aj (aB T tq).2.1 (aO T (aB T tq).1)=none:=by simpa using hc.2
  have hlk:aC T 0 p=((aC T 0 p).1,0):=Prod.ext rfl a2
  have hpl:aB T tq=((aB T tq).1,(aB T tq).2.1,0):=Prod.ext rfl (Prod.ext rfl a4)
  obtain⟨x2,hx2,hk2,hm2⟩:=fQ h1 a4
  have hpn:p≠[]:=fun e=>a3 (by rw[e];rfl)
  obtain⟨d1,x1,n1,e1,hl1,hx1,hk1,hn1,_,ep⟩:=bS hlk hpn
  have hf:=mg a1
  unfold nG
  refine⟨?_,h2.move h1 hlk a3 hpl (lK hf.2) fun hk=>⟨a5 hk,a6 hn⟩⟩
  rw[e1]
  rw[cB hx2]at hn
  exact h1.move hx1 hk1 hn1 hx2 hk2 (gW hf.2 _ hm2) hn
 ·rw[if_neg hc];exact h
end Go.Proofs.YtohpcppeajijnaaGreat
