/- What holds of a tree, and how deep it is, whatever is done. -/
import Derived.Test.YtmabllemjkcobaaGreatM16
namespace Go.Proofs.YtmabllemjkcobaaGreat
open Go.ChangeShapes Go.WideShapes Go.ChangeAt Go.RowKit
set_option linter.unusedVariables false
set_option linter.unusedSimpArgs false
theorem Im {T:aG} {tq:List Nm} {dt:Int} {nt:Nm} (hto:aI T tq=(dt,nt,0)):tq≠[]∧aH T 0 tq.dropLast=(dt,0)∧bO T dt=2:=by
 unfold aI at hto
 by_cases ht0:tq=[]
 ·rw[if_pos ht0]at hto;cases hto
 ·rw[if_neg ht0]at hto
  by_cases ht1:(aH T 0 tq.dropLast).2≠0
  ·rw[if_pos ht1]at hto
   exact absurd (congrArg (·.2.2) hto) ht1
  ·rw[if_neg ht1]at hto
   by_cases ht2:bO T (aH T 0 tq.dropLast).1=2
   ·rw[if_pos ht2]at hto
    have h3:(aH T 0 tq.dropLast).1=dt:=congrArg Prod.fst hto
    exact⟨ht0,Prod.ext h3 (by simpa using ht1),h3▸ht2⟩
   ·rw[if_neg ht2]at hto;cases hto
theorem dQ.place {T:aG} {dep:Int→Nat} (h:dQ T dep) {tq:List Nm} {dt:Int} {nt:Nm} (hto:aI T tq=(dt,nt,0)) (hf:tq.length≤8):dep dt<8:=by
 obtain⟨h1,h2,h3⟩:=Im hto
 have:=r_ h _ 0 dt h2 h3
 rw[h.zero,List.length_dropLast]at this
 have:tq.length≠0:=fun e=>h1 (List.eq_nil_of_length_eq_zero e)
 omega
def Sub (T' T:aG):Prop:=∀d x,aj d T'=some x→∃y,aj d T=some y∧x.kind=y.kind∧∀e∈x.names,e∈y.names
theorem Sub.refl (T:aG):Sub T T:=fun d x h=>⟨x,h,rfl,fun _ he=>he⟩
theorem Sub.trans {A B C:aG} (h:Sub A B) (k:Sub B C):Sub A C:=fun d x hx=>by
 obtain⟨y,hy,h1,h2⟩:=h d x hx
 obtain⟨z,hz,h3,h4⟩:=k d y hy
 exact⟨z,hz,h1.trans h3,fun e he=>h4 e (h2 e he)⟩
theorem Sub.bH {T:aG} {k:Int} {f:bW→bW} (h1:∀x,(f x).kind=x.kind) (h2:∀x,∀e∈(f x).names,e∈x.names):Sub (Go.Proofs.YtmabllemjkcobaaGreat.bH k f T) T:=fun d x hx=>by
 rw[bq]at hx
 by_cases hd:d=k
 ·rw[if_pos hd]at hx
  cases hy:aj d T with
  |none=>rw[hy]at hx;cases hx
  |some y=>
   rw[hy]at hx
   simp only[Option.map_some,Option.some.injEq]at hx
   exact⟨y,rfl,by rw[←hx];exact h1 y,fun e he=>h2 y e (by rw[hx];exact he)⟩
 ·rw[if_neg hd]at hx;exact⟨x,hx,rfl,fun _ he=>he⟩
theorem Sub.del {T:aG} (k:Int):Sub (bR k T) T:=fun d x hx=>by
 rw[fO]at hx
 split at hx
 ·cases hx
 ·exact⟨x,hx,rfl,fun _ he=>he⟩
theorem Sub.settle {T:aG} (k:Int):Sub (fT T k) T:=by
 unfold fT
 cases aj k T with
 |none=>exact Sub.refl T
 |some x=>
  simp only
  split
  ·exact Sub.del k
  ·exact Sub.refl T
theorem Sub.cut {T:aG} (d:Int) (n:Nm):Sub (aF T d n) T:=Sub.bH (fun _=>by exact rfl) fun x e he=>(List.mem_filter.1 he).1
theorem dQ.sub {T T':aG} {dep:Int→Nat} (h:dQ T dep) (hs:Sub T' T):dQ T' dep:=by
 refine⟨h.zero,fun d x hx e he=> ?_⟩
 obtain⟨y,hy,_,hn⟩:=hs d x hx
 have h1:=h.up d y hy e (hn e he)
 refine⟨h1.1,fun hk=>h1.2 ?_⟩
 obtain⟨z,hz,WT⟩:=gM hk
 obtain⟨u,hu,huk,_⟩:=hs _ z hz
 rw[bQ hu,←huk];exact WT
theorem zM {T:aG} {d id a:Int} {n:Nm} {x:bW} (h:aj a (setName T d n id)=some x):∃y,aj a T=some y∧x.kind=y.kind∧∀e∈x.names,e∈y.names∨(a=d∧e=(n,id)):=by
 unfold setName at h
 rw[bq]at h
 by_cases hd:a=d
 ·rw[if_pos hd]at h
  cases hz:aj a T with
  |none=>rw[hz]at h;cases h
  |some z=>
   rw[hz]at h
   simp only[Option.map_some,Option.some.injEq]at h
   refine⟨z,rfl,by rw[←h],fun e he=> ?_⟩
   rw[←h]at he
   rcases (l6 bytesBefore).1 he with h2|h2
   ·exact .inr ⟨hd,h2⟩
   ·exact .inl (List.mem_filter.1 h2).1
 ·rw[if_neg hd]at h;exact⟨x,h,rfl,fun e he=> .inl he⟩
theorem Fq {T:aG} {d id:Int} {n:Nm} (k:Int):bO (setName T d n id) k=bO T k:=by
 unfold setName
 exact xq (fun _=>by exact rfl) k
theorem dQ.link {T:aG} {dep:Int→Nat} (h:dQ T dep) {d id:Int} {n:Nm} (hd:dep d<8) (hk:bO T id≠2):dQ (setName T d n id) dep:=by
 refine⟨h.zero,fun a x hx e he=> ?_⟩
 rw[Fq]
 obtain⟨y,hy,_,hn⟩:=zM hx
 rcases hn e he with h1|⟨h1,h2⟩
 ·exact h.up a y hy e h1
 ·subst h1 h2
  exact⟨hd,fun h3=>absurd h3 hk⟩
theorem dQ.make {T:aG} {dep:Int→Nat} (h:dQ T dep) (hT:dX T) {d f kind:Int} {n:Nm} (hd:dep d<8) (hf:aj f T=none) (hf0:f≠0) (hdt:(aj d T).isSome=true):∃Ub,dQ (setName (dF g_ f (bZ kind) T) d n f) Ub:=by
 refine⟨fun k=>if k=f then dep d+1 else dep k,by simp only[if_neg (Ne.symm hf0),h.zero],fun a x hx e he=> ?_⟩
 have hdf:d≠f:=fun e=>by rw[e,hf]at hdt;cases hdt
 obtain⟨y,hy,_,hn⟩:=zM hx
 rw[Fq]
 rcases rX hT.sorted hy with⟨h1,h2⟩|⟨h1,h2⟩
 ·rcases hn e he with h3|⟨h3,h4⟩
  ·rw[h2]at h3;cases h3
  ·exact absurd (h3.symm.trans h1) hdf
 ·rcases hn e he with h3|⟨h3,h4⟩
  ·have hup:=h.up a y h2 e h3
   have hl:=(hT.leads a y h2 e h3).1
   have hef:e.2≠f:=fun e5=>by rw[e5,hf]at hl;cases hl
   simp only[if_neg h1,if_neg hef]
   have:bO (dF g_ f (bZ kind) T) e.2=bO T e.2:=by unfold bO;rw[f_,if_neg hef]
   rw[this]
   exact hup
  ·subst h3 h4
   simp only[if_neg h1,if_pos]
   exact⟨hd,fun _=>trivial⟩
def fG (T:aG):Prop:=dX T∧∃dep,dQ T dep
theorem fG.new:fG l9:=by
 refine⟨JR,fun _=>0,rfl,fun d x hx e he=> ?_⟩
 unfold l9 at hx
 rw[fZ]at hx
 by_cases hk:(0:Int)=d
 ·rw[if_pos hk]at hx
  cases hx
  cases he
 ·rw[if_neg hk]at hx;cases hx
theorem fG.Ik {T:aG} (h:fG T) (d:Int):vJ T 8 d:=by
 obtain⟨h1,dep,h2⟩:=h
 exact h2.JZ h1 d
theorem fG.dP {T:aG} (h:fG T) (ls:List Nm) (kind:Int):fG (dP T ls kind).2:=by
 obtain⟨h1,dep,h2⟩:=h
 refine⟨h1.dP ls kind,?_⟩
 unfold Go.Proofs.YtmabllemjkcobaaGreat.dP
 by_cases he:jP T ls kind=0
 ·rw[if_pos he]
  obtain⟨a1,a2,a3,a4,a5⟩:=zH h1 he
  obtain⟨x,hx,hk,hm⟩:=ig h1 a3
  obtain⟨f,hf,hf1,hf2,hfn,_⟩:=h1.free
  show ∃dep,dQ (rW T ls kind) dep
  unfold rW
  rw[hf]
  exact h2.make h1 (h2.place (nt:=(aI T ls).2.1) (Prod.ext rfl (Prod.ext rfl a3)) (nO a1)) hfn (by omega) (by rw[hx];rfl)
 ·rw[if_neg he];exact⟨dep,h2⟩
theorem fG.eD {T:aG} (h:fG T) (p tq:List Nm):fG (eD T p tq).2:=by
 obtain⟨h1,dep,h2⟩:=h
 refine⟨h1.eD p tq,?_⟩
 unfold Go.Proofs.YtmabllemjkcobaaGreat.eD
 by_cases he:ku T p tq=0
 ·simp only[if_pos he]
  obtain⟨a1,a2,a3,a4,a5,a6⟩:=zI he
  have h3:=h2.link (n:=(aI T tq).2.1) (h2.place (nt:=(aI T tq).2.1) (Prod.ext rfl (Prod.ext rfl a4)) (nO (oh a1).2)) a3
  unfold zx
  exact⟨dep,h3.sub (Sub.bH (fun _=>by exact rfl) fun x e he=>he)⟩
 ·simp only[if_neg he];exact⟨dep,h2⟩
theorem fG.bT {T:aG} (h:fG T) (p:List Nm):fG (bT T p).2:=by
 obtain⟨h1,dep,h2⟩:=h
 refine⟨h1.bT p,dep,?_⟩
 unfold Go.Proofs.YtmabllemjkcobaaGreat.bT
 simp only
 split
 ·unfold pX
  exact h2.sub ((Sub.settle _).trans ((Sub.bH (f:=fun x=>{x with links:=x.links-1}) (fun _=>by exact rfl) fun x e he=>he).trans (Sub.cut _ _)))
 ·exact h2
theorem fG.dG {T:aG} (h:fG T) (p:List Nm):fG (dG T p).2:=by
 obtain⟨h1,dep,h2⟩:=h
 refine⟨h1.dG p,dep,?_⟩
 unfold Go.Proofs.YtmabllemjkcobaaGreat.dG
 simp only
 split
 ·unfold vv
  exact h2.sub ((Sub.del _).trans (Sub.cut _ _))
 ·exact h2
theorem fG.dh {T:aG} (h:fG T) (id:Int) (b:List UInt8):fG (dh T id b).2:=by
 obtain⟨h1,dep,h2⟩:=h
 refine⟨h1.dh id b,dep,?_⟩
 unfold Go.Proofs.YtmabllemjkcobaaGreat.dh
 simp only
 split
 ·exact h2.sub (Sub.bH (fun _=>by exact rfl) fun x e he=>he)
 ·exact h2
theorem fG.fA {T:aG} (h:fG T) (id aQ:Int) (h0:0≤aQ):fG (fA T id aQ).2:=by
 obtain⟨h1,dep,h2⟩:=h
 refine⟨h1.fA id aQ h0,dep,?_⟩
 unfold Go.Proofs.YtmabllemjkcobaaGreat.fA
 simp only
 split
 ·exact h2.sub ((Sub.settle _).trans (Sub.bH (fun _=>by exact rfl) fun x e he=>he))
 ·exact h2
theorem fG.eU {T:aG} (h:fG T) (id aQ:Int) (h0:0≤aQ):fG (eU T id aQ).2:=by
 obtain⟨h1,dep,h2⟩:=h
 refine⟨h1.eU id aQ h0,dep,?_⟩
 unfold Go.Proofs.YtmabllemjkcobaaGreat.eU
 simp only
 split
 ·exact h2.sub (Sub.bH (fun _=>by exact rfl) fun x e he=>he)
 ·exact h2
def fJ (T:aG) (id:Int):aG:=T.map fun q=>(q.1,{q.2 with names:=q.2.names.filter fun e=> !decide (e.2=id)})
theorem tL (T:aG) (id:Int):MU T id=bR id (fJ T id):=rfl
def gH (id:Int) (x:bW):bW:={x with names:=x.names.filter fun e=> !decide (e.2=id)}
theorem j_ (T:aG) (id k:Int):aj k (fJ T id)=(aj k T).map (gH id):=EM (gH id) k T
theorem Np (id j:Int) (x:bW):cn j (gH id x)=if j=id then 0 else cn j x:=by
 unfold cn gH
 simp only
 rw[List.countP_filter]
 by_cases h:j=id
 ·subst h
  rw[if_pos rfl,List.countP_eq_zero]
  intro e _
  simp
 ·rw[if_neg h]
  apply List.countP_congr
  intro e _
  simp only[Bool.and_eq_true,decide_eq_true_eq,Bool.not_eq_true',decide_eq_false_iff_not]
  exact⟨fun h1=>h1.1,fun h1=>⟨h1,fun h2=>h (h1.symm.trans h2)⟩⟩
theorem zN (T:aG) (id j:Int):gy (fJ T id) j=if j=id then 0 else gy T j:=by
 induction T with
 |nil=>simp[gy,fJ]
 |cons y r ih=>
  have e1:gy (fJ (y::r) id) j=cn j (gH id y.2)+gy (fJ r id) j:=by
   unfold gy fJ gH;simp
  have e2:gy (y::r) j=cn j y.2+gy r j:=by unfold gy;simp
  rw[e1,e2,ih,Np]
  split<;>simp
theorem yQ.strip {T:aG} (h:yQ T) (id:Int):yQ (fJ T id):=by
 have hget:∀k x,aj k (fJ T id)=some x→∃y,aj k T=some y∧x=gH id y:=fun k x hx=>by
  rw[j_]at hx
  cases hy:aj k T with
  |none=>rw[hy]at hx;cases hx
  |some y=>
   rw[hy]at hx
   simp only[Option.map_some,Option.some.injEq]at hx
   exact⟨y,rfl,hx.symm⟩
 refine⟨?_,?_,fun k x hx=> ?_,fun k x hx e he=> ?_,by unfold fJ;rw[List.length_map];exact h.len,fun k x hx=> ?_⟩
 ·have:=h.sorted
  unfold aS fJ at*
  rw[List.pairwise_map]
  exact this
 ·obtain⟨x,hx,hk⟩:=gM h.root
  unfold bO
  rw[j_,hx]
  exact hk
 ·obtain⟨y,hy,rfl⟩:=hget k x hx
  have o:=h.each k y hy
  refine⟨o.kind,fun h1=> ?_,o.dir,o.gone,?_,fun e he=>o.good e (List.mem_filter.1 he).1,o.size,o.links,o.aQ⟩
  ·unfold gH
   simp only
   rw[o.file h1];rfl
  ·exact List.Pairwise.filter _ o.sorted
 ·obtain⟨y,hy,rfl⟩:=hget k x hx
  have:=h.leads k y hy e (List.mem_filter.1 he).1
  refine⟨?_,this.2⟩
  rw[j_]
  obtain⟨z,hz⟩:=Option.isSome_iff_exists.1 this.1
  rw[hz];rfl
 ·obtain⟨y,hy,rfl⟩:=hget k x hx
  exact h.ids k y hy
theorem Sub.strip (T:aG) (id:Int):Sub (fJ T id) T:=fun d x hx=>by
 rw[j_]at hx
 cases hy:aj d T with
 |none=>rw[hy]at hx;cases hx
 |some y=>
  rw[hy]at hx
  simp only[Option.map_some,Option.some.injEq]at hx
  subst hx
  exact⟨y,rfl,rfl,fun e he=>(List.mem_filter.1 he).1⟩
theorem zO {T:aG} {id:Int} (h:mW T id=0):∃x,aj id T=some x∧x.kind≠2∧x.closed=false:=by
 unfold mW at h
 cases hx:aj id T with
 |none=>rw[hx]at h;cases h
 |some x=>
  rw[hx]at h
  simp only at h
  by_cases hk:x.kind=2
  ·rw[if_pos hk]at h;cases h
  ·rw[if_neg hk]at h
   cases hc:x.closed with
   |true=>rw[hc]at h;cases h
   |false=>exact⟨x,rfl,hk,hc⟩
theorem dX.eX {T:aG} (h:dX T) (id:Int):dX (eX T id).2:=by
 unfold Go.Proofs.YtmabllemjkcobaaGreat.eX
 by_cases he:mW T id=0
 ·simp only[if_pos he]
  obtain⟨x,hx,hk,_⟩:=zO he
  have h0:=h.tK hx hk
  have hnil:=(h.each id x hx).file ((h.each id x hx).kind.resolve_right hk)
  have hS:=h.toyQ.strip id
  have hx':aj id (fJ T id)=some (gH id x):=by rw[j_,hx];rfl
  have hn':(gH id x).names=[]:=by unfold gH;simp only;rw[hnil];rfl
  rw[tL]
  refine⟨hS.del hx' h0 (by rw[zN,if_pos rfl]),fun j y hy hj=> ?_⟩
  have hji:j≠id:=fun e=>by subst e;rw[nS]at hy;cases hy
  rw[fO,if_neg hji,j_]at hy
  cases hz:aj j T with
  |none=>rw[hz]at hy;cases hy
  |some z=>
   rw[hz]at hy
   simp only[Option.map_some,Option.some.injEq]at hy
   have h1:=wY hS.sorted hx' j
   have h2:cn j (gH id x)=0:=by unfold cn;rw[hn'];rfl
   have h3:=zN T id j
   rw[if_neg hji]at h3
   have h4:=h.counts j z hz hj
   have h5:y.links=z.links:=by rw[←hy];rfl
   omega
 ·simp only[if_neg he];exact h
theorem fG.eX {T:aG} (h:fG T) (id:Int):fG (eX T id).2:=by
 obtain⟨h1,dep,h2⟩:=h
 refine⟨h1.eX id,dep,?_⟩
 unfold Go.Proofs.YtmabllemjkcobaaGreat.eX
 simp only
 split
 ·rw[tL]
  exact h2.sub ((Sub.del _).trans (Sub.strip _ _))
 ·exact h2
theorem Ea {T:aG} {p tq:List Nm} (h:iM T p tq=0):je p tq=0∧(aH T 0 p).2=0∧(aH T 0 p).1≠0∧(aI T tq).2.2=0∧(bO T (aH T 0 p).1=2→jk tq p=false)∧(aj (aI T tq).2.1 (aX T (aI T tq).1)=none→tq.length+iB T 8 (aH T 0 p).1≤8):=by
 unfold iM at h
 by_cases h1:je p tq≠0
 ·rw[if_pos h1]at h;exact absurd h h1
 ·rw[if_neg h1]at h
  by_cases h2:(aH T 0 p).2≠0
  ·rw[if_pos h2]at h;exact absurd h h2
  ·rw[if_neg h2]at h
   by_cases h3:(aH T 0 p).1=0
   ·rw[if_pos h3]at h;cases h
   ·rw[if_neg h3]at h
    by_cases h4:(aI T tq).2.2≠0
    ·rw[if_pos h4]at h;exact absurd h h4
    ·rw[if_neg h4]at h
     by_cases h5:bO T (aH T 0 p).1=2∧jk tq p=true
     ·rw[if_pos h5]at h;cases h
     ·rw[if_neg h5]at h
      refine⟨by omega,by omega,h3,by omega,fun h6=> ?_,fun h6=> ?_⟩
      ·cases hw:jk tq p with
       |false=>rfl
       |true=>exact absurd ⟨h6,hw⟩ h5
      ·rw[h6]at h
       simp only at h
       split at h
       ·cases h
       ·omega
theorem fG.bB {T:aG} (h:fG T) (p tq:List Nm):fG (bB T p tq).2:=by
 unfold Go.Proofs.YtmabllemjkcobaaGreat.bB
 simp only
 by_cases hc:iM T p tq=0∧(aj (aI T tq).2.1 (aX T (aI T tq).1)).isSome=false
 ·rw[if_pos hc]
  obtain⟨h1,dep,h2⟩:=h
  obtain⟨a1,a2,a3,a4,a5,a6⟩:=Ea hc.1
  have hn:aj (aI T tq).2.1 (aX T (aI T tq).1)=none:=by simpa using hc.2
  have hlk:aH T 0 p=((aH T 0 p).1,0):=Prod.ext rfl a2
  have hpl:aI T tq=((aI T tq).1,(aI T tq).2.1,0):=Prod.ext rfl (Prod.ext rfl a4)
  obtain⟨x2,hx2,hk2,hm2⟩:=ig h1 a4
  have hpn:p≠[]:=fun e=>a3 (by rw[e];rfl)
  obtain⟨d1,x1,n1,e1,hl1,hx1,hk1,hn1,_,ep⟩:=dB hlk hpn
  have hf:=oh a1
  unfold qg
  refine⟨?_,h2.move h1 hlk a3 hpl (nO hf.2) fun hk=>⟨a5 hk,a6 hn⟩⟩
  rw[e1]
  rw[dK hx2]at hn
  exact h1.move hx1 hk1 hn1 hx2 hk2 (iR hf.2 _ hm2) hn
 ·rw[if_neg hc];exact h
end Go.Proofs.YtmabllemjkcobaaGreat
