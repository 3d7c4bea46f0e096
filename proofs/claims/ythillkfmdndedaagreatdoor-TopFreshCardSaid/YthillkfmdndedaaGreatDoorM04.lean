/- A -/
import Derived.Test.YthillkfmdndedaaGreatDoorM01
import Derived.Deep.RegionHeld3
set_option maxRecDepth 100000
set_option maxHeartbeats 64000000
set_option linter.all false
namespace Go.Proofs.YthillkfmdndedaaGreatDoor
open Go
section
variable{P:Program}{ops:Array Oper}{Q:Exit->Act->World->Prop}{md:Region.Mode}{S:World->Prop}{last:Nat}
def wpAnyL(P:Program)(md:Region.Mode)(ops:Array Oper)(Q:Exit->Act->World->Prop)(S:World->Prop)(last:Nat):Nat->Array Bool->Act->World->Prop
 |0,m,a,w=>Region.ready md ops m=[]/\Q .normal a w
 |u+1,m,a,w=>
  (Region.ready md ops m=[]->Q .normal a w)/\
  ∀i∈Region.ready md ops m,wpOp P ops Q i (λ y w'=>(i≠last->S w')/\wpAnyL P md ops Q S last u (m.setIfInBounds i true) y w') a w
theorem D9:∀(u:Nat) (m:Array Bool) (a:Act) (w:World),wpAnyL P md ops Q S last u m a w->wpAny P md ops Q u m a w
 |0,_,_,_,h=>h
 |u+1,_,_,_,h=>⟨h.1,λ i z=>wpOp_mono (λ y w' A=>D9 u _ y w' A.2) (h.2 i z)⟩
def Closed(md:Region.Mode)(ops:Array Oper)(m:Array Bool):Prop:=∀j o,ops[j]? =some o->m.getD j false=true->∀e∈o.after,Region.binds md e=true->m.getD e.on false=true
def reach(md:Region.Mode)(ops:Array Oper)(i:Nat):Nat->Nat->Bool
 |0,_=>false
 |f+1,j=>match ops[j]? with
  |none=>false
  |some o=>o.after.any λ e=>Region.binds md e&&(e.on==i||reach md ops i f e.on)
theorem D_{m:Array Bool}{i:Nat}(h:m.getD i true=false)(u:m.getD i false=true):False:=by
 rcases Nat.lt_or_ge i m.size with y|y
 ·simp[y]at h u;rw[h]at u;cases u
 ·simp[Array.getElem?_eq_none y]at u
theorem G8{m:Array Bool}(E:Closed md ops m){i:Nat}(G:m.getD i true=false):∀(f j:Nat),reach md ops i f j=true->j∉Region.ready md ops m/\¬m.getD j false=true
 |0,_,h=>by cases h
 |f+1,j,h=>by
  unfold reach at h;cases B:ops[j]? with
  |none=>rw[B]at h;cases h
  |some o=>
   rw[B]at h;simp only[Array.any_eq_true']at h;obtain⟨e,F,A⟩:=h;simp only[aaW,abH,beq_iff_eq]at A;have u:¬m.getD e.on false=true:=λ D=>by
    rcases A.2 with C|C
    ·rw[C]at D;exact D_ G D
    ·exact(G8 E G f e.on C).2 D
   refine⟨λ H=> ?_,λ I=>u (E j o B I e F A.1)⟩;obtain⟨_,J,z,y⟩:=mem_ready.1 H;rw[B]at z;cases z;exact u (y e F A.1)
theorem KE{m:Array Bool}(E:Closed md ops m){i:Nat}(F:i∈Region.ready md ops m):Closed md ops (m.setIfInBounds i true):=by
 intro j o C D e B A;by_cases u:i=j
 ·subst u;obtain⟨_,G,z,y⟩:=mem_ready.1 F;rw[C]at z;cases z;exact getD_set_true (y e B A)
 ·rw[getD_set_ne false u]at D;exact getD_set_true (E j o C D e B A)
theorem wpAnyL_first{i:Nat}{G:Oper}{v:Value}(hi:ops[i]? =some G)(B:∀(j:Nat) (o:Oper) V b,ops[j]? =some o->o.op≠ .select V b)
  (hQ:∀c a w,Q (.panic c) (a.put G.dst v) w->Q (.panic c) a w){f:Nat}(av:reach md ops i f last=true):
  ∀(u:Nat) (m:Array Bool) (a:Act) (w:World),Closed md ops m->
   (∀j F,ops[j]? =some F->j≠i->m.getD j true=false->(∀e∈F.after,Region.binds md e=true->e.on≠i)->G.apart ops F=true)->
   i∈Region.ready md ops m->YieldsIf P ops S G v a->S w->
   wpAnyL P md ops Q S last u (m.setIfInBounds i true) (a.put G.dst v) w->wpAnyL P md ops Q S last (u+1) m a w:=by
 intro u
 induction u with
 |zero=>
  intro m a w _ _ C X J H;refine⟨λ h=>(by rw[h]at C;cases C),λ j I=> ?_⟩;by_cases y:j=i
  ·subst y;exact X.wpOp hi J ⟨λ _=>J,H⟩
  ·have:=ready_mono I y;rw[H.1]at this;cases this
 |succ u ih=>
  intro m a w U z C X J H;refine⟨λ h=>(by rw[h]at C;cases C),λ j I=> ?_⟩;by_cases y:j=i
  ·subst y;exact X.wpOp hi J ⟨λ _=>J,H⟩
  ·have M:j≠last:=λ e=>(G8 U (mem_ready.1 C).1 f last av).1 (e▸I);have W:=H.2 j (ready_mono I y);obtain⟨D,F,E,R⟩:=mem_ready.1 I;have K:∀e∈F.after,Region.binds md e=true->e.on≠i:=λ e he hb ak=>by
    have W:=R e he hb;rw[ak]at W;exact D_ (mem_ready.1 C).1 W
   have h2:=wpOp_putIf E (z j F E y D K) (λ V b=>B i G V b hi) (λ V b=>B j F V b E) hQ X W
   have A:∀k ok,ops[k]? =some ok->k≠i->(m.setIfInBounds j true).getD k true=false->
     (∀e∈ok.after,Region.binds md e=true->e.on≠i)->G.apart ops ok=true:=λ k ok hk aA N Z=>by
    refine z k ok hk aA ?_ Z;by_cases O:j=k
    ·subst O;exact D
    ·rw[getD_set_ne true O]at N;exact N
   refine wpOp_mono (λ a' w' Y=>⟨λ _=>Y.2.1 M,ih (m.setIfInBounds j true) a' w' (KE U I) A (ready_mono C (aa6 y)) Y.1 (Y.2.1 M) ?_⟩) h2;rw[Array.setIfInBounds_comm _ _ y];exact Y.2.2
def DC(md:Region.Mode)(ops:Array Oper)(m:Array Bool):Bool:=
 (List.range ops.size).all λ j=> !m.getD j false||match ops[j]? with
  |none=>true
  |some o=>o.after.all λ e=> !Region.binds md e||m.getD e.on false
theorem Sc{m:Array Bool}(h:DC md ops m=true):Closed md ops m:=by
 intro j o y D e C B;have A:j<ops.size:=(qW.1 y).1;unfold DC at h;rw[List.all_eq_true]at h;have u:=h j (aa9.2 A);rw[D,y]at u;simp only[Bool.not_true,Bool.false_or,Array.all_eq_true']at u;have z:=u e C;rw[B]at z;simpa using z
theorem KF{i:Nat}{y:Oper}{v:Value}{u:Nat}{m:Array Bool}{a:Act}{w:World}(B:ops[i]? =some y)
  (D:Region.noSelect ops=true)(H:Region.free md ops m i=true)(C:(Region.ready md ops m).contains i=true)(A:DC md ops m=true)(z:reach md ops i ops.size last=true)
  (F:∀c a w,Q (.panic c) (a.put y.dst v) w->Q (.panic c) a w)(G:YieldsIf P ops S y v a)(E:S w)
  (h:wpAnyL P md ops Q S last u (m.setIfInBounds i true) (a.put y.dst v) w):wpAnyL P md ops Q S last (u+1) m a w:=
 wpAnyL_first B (Region.noSelect_spec D) F z u m a w (Sc A) (Region.free_spec B H) (by simpa using C) G E h
theorem KG{m:Array Bool}{a:Act}{w:World}(y:Region.ready md ops m=[])(h:Q .normal a w):
  ∀u,wpAnyL P md ops Q S last u m a w
 |0=>⟨y,h⟩
 |_+1=>⟨λ _=>h,by rw[y];simp⟩
def fZ(P:Program)(md:Region.Mode)(ops:Array Oper)(Q:Exit->Act->World->Prop)(S:World->Prop)(last:Nat)(u:Nat)(m:Array Bool)(a:Act)(w:World)(z:List Nat):Prop:=
 ∀i∈z,wpOp P ops Q i (λ y w'=>(i≠last->S w')/\wpAnyL P md ops Q S last u (m.setIfInBounds i true) y w') a w
theorem fZ.nil{u:Nat}{m:Array Bool}{a:Act}{w:World}:fZ P md ops Q S last u m a w []:=λ _ h=>by cases h
theorem fZ.cons{u:Nat}{m:Array Bool}{a:Act}{w:World}{i:Nat}{o:Oper}{B:List Nat}(F:ops[i]? =some o)
  (h:∀y:Act->World->Prop,Shut (∀a w,(i≠last->S w)->((i≠last->S w)->wpAnyL P md ops Q S last u (m.setIfInBounds i true) a w)->y a w)->if Region.wanted o (yielded ops a.tmps)=true then Oper.wp P o a w y Q else y (a.put o.dst undef) w)
  (D:fZ P md ops Q S last u m a w B):fZ P md ops Q S last u m a w (i::B):=λ j z=>by
 rcases List.mem_cons.1 z with rfl|z
 ·exact wpOp_step F (λ y E=>h y (λ a w A C=>E a w ⟨A,C A⟩))
 ·exact D j z
theorem sV{y:List Nat}{u:Nat}{m:Array Bool}{a:Act}{w:World}(A:Region.ready md ops m=y)(z:y≠[])
  (h:fZ P md ops Q S last u m a w y):wpAnyL P md ops Q S last (u+1) m a w:=⟨λ B=>absurd (A▸B) z,A▸h⟩
theorem KH{id:Nat}{a:Act}{w:World}(m:P.follows .mixedOrders=true)(u:S w.drew)
  (h:S w.drew->wpAnyL P .any ops Q S last ops.size (Array.replicate ops.size false) a w.drew):(Code.region id ops true).wp P Q a w:=
 wp_region_any m (D9 _ _ _ _ (h u))
theorem aO(i:Nat){y:Oper}{v:Value}{u:Nat}{m C:Array Bool}{a D:Act}{w:World}
  (I:S w)(h:wpAnyL P md ops Q S last u C D w)
  (M:ops[i]? =some y:=by simp only[aam,aaw,aar];rfl)
  (H:Region.noSelect ops=true:=by kernel_rfl)(N:Region.free md ops m i=true:=by kernel_rfl)(F:(Region.ready md ops m).contains i=true:=by kernel_rfl)(A:DC md ops m=true:=by kernel_rfl)(z:reach md ops i ops.size last=true:=by kernel_rfl)
  (J:∀c a w,Q (.panic c) (a.put y.dst v) w->Q (.panic c) a w:=by exact λ _ _ _ h=>h)
  (E:Region.wanted y (yielded ops a.tmps)=true:=by rfl)
  (K:∀w,S w->(execOp a.eval y).run P w= .ok (.value v) w:=by intro w B;(try dsimp only at B);go_simp;(try with_reducible rfl))
  (O:m.setIfInBounds i true=C:=by(try simp only[aan,aaO,aaP]);rfl)
  (G:a.put y.dst v=D:=by(try simp only[Act.put,aan,aaO,aaP]);rfl)
  :wpAnyL P md ops Q S last (u+1) m a w:=
 KF M H N F A z J (Or.inl ⟨E,K⟩) I (by rw[O,G];exact h)
theorem cu(i:Nat){o:Oper}{u:Nat}{m:Array Bool}{a:Act}{w:World}
  (h:∀y:Act->World->Prop,Shut (∀a w,(i≠last->S w)->((i≠last->S w)->wpAnyL P md ops Q S last u (m.setIfInBounds i true) a w)->y a w)->if Region.wanted o (yielded ops a.tmps)=true then Oper.wp P o a w y Q else y (a.put o.dst undef) w)
  (A:ops[i]? =some o:=by simp only[aam,aaw,aar];rfl)(z:Region.ready md ops m=[i]:=by kernel_rfl):wpAnyL P md ops Q S last (u+1) m a w:=
 sV z (by simp) (fZ.cons A h fZ.nil)
theorem nK(i j:Nat){A z:Oper}{u:Nat}{m:Array Bool}{a:Act}{w:World}
  (F:∀y:Act->World->Prop,Shut (∀a w,(i≠last->S w)->((i≠last->S w)->wpAnyL P md ops Q S last u (m.setIfInBounds i true) a w)->y a w)->if Region.wanted A (yielded ops a.tmps)=true then Oper.wp P A a w y Q else y (a.put A.dst undef) w)
  (E:∀y:Act->World->Prop,Shut (∀a w,(j≠last->S w)->((j≠last->S w)->wpAnyL P md ops Q S last u (m.setIfInBounds j true) a w)->y a w)->if Region.wanted z (yielded ops a.tmps)=true then Oper.wp P z a w y Q else y (a.put z.dst undef) w)
  (C:ops[i]? =some A:=by simp only[aam,aaw,aar];rfl)(B:ops[j]? =some z:=by simp only[aam,aaw,aar];rfl)(D:Region.ready md ops m=[i,j]:=by kernel_rfl):wpAnyL P md ops Q S last (u+1) m a w:=
 sV D (by simp) (fZ.cons C F (fZ.cons B E fZ.nil))
theorem rdL3(i j k:Nat){z B A:Oper}{u:Nat}{m:Array Bool}{a:Act}{w:World}
  (H:∀y:Act->World->Prop,Shut (∀a w,(i≠last->S w)->((i≠last->S w)->wpAnyL P md ops Q S last u (m.setIfInBounds i true) a w)->y a w)->if Region.wanted z (yielded ops a.tmps)=true then Oper.wp P z a w y Q else y (a.put z.dst undef) w)
  (G:∀y:Act->World->Prop,Shut (∀a w,(j≠last->S w)->((j≠last->S w)->wpAnyL P md ops Q S last u (m.setIfInBounds j true) a w)->y a w)->if Region.wanted B (yielded ops a.tmps)=true then Oper.wp P B a w y Q else y (a.put B.dst undef) w)
  (I:∀y:Act->World->Prop,Shut (∀a w,(k≠last->S w)->((k≠last->S w)->wpAnyL P md ops Q S last u (m.setIfInBounds k true) a w)->y a w)->if Region.wanted A (yielded ops a.tmps)=true then Oper.wp P A a w y Q else y (a.put A.dst undef) w)
  (C:ops[i]? =some z:=by simp only[aam,aaw,aar];rfl)(D:ops[j]? =some B:=by simp only[aam,aaw,aar];rfl)(E:ops[k]? =some A:=by simp only[aam,aaw,aar];rfl)(F:Region.ready md ops m=[i,j,k]:=by kernel_rfl):wpAnyL P md ops Q S last (u+1) m a w:=
 sV F (by simp) (fZ.cons C H (fZ.cons D G (fZ.cons E I fZ.nil)))
theorem b_{i:Nat}{u:Nat}{m A:Array Bool}{a y:Act}{w:World}{K:Act->World->Prop}
  (C:Shut (∀a w,(i≠last->S w)->((i≠last->S w)->wpAnyL P md ops Q S last u (m.setIfInBounds i true) a w)->K a w))(z:S w)(h:S w->wpAnyL P md ops Q S last u A y w)
  (D:m.setIfInBounds i true=A:=by(try simp only[aan,aaO,aaP]);rfl)
  (B:a=y:=by(try simp only[Act.put,aan,aaO,aaP]);rfl):K a w:=by
 subst D B;exact C a w (λ _=>z) λ _=>h z
theorem o_{i:Nat}{u:Nat}{m:Array Bool}{a y:Act}{w:World}{K:Act->World->Prop}
  (C:Shut (∀a w,(i≠last->S w)->((i≠last->S w)->wpAnyL P md ops (NoPanic Q) S last u (m.setIfInBounds i true) a w)->K a w))(h:Q .normal y w)
  (D:i=last:=by rfl)(A:Region.ready md ops (m.setIfInBounds i true)=[]:=by kernel_rfl)
  (B:a=y:=by(try simp only[Act.put,aan,aaO,aaP]);rfl):K a w:=by
 subst B;exact C a w (λ z=>absurd D z) λ _=>KG A (NoPanic.normal h) _
theorem vJ(last:Nat)(S:World->Prop){id:Nat}{a:Act}{w:World}(u:S w.drew)
  (h:S w.drew->wpAnyL P .any ops (NoPanic Q) S last ops.size (Array.replicate ops.size false) a w.drew)(m:P.follows .mixedOrders=true:=by kernel_rfl):(Code.region id ops true).wp P Q a w:=
 wp_region_noPanic (KH m u h)
end
