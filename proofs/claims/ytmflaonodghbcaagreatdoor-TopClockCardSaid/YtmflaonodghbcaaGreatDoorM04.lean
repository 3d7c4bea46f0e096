/- A -/
import Derived.Test.YtmflaonodghbcaaGreatDoorM01
import Derived.Deep.RegionHeld3
set_option maxRecDepth 100000
set_option maxHeartbeats 64000000
set_option linter.all false
namespace Go.Proofs.YtmflaonodghbcaaGreatDoor
open Go
section
variable{P:Program}{ops:Array Oper}{Q:Exit→Act→World→Prop}{md:Region.Mode}{S:World→Prop}{last:Nat}
def wpAnyL(P:Program)(md:Region.Mode)(ops:Array Oper)(Q:Exit→Act→World→Prop)(S:World→Prop)(last:Nat):Nat→Array Bool→Act→World→Prop
 |0,listed,a,w=>Region.ready md ops listed=[]∧Q .normal a w
 |fuel+1,listed,a,w=>
  (Region.ready md ops listed=[]→Q .normal a w)∧
  ∀i∈Region.ready md ops listed,wpOp P ops Q i (fun a' w'=>(i≠last→S w')∧wpAnyL P md ops Q S last fuel (listed.setIfInBounds i true) a' w') a w
theorem Dv:∀(fuel:Nat) (listed:Array Bool) (a:Act) (w:World),wpAnyL P md ops Q S last fuel listed a w→wpAny P md ops Q fuel listed a w
 |0,_,_,_,h=>h
 |fuel+1,_,_,_,h=>⟨h.1,fun i hi=>wpOp_mono (fun a' w' h'=>Dv fuel _ a' w' h'.2) (h.2 i hi)⟩
def Closed(md:Region.Mode)(ops:Array Oper)(listed:Array Bool):Prop:=∀j o,ops[j]? =some o→listed.getD j false=true→∀e∈o.after,Region.binds md e=true→listed.getD e.on false=true
def reach(md:Region.Mode)(ops:Array Oper)(i:Nat):Nat→Nat→Bool
 |0,_=>false
 |f+1,j=>match ops[j]? with
  |none=>false
  |some o=>o.after.any fun e=>Region.binds md e&&(e.on==i||reach md ops i f e.on)
theorem Dw{listed:Array Bool}{i:Nat}(h:listed.getD i true=false)(h1:listed.getD i false=true):False:=by
 rcases Nat.lt_or_ge i listed.size with h'|h'
 ·simp[h']at h h1;rw[h]at h1;cases h1
 ·simp[Array.getElem?_eq_none h']at h1
theorem GA{listed:Array Bool}(hc:Closed md ops listed){i:Nat}(hi:listed.getD i true=false):∀(f j:Nat),reach md ops i f j=true→j∉Region.ready md ops listed∧¬listed.getD j false=true
 |0,_,h=>by cases h
 |f+1,j,h=>by
  unfold reach at h;cases ho:ops[j]? with
  |none=>rw[ho]at h;cases h
  |some o=>
   rw[ho]at h;simp only[Array.any_eq_true']at h;obtain⟨e,he,h2⟩:=h;simp only[aa2,abz,beq_iff_eq]at h2;have key:¬listed.getD e.on false=true:=fun h3=>by
    rcases h2.2 with h4|h4
    ·rw[h4]at h3;exact Dw hi h3
    ·exact(GA hc hi f e.on h4).2 h3
   refine⟨fun hr=> ?_,fun hl=>key (hc j o ho hl e he h2.1)⟩;obtain⟨_,o',ho',hall⟩:=mem_ready.1 hr;rw[ho]at ho';cases ho';exact key (hall e he h2.1)
theorem Kj{listed:Array Bool}(hc:Closed md ops listed){i:Nat}(hi:i∈Region.ready md ops listed):Closed md ops (listed.setIfInBounds i true):=by
 intro j o ho hl e he hb;by_cases hji:i=j
 ·subst hji;obtain⟨_,o',ho',hall⟩:=mem_ready.1 hi;rw[ho]at ho';cases ho';exact getD_set_true (hall e he hb)
 ·rw[getD_set_ne false hji]at hl;exact getD_set_true (hc j o ho hl e he hb)
theorem wpAnyL_first{i:Nat}{oi:Oper}{v:Value}(hi:ops[i]? =some oi)(hsel:∀(j:Nat) (o:Oper) cs b,ops[j]? =some o→o.op≠ .select cs b)
  (hQ:∀c a w,Q (.panic c) (a.put oi.dst v) w→Q (.panic c) a w){f:Nat}(hre:reach md ops i f last=true):
  ∀(fuel:Nat) (listed:Array Bool) (a:Act) (w:World),Closed md ops listed→
   (∀j oj,ops[j]? =some oj→j≠i→listed.getD j true=false→(∀e∈oj.after,Region.binds md e=true→e.on≠i)→oi.apart ops oj=true)→
   i∈Region.ready md ops listed→YieldsIf P ops S oi v a→S w→
   wpAnyL P md ops Q S last fuel (listed.setIfInBounds i true) (a.put oi.dst v) w→wpAnyL P md ops Q S last (fuel+1) listed a w:=by
 intro fuel
 induction fuel with
 |zero=>
  intro listed a w _ _ hr hy hS H;refine⟨fun h=>(by rw[h]at hr;cases hr),fun j hj=> ?_⟩;by_cases hji:j=i
  ·subst hji;exact hy.wpOp hi hS ⟨fun _=>hS,H⟩
  ·have:=ready_mono hj hji;rw[H.1]at this;cases this
 |succ fuel ih=>
  intro listed a w hcl hfree hr hy hS H;refine⟨fun h=>(by rw[h]at hr;cases hr),fun j hj=> ?_⟩;by_cases hji:j=i
  ·subst hji;exact hy.wpOp hi hS ⟨fun _=>hS,H⟩
  ·have hjl:j≠last:=fun e=>(GA hcl (mem_ready.1 hr).1 f last hre).1 (e▸hj);have h1:=H.2 j (ready_mono hj hji);obtain⟨hjun,oj,hoj,hall⟩:=mem_ready.1 hj;have hnot:∀e∈oj.after,Region.binds md e=true→e.on≠i:=fun e he hb heq=>by
    have h1:=hall e he hb;rw[heq]at h1;exact Dw (mem_ready.1 hr).1 h1
   have h2:=wpOp_putIf hoj (hfree j oj hoj hji hjun hnot) (fun cs b=>hsel i oi cs b hi) (fun cs b=>hsel j oj cs b hoj) hQ hy h1
   have hfree':∀k ok,ops[k]? =some ok→k≠i→(listed.setIfInBounds j true).getD k true=false→
     (∀e∈ok.after,Region.binds md e=true→e.on≠i)→oi.apart ops ok=true:=fun k ok hk hki hun hno=>by
    refine hfree k ok hk hki ?_ hno;by_cases hjk:j=k
    ·subst hjk;exact hjun
    ·rw[getD_set_ne true hjk]at hun;exact hun
   refine wpOp_mono (fun a' w' h3=>⟨fun _=>h3.2.1 hjl,ih (listed.setIfInBounds j true) a' w' (Kj hcl hj) hfree' (ready_mono hr (aaP hji)) h3.1 (h3.2.1 hjl) ?_⟩) h2;rw[Array.setIfInBounds_comm _ _ hji];exact h3.2.2
def CP(md:Region.Mode)(ops:Array Oper)(listed:Array Bool):Bool:=
 (List.range ops.size).all fun j=> !listed.getD j false||match ops[j]? with
  |none=>true
  |some o=>o.after.all fun e=> !Region.binds md e||listed.getD e.on false
theorem Rq{listed:Array Bool}(h:CP md ops listed=true):Closed md ops listed:=by
 intro j o ho hl e he hb;have hj:j<ops.size:=(uh.1 ho).1;unfold CP at h;rw[List.all_eq_true]at h;have h1:=h j (abg.2 hj);rw[hl,ho]at h1;simp only[Bool.not_true,Bool.false_or,Array.all_eq_true']at h1;have h2:=h1 e he;rw[hb]at h2;simpa using h2
theorem Kk{i:Nat}{oi:Oper}{v:Value}{fuel:Nat}{listed:Array Bool}{a:Act}{w:World}(hi:ops[i]? =some oi)
  (hs:Region.noSelect ops=true)(hf:Region.free md ops listed i=true)(hr:(Region.ready md ops listed).contains i=true)(hcl:CP md ops listed=true)(hre:reach md ops i ops.size last=true)
  (hQ:∀c a w,Q (.panic c) (a.put oi.dst v) w→Q (.panic c) a w)(hy:YieldsIf P ops S oi v a)(hS:S w)
  (h:wpAnyL P md ops Q S last fuel (listed.setIfInBounds i true) (a.put oi.dst v) w):wpAnyL P md ops Q S last (fuel+1) listed a w:=
 wpAnyL_first hi (Region.noSelect_spec hs) hQ hre fuel listed a w (Rq hcl) (Region.free_spec hi hf) (by simpa using hr) hy hS h
theorem Kl{listed:Array Bool}{a:Act}{w:World}(hr:Region.ready md ops listed=[])(h:Q .normal a w):
  ∀fuel,wpAnyL P md ops Q S last fuel listed a w
 |0=>⟨hr,h⟩
 |_+1=>⟨fun _=>h,by rw[hr];simp⟩
def fC(P:Program)(md:Region.Mode)(ops:Array Oper)(Q:Exit→Act→World→Prop)(S:World→Prop)(last:Nat)(fuel:Nat)(listed:Array Bool)(a:Act)(w:World)(rs:List Nat):Prop:=
 ∀i∈rs,wpOp P ops Q i (fun a' w'=>(i≠last→S w')∧wpAnyL P md ops Q S last fuel (listed.setIfInBounds i true) a' w') a w
theorem fC.nil{fuel:Nat}{listed:Array Bool}{a:Act}{w:World}:fC P md ops Q S last fuel listed a w []:=fun _ h=>by cases h
theorem fC.cons{fuel:Nat}{listed:Array Bool}{a:Act}{w:World}{i:Nat}{o:Oper}{rs:List Nat}(ho:ops[i]? =some o)
  (h:∀K':Act→World→Prop,Shut (∀a w,(i≠last→S w)→((i≠last→S w)→wpAnyL P md ops Q S last fuel (listed.setIfInBounds i true) a w)→K' a w)→if Region.wanted o (yielded ops a.tmps)=true then Oper.wp P o a w K' Q else K' (a.put o.dst undef) w)
  (hs:fC P md ops Q S last fuel listed a w rs):fC P md ops Q S last fuel listed a w (i::rs):=fun j hj=>by
 rcases aaq.1 hj with rfl|hj
 ·exact wpOp_step ho (fun K' hK=>h K' (fun a w hS hW=>hK a w ⟨hS,hW hS⟩))
 ·exact hs j hj
theorem sK{rs:List Nat}{fuel:Nat}{listed:Array Bool}{a:Act}{w:World}(hr:Region.ready md ops listed=rs)(hne:rs≠[])
  (h:fC P md ops Q S last fuel listed a w rs):wpAnyL P md ops Q S last (fuel+1) listed a w:=⟨fun h0=>absurd (hr▸h0) hne,hr▸h⟩
theorem Km{id:Nat}{a:Act}{w:World}(hm:P.follows .mixedOrders=true)(hS:S w.drew)
  (h:S w.drew→wpAnyL P .any ops Q S last ops.size (Array.replicate ops.size false) a w.drew):(Code.region id ops true).wp P Q a w:=
 wp_region_any hm (Dv _ _ _ _ (h hS))
theorem aY(i:Nat){oi:Oper}{v:Value}{fuel:Nat}{listed l':Array Bool}{a a':Act}{w:World}
  (hS:S w)(h:wpAnyL P md ops Q S last fuel l' a' w)
  (hi:ops[i]? =some oi:=by simp only[aan,aaA,aav];rfl)
  (hs:Region.noSelect ops=true:=by kernel_rfl)(hf:Region.free md ops listed i=true:=by kernel_rfl)(hr:(Region.ready md ops listed).contains i=true:=by kernel_rfl)(hcl:CP md ops listed=true:=by kernel_rfl)(hre:reach md ops i ops.size last=true:=by kernel_rfl)
  (hQ:∀c a w,Q (.panic c) (a.put oi.dst v) w→Q (.panic c) a w:=by exact fun _ _ _ h=>h)
  (hw:Region.wanted oi (yielded ops a.tmps)=true:=by rfl)
  (hy:∀w,S w→(execOp a.eval oi).run P w= .ok (.value v) w:=by intro w hSw;(try dsimp only at hSw);go_simp;(try with_reducible rfl))
  (hl:listed.setIfInBounds i true=l':=by(try simp only[aao,aaL,aaM]);rfl)
  (ha:a.put oi.dst v=a':=by(try simp only[Act.put,aao,aaL,aaM]);rfl)
  :wpAnyL P md ops Q S last (fuel+1) listed a w:=
 Kk hi hs hf hr hcl hre hQ (Or.inl ⟨hw,hy⟩) hS (by rw[hl,ha];exact h)
theorem dW(i:Nat){o:Oper}{fuel:Nat}{listed:Array Bool}{a:Act}{w:World}
  (h:∀K':Act→World→Prop,Shut (∀a w,(i≠last→S w)→((i≠last→S w)→wpAnyL P md ops Q S last fuel (listed.setIfInBounds i true) a w)→K' a w)→if Region.wanted o (yielded ops a.tmps)=true then Oper.wp P o a w K' Q else K' (a.put o.dst undef) w)
  (ho:ops[i]? =some o:=by simp only[aan,aaA,aav];rfl)(hr:Region.ready md ops listed=[i]:=by kernel_rfl):wpAnyL P md ops Q S last (fuel+1) listed a w:=
 sK hr (by simp) (fC.cons ho h fC.nil)
theorem sM(i j:Nat){o1 o2:Oper}{fuel:Nat}{listed:Array Bool}{a:Act}{w:World}
  (h1:∀K':Act→World→Prop,Shut (∀a w,(i≠last→S w)→((i≠last→S w)→wpAnyL P md ops Q S last fuel (listed.setIfInBounds i true) a w)→K' a w)→if Region.wanted o1 (yielded ops a.tmps)=true then Oper.wp P o1 a w K' Q else K' (a.put o1.dst undef) w)
  (h2:∀K':Act→World→Prop,Shut (∀a w,(j≠last→S w)→((j≠last→S w)→wpAnyL P md ops Q S last fuel (listed.setIfInBounds j true) a w)→K' a w)→if Region.wanted o2 (yielded ops a.tmps)=true then Oper.wp P o2 a w K' Q else K' (a.put o2.dst undef) w)
  (ho1:ops[i]? =some o1:=by simp only[aan,aaA,aav];rfl)(ho2:ops[j]? =some o2:=by simp only[aan,aaA,aav];rfl)(hr:Region.ready md ops listed=[i,j]:=by kernel_rfl):wpAnyL P md ops Q S last (fuel+1) listed a w:=
 sK hr (by simp) (fC.cons ho1 h1 (fC.cons ho2 h2 fC.nil))
theorem rdL3(i j k:Nat){o1 o2 o3:Oper}{fuel:Nat}{listed:Array Bool}{a:Act}{w:World}
  (h1:∀K':Act→World→Prop,Shut (∀a w,(i≠last→S w)→((i≠last→S w)→wpAnyL P md ops Q S last fuel (listed.setIfInBounds i true) a w)→K' a w)→if Region.wanted o1 (yielded ops a.tmps)=true then Oper.wp P o1 a w K' Q else K' (a.put o1.dst undef) w)
  (h2:∀K':Act→World→Prop,Shut (∀a w,(j≠last→S w)→((j≠last→S w)→wpAnyL P md ops Q S last fuel (listed.setIfInBounds j true) a w)→K' a w)→if Region.wanted o2 (yielded ops a.tmps)=true then Oper.wp P o2 a w K' Q else K' (a.put o2.dst undef) w)
  (h3:∀K':Act→World→Prop,Shut (∀a w,(k≠last→S w)→((k≠last→S w)→wpAnyL P md ops Q S last fuel (listed.setIfInBounds k true) a w)→K' a w)→if Region.wanted o3 (yielded ops a.tmps)=true then Oper.wp P o3 a w K' Q else K' (a.put o3.dst undef) w)
  (ho1:ops[i]? =some o1:=by simp only[aan,aaA,aav];rfl)(ho2:ops[j]? =some o2:=by simp only[aan,aaA,aav];rfl)(ho3:ops[k]? =some o3:=by simp only[aan,aaA,aav];rfl)(hr:Region.ready md ops listed=[i,j,k]:=by kernel_rfl):wpAnyL P md ops Q S last (fuel+1) listed a w:=
 sK hr (by simp) (fC.cons ho1 h1 (fC.cons ho2 h2 (fC.cons ho3 h3 fC.nil)))
theorem dK{i:Nat}{fuel:Nat}{listed l':Array Bool}{a a':Act}{w:World}{K:Act→World→Prop}
  (hK:Shut (∀a w,(i≠last→S w)→((i≠last→S w)→wpAnyL P md ops Q S last fuel (listed.setIfInBounds i true) a w)→K a w))(hS:S w)(h:S w→wpAnyL P md ops Q S last fuel l' a' w)
  (hl:listed.setIfInBounds i true=l':=by(try simp only[aao,aaL,aaM]);rfl)
  (ha:a=a':=by(try simp only[Act.put,aao,aaL,aaM]);rfl):K a w:=by
 subst hl ha;exact hK a w (fun _=>hS) fun _=>h hS
theorem sN{i:Nat}{fuel:Nat}{listed:Array Bool}{a a':Act}{w:World}{K:Act→World→Prop}
  (hK:Shut (∀a w,(i≠last→S w)→((i≠last→S w)→wpAnyL P md ops (NoPanic Q) S last fuel (listed.setIfInBounds i true) a w)→K a w))(h:Q .normal a' w)
  (hi:i=last:=by rfl)(hr:Region.ready md ops (listed.setIfInBounds i true)=[]:=by kernel_rfl)
  (ha:a=a':=by(try simp only[Act.put,aao,aaL,aaM]);rfl):K a w:=by
 subst ha;exact hK a w (fun h0=>absurd hi h0) fun _=>Kl hr (NoPanic.normal h) _
theorem Cv(last:Nat)(S:World→Prop){id:Nat}{a:Act}{w:World}(hS:S w.drew)
  (h:S w.drew→wpAnyL P .any ops (NoPanic Q) S last ops.size (Array.replicate ops.size false) a w.drew)(hm:P.follows .mixedOrders=true:=by kernel_rfl):(Code.region id ops true).wp P Q a w:=
 wp_region_noPanic (Km hm hS h)
end
end Go.Proofs.YtmflaonodghbcaaGreatDoor
