/- A -/
import Derived.Test.YtjnhnlabpccgjaaGreatDoorM01
import Derived.Deep.RegionHeld3
set_option maxRecDepth 100000
set_option maxHeartbeats 64000000
set_option linter.all false
namespace Go.Proofs.YtjnhnlabpccgjaaGreatDoor
theorem jf{P:Program}{md:Region.Mode}{ops:Array Oper}{Q:Exit→Act→World→Prop}{S S':World→Prop}(h:∀w,S' w→S w):
  ∀(fuel:Nat) (listed:Array Bool) (a:Act) (w:World),wpAnyH P md ops Q S' fuel listed a w→wpAnyH P md ops Q S fuel listed a w
 |0,_,_,_,hw=>hw
 |fuel+1,_,_,_,hw=>⟨hw.1,fun i hi=>wpOp_mono (fun _ _ h'=>⟨h _ h'.1,jf h fuel _ _ _ h'.2⟩) (hw.2 i hi)⟩
open Go
theorem aP{P:Program}{ops:Array Oper}{Q:Exit→Act→World→Prop}{md:Region.Mode}{S:World→Prop}(i:Nat){oi:Oper}{v:Value}{fuel:Nat}{listed l':Array Bool}{a a':Act}{w:World}
  (hS:S w)(h:wpAnyH P md ops Q S fuel l' a' w)
  (hi:ops[i]? =some oi:=by simp only[aaq,aav,aao];rfl)
  (hs:Region.noSelect ops=true:=by kernel_rfl)(hf:Region.free md ops listed i=true:=by kernel_rfl)(hr:(Region.ready md ops listed).contains i=true:=by kernel_rfl)
  (hQ:∀c a w,Q (.panic c) (a.put oi.dst v) w→Q (.panic c) a w:=by exact fun _ _ _ h=>h)
  (hw:Region.wanted oi (yielded ops a.tmps)=true:=by rfl)
  (hy:∀w,S w→(execOp a.eval oi).run P w= .ok (.value v) w:=by intro w hSw;(try dsimp only at hSw);go_simp;(try with_reducible rfl))
  (hl:listed.setIfInBounds i true=l':=by(try simp only[aas,aaN,aaU]);rfl)
  (ha:a.put oi.dst v=a':=by(try simp only[Act.put,aas,aaN,aaU]);rfl)
  :wpAnyH P md ops Q S (fuel+1) listed a w:=
 wpAnyH_take hi hs hf hr hQ (Or.inl ⟨hw,hy⟩) hS (by rw[hl,ha];exact h)
theorem qh{P:Program}{ops:Array Oper}{Q:Exit→Act→World→Prop}{md:Region.Mode}{S:World→Prop}(i:Nat){o:Oper}{fuel:Nat}{listed:Array Bool}{a:Act}{w:World}
  (h:∀K':Act→World→Prop,Shut (∀a w,S w→(S w→wpAnyH P md ops Q S fuel (listed.setIfInBounds i true) a w)→K' a w)→if Region.wanted o (yielded ops a.tmps)=true then Oper.wp P o a w K' Q else K' (a.put o.dst undef) w)
  (ho:ops[i]? =some o:=by simp only[aaq,aav,aao];rfl)(hr:Region.ready md ops listed=[i]:=by kernel_rfl):wpAnyH P md ops Q S (fuel+1) listed a w:=
 wpAnyH_ready hr (by simp) (AllReadyH.cons ho h AllReadyH.nil)
theorem pW{P:Program}{ops:Array Oper}{Q:Exit→Act→World→Prop}{md:Region.Mode}{S:World→Prop}{i:Nat}{fuel:Nat}{listed l':Array Bool}{a a':Act}{w:World}{K:Act→World→Prop}
  (hK:Shut (∀a w,S w→(S w→wpAnyH P md ops Q S fuel (listed.setIfInBounds i true) a w)→K a w))(hS:S w)(h:S w→wpAnyH P md ops Q S fuel l' a' w)
  (hl:listed.setIfInBounds i true=l':=by(try simp only[aas,aaN,aaU]);rfl)
  (ha:a=a':=by(try simp only[Act.put,aas,aaN,aaU]);rfl):K a w:=by
 subst hl ha;exact hK a w hS h
theorem xW{P:Program}{ops:Array Oper}{Q:Exit→Act→World→Prop}{md:Region.Mode}{S:World→Prop}{fuel:Nat}{listed:Array Bool}{a:Act}{w:World}(h:Q .normal a w)(hr:Region.ready md ops listed=[]:=by kernel_rfl):wpAnyH P md ops (NoPanic Q) S fuel listed a w:=
 wpAnyH_done hr (NoPanic.normal h) _
theorem yG{P:Program}{ops:Array Oper}{Q:Exit→Act→World→Prop}(S:World→Prop){id:Nat}{a:Act}{w:World}(hS:S w.drew)
  (h:S w.drew→wpAnyH P .any ops (NoPanic Q) S ops.size (Array.replicate ops.size false) a w.drew)(hm:P.follows .mixedOrders=true:=by kernel_rfl):(Code.region id ops true).wp P Q a w:=
 wp_region_noPanic (wp_region_held_drew hm hS h)
end Go.Proofs.YtjnhnlabpccgjaaGreatDoor
