/- permafrostbook.Same at texts. permafrostkeep.Cut. permafrostlaw11.do. Arguments opened: lists of permafrostlaw11.Ask. The reference's tree of law 11 under a mark: its own block bears it, what it names bears none. -/
import Derived.Test.YtohpcppeajijnaaGreatM26
import Derived.BigQuiet
import Derived.Deep.QuietTactic
import Derived.Test.YtohpcppeajijnaaGreatM01
import Derived.Test.YtohpcppeajijnaaGreatM35
import Derived.Test.YtohpcppeajijnaaGreatM20
import Derived.Test.YtohpcppeajijnaaGreatM28
namespace Go.Proofs.YtohpcppeajijnaaGreat
open Go.ChangeShapes Go.WideShapes Go.ChangeAt Go.RowKit
set_option linter.unusedVariables false
theorem Nc (a:Option Addr) (len cap n:Nat) (hl:len≤cap) (hn:n≤1048576) (hm:len≤maxLen) (w:World):
  Calls Tryz.prog 54 #[.slice a len cap, .int .i64 n] w fun e w'=>e= .returned (.slice a (min len n) cap)∧w=w':=by
 unfold maxLen at hm
 by_cases h:n<len
 ·have e1:n≤cap:=by omega
  go_enter Tryz.func54,Tryz.ntmps54
  go_wp2
  go_ret
  rw[show min len n=n by omega]
  exact⟨rfl,rfl⟩
 ·go_enter Tryz.func54,Tryz.ntmps54
  go_wp2
  go_ret
  rw[show min len n=len by omega]
  exact⟨rfl,rfl⟩
set_option linter.unusedSimpArgs false
def TU (W:World) (Q:Nat→Prop) (w:World) (t r:Nat) (wx:World):Prop:=
 ∃T',OC W Q wx t r T'∧(∀b,Q b→wx.heap[b]? =w.heap[b]?)∧w.heap.size≤wx.heap.size∧Below W.heap.size W wx
theorem oF.behind {W w0 w w1:World} {P:Nat→Prop} {t:Nat} {T:aI} {v:Value} {e:Ending} (h:oF W P w t T v e w1) (hb:Below w0.heap.size w0 w):oF W P w0 t T v e w1:=
 ⟨h.1,h.2.1,(Keeps.mono (Keeps.below hb) (fun x hx hf=>by omega)).trans h.2.2 fun x _ hx=>hx⟩
theorem TU.of {W w w1 w2:World} {Q P F:Nat→Prop} {t r:Nat} {T T':aI} {v1 v2:Value} {e1 e2:Ending} (h:qj W Q P F w t r T) (h1:oF W P w t T' v1 e1 w1) (h2:dJ F w1 r T' v2 e2 w2) (hO:Yf T'):TU W Q w t r w2:=⟨T',h.step h1 h2 hO⟩
open Go.Joins Go.ChangeShapes Go.WideShapes Go.ChangeAt Go.RowKit Go.Deep
theorem yJ {z:Int} (h:(Lit.int .u64 z).wf=true):0≤z∧z≤18446744073709551615:=by
 simp[Lit.wf,IntKind.min,IntKind.max,IntKind.signed,IntKind.bits]at h
 omega
section
variable {H:Type} {enc:TypeId×Value→H} {W:World}
end
def Qh (w:World) (e:Ending) (w':World):Prop:=∃r,e= .returned (ptr r)∧jr (fun x=>w.heap.size≤x∧x<w'.heap.size) w' r kr∧Below w.heap.size w w'
theorem Gh (w:World) (o1 o2 o3:Obj):(((w.alloc o1).alloc o2).alloc o3).heap[w.heap.size]? =some o1∧(((w.alloc o1).alloc o2).alloc o3).heap[w.heap.size+1]? =some o2∧(((w.alloc o1).alloc o2).alloc o3).heap[w.heap.size+2]? =some o3:=by
 have h:=kP [o1,o2,o3] w
 exact⟨h 0 o1 rfl,h 1 o2 rfl,h 2 o3 rfl⟩
theorem Kr (w:World):Calls Tryz.prog 11 #[] w (Qh w):=by
 go_enter Tryz.func11,Tryz.ntmps11
 go_wp2
 go_ret
 obtain⟨h0,h1,h2⟩:=Gh w (.cells #[.int .i64 0, .int .i64 2, .int .i64 1, .int .i64 0, .int .u64 0, .bool true] 98) (.cells #[.slice none 0 0] 39) (.cells #[.slice (some ⟨w.heap.size,0,none⟩) 1 1, .slice (some ⟨w.heap.size+1,0,none⟩) 1 1, .slice none 0 0] 102)
 refine⟨w.heap.size+2,rfl,⟨⟨some ⟨w.heap.size,0,none⟩,1,some ⟨w.heap.size+1,0,none⟩,1,none,0,h2,Nat.le_refl _,Nat.le_refl _,Nat.le_refl _,?_,⟨[.slice none 0 0],?_,?_⟩,ak.nil _ _ _, .inl ⟨rfl,rfl⟩⟩,?_,?_⟩,?_⟩
 ·exact(gJ (vs:=bA (0,aX 2)) h0 (by simp[bA,maxLen])).mono fun b hb=>by subst hb;exact⟨⟨Nat.le_refl _,by simp;omega⟩,by omega⟩
 ·exact(gJ (vs:=[.slice none 0 0]) h1 (by simp[maxLen])).mono fun b hb=>by subst hb;exact⟨⟨by omega,by simp⟩,by omega⟩
 ·intro i b hb
  cases i with
  |zero=>
   have:b=[]:=(Option.some.inj hb).symm
   subst this
   exact⟨none,0,rfl,⟨Nat.le_refl _,by simp[maxLen]⟩,ak.nil _ _ _⟩
  |succ i=>simp[kr]at hb
 ·exact⟨by omega,by simp⟩
 ·exact fun b hb=>hb.2
 ·exact(((Below.refl _ _).alloc (Nat.le_refl _) _).alloc (by simp) _).alloc (by simp;omega) _
def gM (o:Mark) (j:Nat) (w:World) (r:Nat) (T:aI):Prop:=∃F,jr F w r T∧o r=j∧∀b,F b→b≠r→o b=0
theorem gM.step {o o':Mark} {I:Nat→Prop} {j:Nat} {w w':World} {r:Nat} {T:aI} (h:gM o j w r T) (hi:¬I 0) (hij:¬I j) (hs:Step o I w o' w'):gM o' j w' r T:=by
 obtain⟨F,hR,hr,hF⟩:=h
 refine⟨F,hR.keeps hs.keep fun b hb hI=> ?_,(hs.old r (hR.low r hR.own)).trans hr,fun b hb hbr=>(hs.old b (hR.low b hb)).trans (hF b hb hbr)⟩
 by_cases hbr:b=r
 ·subst hbr
  exact hij (hr▸hI)
 ·exact hi (hF b hb hbr▸hI)
theorem gM.grow {o:Mark} {j:Nat} {w w':World} {r:Nat} {T:aI} (h:gM o j w r T) (hb:Below w.heap.size w w'):gM o j w' r T:=by
 obtain⟨F,hR,hr,hF⟩:=h
 exact⟨F,hR.below hb (Nat.le_refl _),hr,hF⟩
def RO (o:Mark) (j:Nat) (w:World) (r:Nat) (T':aI) (v:Value) (e:Ending) (w':World):Prop:=
 e= .returned v∧∃o',Step o (fun k=>k=j) w o' w'∧gM o' j w' r T'
theorem RO.of {W w w':World} {o:Mark} {j r:Nat} {T':aI} {F:Nat→Prop} {v:Value} {e:Ending} (hM:Marks W o w) (hrF:F r) (hr:o r=j) (hF:∀b,F b→b≠r→o b=0) (h:dJ F w r T' v e w'):RO o j w r T' v e w':=by
 refine⟨h.1,o,⟨fun _ _=>rfl,fun b hb hn=> ?_,h.2.1.mono fun x _ hx=> ?_⟩,_,h.2.2,hr,fun b hb hbr=> ?_⟩
 ·have:=(hM.new b hn).2
  omega
 ·show o x=j
  rw[hx];exact hr
 ·rcases hb with hb|hb
  ·exact hF b hb hbr
  ·exact Decidable.byContradiction fun h0=>by have:=(hM.new b h0).2;omega
section
variable {W w:World} {o:Mark} {j r:Nat} {T:aI}
theorem Nf {S:Nat→Prop} (h:gM o j w r T) (hM:Marks W o w) (hT:dR T) (a:Option Addr) (n0 c0:Nat) (ls:List Nm) (kind:Int) (hS:aW S w a n0 (ls.map strOf)) (hc:n0≤c0) (pE:n0≤1000000):
  Calls Tryz.prog 13 #[ptr r, .slice a n0 c0, .int .i64 kind] w (RO o j w r (dw T ls kind).2 (.tuple #[.int .i64 (dw T ls kind).1.1, .int .i64 (dw T ls kind).1.2])):=by
 obtain⟨F,hR,hr,hF⟩:=h
 exact(Gc a n0 c0 ls kind w hR hT hS hc pE).mono fun e w' ht=>RO.of hM hR.own hr hF ht
theorem Gi {S:Nat→Prop} (h:gM o j w r T) (hM:Marks W o w) (hT:dR T) (a:Option Addr) (n c:Nat) (ls:List Nm) (hS:aW S w a n (ls.map strOf)) (hc:n≤c) (pE:n≤1000000):
  Calls Tryz.prog 19 #[ptr r, .slice a n c] w (RO o j w r (bg T ls).2 (.int .i64 (bg T ls).1)):=by
 obtain⟨F,hR,hr,hF⟩:=h
 exact(Bj a n c ls w hR hT hS hc pE).mono fun e w' ht=>RO.of hM hR.own hr hF ht
theorem Gj {S:Nat→Prop} (h:gM o j w r T) (hM:Marks W o w) (hj:j≠0) (hT:dR T) (id:Int) (ab:Option Addr) (nb cb:Nat) (bs:List UInt8) (hbs:ak S w ab nb (bs.map bv)) (hSr:∀b,S b→o b=0) (hnb:nb≤1000000):
  Calls Tryz.prog 22 #[ptr r, .int .i64 id, .slice ab nb cb] w (RO o j w r (bI T id bs).2 (.int .i64 (bI T id bs).1)):=by
 obtain⟨F,hR,hr,hF⟩:=h
 exact(Bl id ab nb cb bs w hR hT hbs (fun b hb e=>by have:=hSr b hb;rw[e,hr]at this;exact hj this) hnb).mono fun e w' ht=>RO.of hM hR.own hr hF ht
theorem Ng (h:gM o j w r T) (hM:Marks W o w) (hT:dR T) (id aS:Int) (ht0:0≤aS∧aS≤18446744073709551615):
  Calls Tryz.prog 24 #[ptr r, .int .i64 id, .int .u64 aS] w (RO o j w r (dZ T id aS).2 (.int .i64 (dZ T id aS).1)):=by
 obtain⟨F,hR,hr,hF⟩:=h
 exact(F7 id aS w hR hT ht0).mono fun e w' ht=>RO.of hM hR.own hr hF ht
theorem Nh (h:gM o j w r T) (hM:Marks W o w) (hT:dR T) (id:Int):
  Calls Tryz.prog 30 #[ptr r, .int .i64 id] w (RO o j w r (eu T id).2 (.int .i64 (eu T id).1)):=by
 obtain⟨F,hR,hr,hF⟩:=h
 exact(Gb id w hR hT).mono fun e w' ht=>RO.of hM hR.own hr hF ht
theorem Kt (hM:Marks W o w) (j:Nat):Calls Tryz.prog 11 #[] w fun e w'=>∃r o',e= .returned (ptr r)∧Step o (fun k=>k=j) w o' w'∧gM o' j w' r kr:=by
 refine(Kr w).mono fun e w' ⟨r,he,hR,hb⟩=> ?_
 obtain⟨o',hs,h1,h2⟩:=jW hM j (fun b=>b=r) (fun b hb'=>by subst hb';exact hR.own) hb
 refine⟨r,o',he,hs,_,hR,h1 r rfl,fun b hb' hbr=> ?_⟩
 rw[h2 b hbr]
 exact Decidable.byContradiction fun h0=>by have:=(hM.new b h0).2;omega
end
end Go.Proofs.YtohpcppeajijnaaGreat
