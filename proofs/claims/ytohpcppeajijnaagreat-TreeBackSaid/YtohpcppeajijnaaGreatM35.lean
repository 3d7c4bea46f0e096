/- tree: Copy. A row of one's own, kept. -/
import Derived.Test.YtohpcppeajijnaaGreatM33
import Derived.Test.YtohpcppeajijnaaGreatM15
import Derived.Test.YtohpcppeajijnaaGreatM34
import Derived.Test.YtohpcppeajijnaaGreatM20
import Derived.Shelf.SlMaps.Clone
import Derived.WalkLawsBesides
import Derived.Test.YtohpcppeajijnaaGreatM11
namespace Go.Proofs.YtohpcppeajijnaaGreat
open Go.ChangeShapes Go.WideShapes Go.ChangeAt Go.RowKit
set_option linter.unusedVariables false
set_option linter.unusedSimpArgs false
section
variable {g:Nat→Own} {D:Nat→Prop} {p mb:Nat} {ib nb:Int→Nat} {T:aF}
end
theorem xk {w w':World} {B:Nat} {e:TypeId} {size:Nat} {v:Value} {n:Nat} {xs:List Value} (h:w.ownsRow B e size v n xs) (hk:∀b,v.ownBlock=some b→b<w.heap.size→w'.heap[b]? =w.heap[b]?):w'.ownsRow B e size v n xs:=by
 refine⟨h.1,?_⟩
 rcases h.2 with h1|⟨g,cap,cur,rfl,hg,hcur,rest⟩
 ·exact .inl h1
 ·exact .inr ⟨g,cap,cur,rfl,hg,(hk g rfl (Array.getElem?_eq_some_iff.1 hcur).1).trans hcur,rest⟩
theorem xq {w:World} {B:Nat} {e:TypeId} {size:Nat} {v:Value} {n:Nat} {xs:List Value} (h:w.ownsRow B e size v n xs):∀b,v.ownBlock=some b→b<w.heap.size:=by
 intro b hb
 rcases h.2 with⟨rfl,_⟩|⟨g,cap,cur,rfl,hg,hcur,rest⟩
 ·cases hb
 ·cases hb
  exact(Array.getElem?_eq_some_iff.1 hcur).1
end Go.Proofs.YtohpcppeajijnaaGreat
