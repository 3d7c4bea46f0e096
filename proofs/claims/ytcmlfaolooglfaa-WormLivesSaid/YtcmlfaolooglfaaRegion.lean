/- A drawn region taken by hand: the condition S may be made stronger on the way. -/
import Derived.Test.YtcmlfaolooglfaaLib
import Derived.Deep.RegionHeld3
namespace Go.Proofs.Ytcmlfaolooglfaa
theorem wpAnyH_mono {P : Program} {md : Region.Mode} {ops : Array Oper} {Q : Exit → Act → World → Prop} {S S' : World → Prop} (h : ∀ w, S' w → S w) :
    ∀ (fuel : Nat) (listed : Array Bool) (a : Act) (w : World), wpAnyH P md ops Q S' fuel listed a w → wpAnyH P md ops Q S fuel listed a w
  | 0, _, _, _, hw => hw
  | fuel + 1, _, _, _, hw => ⟨hw.1, fun i hi => wpOp_mono (fun _ _ h' => ⟨h _ h'.1, wpAnyH_mono h fuel _ _ _ h'.2⟩) (hw.2 i hi)⟩
end Go.Proofs.Ytcmlfaolooglfaa
