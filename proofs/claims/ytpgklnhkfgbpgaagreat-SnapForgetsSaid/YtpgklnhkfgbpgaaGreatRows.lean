/-
  No cell of these rows narrows 'for every input' (looked for: loops, veiled, ifaces, maps, wideKeys, modest, calm, conditions, laid).
  DERIVED. THE GIVEN ROWS OF THIS SEAT. 3 by the template 'for every input the law returns true; each argument reads behind the call as it read before'; 0 by the template 'total and deterministic' (their statements: YtpgklnhkfgbpgaaGreatTotals.lean).
  GIVEN WITH THE SEED: the statements are not yours to turn. If you find one false, say at which input.
  Laid BY PROGRAM, IN A SANDBOX (cutbox-rows.mjs): the forced cells as the released guide's own fill.sh prints them over the translation 87640e5fc70869f1… (all of the seat's roots in one cut). By AI agents, Wed Nov 11 2026. No macro, syntax, notation, axiom, sorry.
-/
import Derived.Test.YtpgklnhkfgbpgaaGreatChecked
import GoSem.Claim
import GoSem.ClaimJoined
import GoSem.ClaimMapViews
import Derived.JoinedTies
import Derived.KernelRfl
namespace Go.Proofs.YtpgklnhkfgbpgaaGreat
/- THE CELL 'sum', in the pinned program and in every row, IS THE sha256 OF THE DUMP (.gsa) THAT YtpgklnhkfgbpgaaGreatProg.lean LOADS. Nothing in Lean hashes anything: it is a label: what it is worth is what the hold of that sum in a sandbox is worth. -/
noncomputable def Tryz.pinned : Pinned := { name := "ytpgklnhkfgbpgaagreat", sum := "87640e5fc70869f1f5a25c18b7ca0df6651494ce659c774757b27d3105b09f04", checked := Tryz.checked }
namespace Rows
def none {H : Type} : Left H := { results := [], args := [] }

/-- 'permafrostlaw13.SnapIds': WHATEVER THE INPUT: true; the input reads as it did. -/
def snapIdsSpec : ChangeSpec := { name := "snapIds", fn := fun _ => fun
  | [d] => { results := [.lit (.bool true)], args := [d] }
  | _ => none }
def snapIdsRow : OpenClaim := { program := "ytpgklnhkfgbpgaagreat", sum := "87640e5fc70869f1f5a25c18b7ca0df6651494ce659c774757b27d3105b09f04", func := "permafrost/permafrostlaw13.SnapIds", spec := "snapIds", inPlace := ["maps.clone"], unfollowed := true, recurses := true, apart := false }
def SnapIdsSaid : Prop := snapIdsRow.holds Tryz.pinned (OpenSpec.ofChange snapIdsSpec)

/-- ITS FALSE NEIGHBOUR: 'it returns false'. Refute it at one input. -/
def snapIdsWrong : ChangeSpec := { name := "snapIds", fn := fun _ => fun
  | [d] => { results := [.lit (.bool false)], args := [d] }
  | _ => none }
def SnapIdsWrongFalsely : Prop := snapIdsRow.holds Tryz.pinned (OpenSpec.ofChange snapIdsWrong)

/-- 'permafrostlaw13.SnapForgets': WHATEVER THE INPUT: true; the input reads as it did. -/
def snapForgetsSpec : ChangeSpec := { name := "snapForgets", fn := fun _ => fun
  | [d1, d2] => { results := [.lit (.bool true)], args := [d1, d2] }
  | _ => none }
def snapForgetsRow : OpenClaim := { program := "ytpgklnhkfgbpgaagreat", sum := "87640e5fc70869f1f5a25c18b7ca0df6651494ce659c774757b27d3105b09f04", func := "permafrost/permafrostlaw13.SnapForgets", spec := "snapForgets", inPlace := ["maps.clone"], unfollowed := true, recurses := true, apart := false }
def SnapForgetsSaid : Prop := snapForgetsRow.holds Tryz.pinned (OpenSpec.ofChange snapForgetsSpec)

/-- ITS FALSE NEIGHBOUR: 'it returns false'. Refute it at one input. -/
def snapForgetsWrong : ChangeSpec := { name := "snapForgets", fn := fun _ => fun
  | [d1, d2] => { results := [.lit (.bool false)], args := [d1, d2] }
  | _ => none }
def SnapForgetsWrongFalsely : Prop := snapForgetsRow.holds Tryz.pinned (OpenSpec.ofChange snapForgetsWrong)

/-- 'permafrostlaw13.SnapChain': WHATEVER THE INPUT: true; the input reads as it did. -/
def snapChainSpec : ChangeSpec := { name := "snapChain", fn := fun _ => fun
  | [d] => { results := [.lit (.bool true)], args := [d] }
  | _ => none }
def snapChainRow : OpenClaim := { program := "ytpgklnhkfgbpgaagreat", sum := "87640e5fc70869f1f5a25c18b7ca0df6651494ce659c774757b27d3105b09f04", func := "permafrost/permafrostlaw13.SnapChain", spec := "snapChain", inPlace := ["maps.clone"], unfollowed := true, recurses := true, apart := false }
def SnapChainSaid : Prop := snapChainRow.holds Tryz.pinned (OpenSpec.ofChange snapChainSpec)

/-- ITS FALSE NEIGHBOUR: 'it returns false'. Refute it at one input. -/
def snapChainWrong : ChangeSpec := { name := "snapChain", fn := fun _ => fun
  | [d] => { results := [.lit (.bool false)], args := [d] }
  | _ => none }
def SnapChainWrongFalsely : Prop := snapChainRow.holds Tryz.pinned (OpenSpec.ofChange snapChainWrong)

/- THE SECOND FORM. 'bulk': how many values and letters a reading holds, each counted each time it is reached (what is shared counts as often as it is met; a slice's spare places count too). A statement '..UptoSaid' is the law's where the arguments, and the package variables that the reading takes, are together of bulk at most 1048576: NARROWER than '..Said'. Prove '..Said' where nothing that the law and all that it calls make is longer than what came in: it says more and counts as full. Else prove '..UptoSaid'. A law counts once. -/
mutual
def uptoBulk {H : Type} : DataW H → Nat
  | .lit (.string bytes) => bytes.length + 1
  | .lit _ => 1
  | .nil => 1
  | .ptr d => uptoBulk d + 1
  | .slice elems spare => uptoBulkAll elems + uptoBulkAll spare + 1
  | .agg parts => uptoBulkAll parts + 1
  | .iface _ d => uptoBulk d + 1
  | .map entries => uptoBulkEntries entries + 1
  | .held _ => 1
def uptoBulkAll {H : Type} : List (DataW H) → Nat
  | [] => 0
  | d :: r => uptoBulk d + uptoBulkAll r
def uptoBulkEntries {H : Type} : List (Lit × DataW H) → Nat
  | [] => 0
  | x :: r => uptoBulkEntry x + uptoBulkEntries r
def uptoBulkEntry {H : Type} : Lit × DataW H → Nat
  | (.string bytes, d) => bytes.length + uptoBulk d + 1
  | (_, d) => uptoBulk d + 1
 end
def uptoSmall : (H : Type) → List (DataW H) → Bool := fun _ ds => decide (uptoBulkAll ds ≤ 1048576)
def OpenSpec.upto (s : _root_.Go.ChangeSpec) : _root_.Go.OpenSpec := { _root_.Go.OpenSpec.ofChange s with cond := some uptoSmall }

/-- 'permafrostlaw13.SnapIds', WHERE WHAT IT READS IS OF BULK AT MOST 1048576: true; the input reads as it did. -/
def snapIdsUptoRow : OpenClaim := { program := "ytpgklnhkfgbpgaagreat", sum := "87640e5fc70869f1f5a25c18b7ca0df6651494ce659c774757b27d3105b09f04", func := "permafrost/permafrostlaw13.SnapIds", spec := "snapIds", inPlace := ["maps.clone"], unfollowed := true, recurses := true, apart := false, narrowed := true }
def SnapIdsUptoSaid : Prop := snapIdsUptoRow.holds Tryz.pinned (OpenSpec.upto snapIdsSpec)

/-- 'permafrostlaw13.SnapForgets', WHERE WHAT IT READS IS OF BULK AT MOST 1048576: true; the input reads as it did. -/
def snapForgetsUptoRow : OpenClaim := { program := "ytpgklnhkfgbpgaagreat", sum := "87640e5fc70869f1f5a25c18b7ca0df6651494ce659c774757b27d3105b09f04", func := "permafrost/permafrostlaw13.SnapForgets", spec := "snapForgets", inPlace := ["maps.clone"], unfollowed := true, recurses := true, apart := false, narrowed := true }
def SnapForgetsUptoSaid : Prop := snapForgetsUptoRow.holds Tryz.pinned (OpenSpec.upto snapForgetsSpec)

/-- 'permafrostlaw13.SnapChain', WHERE WHAT IT READS IS OF BULK AT MOST 1048576: true; the input reads as it did. -/
def snapChainUptoRow : OpenClaim := { program := "ytpgklnhkfgbpgaagreat", sum := "87640e5fc70869f1f5a25c18b7ca0df6651494ce659c774757b27d3105b09f04", func := "permafrost/permafrostlaw13.SnapChain", spec := "snapChain", inPlace := ["maps.clone"], unfollowed := true, recurses := true, apart := false, narrowed := true }
def SnapChainUptoSaid : Prop := snapChainUptoRow.holds Tryz.pinned (OpenSpec.upto snapChainSpec)

end Rows
end Go.Proofs.YtpgklnhkfgbpgaaGreat
