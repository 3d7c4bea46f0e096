/-
  No cell of these rows narrows 'for every input' (looked for: loops, veiled, ifaces, maps, wideKeys, modest, calm, conditions, laid).
  DERIVED. THE GIVEN ROWS OF THIS SEAT. 6 by the template 'for every input the law returns true; each argument reads behind the call as it read before'; 0 by the template 'total and deterministic' (their statements: YtinnebeielldeaaTotals.lean).
  GIVEN WITH THE SEED: the statements are not yours to turn. If you find one false, say at which input.
  Laid BY PROGRAM, IN A SANDBOX (cutbox-rows.mjs): the forced cells as the released guide's own fill.sh prints them over the translation bca9b08f38cb819b… (all of the seat's roots in one cut). By AI agents, Wed Nov 11 2026. No macro, syntax, notation, axiom, sorry.
-/
import Derived.Test.YtinnebeielldeaaChecked
import GoSem.Claim
import GoSem.ClaimJoined
import GoSem.ClaimMapViews
import Derived.JoinedTies
import Derived.KernelRfl
namespace Go.Proofs.Ytinnebeielldeaa
/- THE CELL 'sum', in the pinned program and in every row, IS THE sha256 OF THE DUMP (.gsa) THAT YtinnebeielldeaaProg.lean LOADS. Nothing in Lean hashes anything: it is a label: what it is worth is what the hold of that sum in a sandbox is worth. -/
noncomputable def Try.pinned : Pinned := { name := "ytinnebeielldeaa", sum := "bca9b08f38cb819b20147acefcd1aea6acb57573056d3652e21703728d0ed781", checked := Try.checked }
namespace Rows
def none {H : Type} : Left H := { results := [], args := [] }

/-- 'permafrostlaw8.ClockRises': WHATEVER THE INPUT: true; the input reads as it did. -/
def clockRisesSpec : ChangeSpec := { name := "clockRises", fn := fun _ => fun
  | [d1, d2] => { results := [.lit (.bool true)], args := [d1, d2] }
  | _ => none }
def clockRisesRow : OpenClaim := { program := "ytinnebeielldeaa", sum := "bca9b08f38cb819b20147acefcd1aea6acb57573056d3652e21703728d0ed781", func := "permafrost/permafrostlaw8.ClockRises", spec := "clockRises", apart := false }
def ClockRisesSaid : Prop := clockRisesRow.holds Try.pinned (OpenSpec.ofChange clockRisesSpec)

/-- ITS FALSE NEIGHBOUR: 'it returns false'. Refute it at one input. -/
def clockRisesWrong : ChangeSpec := { name := "clockRises", fn := fun _ => fun
  | [d1, d2] => { results := [.lit (.bool false)], args := [d1, d2] }
  | _ => none }
def ClockRisesWrongFalsely : Prop := clockRisesRow.holds Try.pinned (OpenSpec.ofChange clockRisesWrong)

/-- 'permafrostlaw8.ClockNumbers': WHATEVER THE INPUT: true; the input reads as it did. -/
def clockNumbersSpec : ChangeSpec := { name := "clockNumbers", fn := fun _ => fun
  | [] => { results := [.lit (.bool true)], args := [] }
  | _ => none }
def clockNumbersRow : OpenClaim := { program := "ytinnebeielldeaa", sum := "bca9b08f38cb819b20147acefcd1aea6acb57573056d3652e21703728d0ed781", func := "permafrost/permafrostlaw8.ClockNumbers", spec := "clockNumbers", apart := false }
def ClockNumbersSaid : Prop := clockNumbersRow.holds Try.pinned (OpenSpec.ofChange clockNumbersSpec)

/-- ITS FALSE NEIGHBOUR: 'it returns false'. Refute it at one input. -/
def clockNumbersWrong : ChangeSpec := { name := "clockNumbers", fn := fun _ => fun
  | [] => { results := [.lit (.bool false)], args := [] }
  | _ => none }
def ClockNumbersWrongFalsely : Prop := clockNumbersRow.holds Try.pinned (OpenSpec.ofChange clockNumbersWrong)

/-- 'permafrostlaw8.ClockTells': WHATEVER THE INPUT: true; the input reads as it did. -/
def clockTellsSpec : ChangeSpec := { name := "clockTells", fn := fun _ => fun
  | [d1, d2] => { results := [.lit (.bool true)], args := [d1, d2] }
  | _ => none }
def clockTellsRow : OpenClaim := { program := "ytinnebeielldeaa", sum := "bca9b08f38cb819b20147acefcd1aea6acb57573056d3652e21703728d0ed781", func := "permafrost/permafrostlaw8.ClockTells", spec := "clockTells", apart := false }
def ClockTellsSaid : Prop := clockTellsRow.holds Try.pinned (OpenSpec.ofChange clockTellsSpec)

/-- ITS FALSE NEIGHBOUR: 'it returns false'. Refute it at one input. -/
def clockTellsWrong : ChangeSpec := { name := "clockTells", fn := fun _ => fun
  | [d1, d2] => { results := [.lit (.bool false)], args := [d1, d2] }
  | _ => none }
def ClockTellsWrongFalsely : Prop := clockTellsRow.holds Try.pinned (OpenSpec.ofChange clockTellsWrong)

/-- 'permafrostlaw8.ClockLonger': WHATEVER THE INPUT: true; the input reads as it did. -/
def clockLongerSpec : ChangeSpec := { name := "clockLonger", fn := fun _ => fun
  | [d1, d2, d3, d4] => { results := [.lit (.bool true)], args := [d1, d2, d3, d4] }
  | _ => none }
def clockLongerRow : OpenClaim := { program := "ytinnebeielldeaa", sum := "bca9b08f38cb819b20147acefcd1aea6acb57573056d3652e21703728d0ed781", func := "permafrost/permafrostlaw8.ClockLonger", spec := "clockLonger", apart := false }
def ClockLongerSaid : Prop := clockLongerRow.holds Try.pinned (OpenSpec.ofChange clockLongerSpec)

/-- ITS FALSE NEIGHBOUR: 'it returns false'. Refute it at one input. -/
def clockLongerWrong : ChangeSpec := { name := "clockLonger", fn := fun _ => fun
  | [d1, d2, d3, d4] => { results := [.lit (.bool false)], args := [d1, d2, d3, d4] }
  | _ => none }
def ClockLongerWrongFalsely : Prop := clockLongerRow.holds Try.pinned (OpenSpec.ofChange clockLongerWrong)

/-- 'permafrostlaw12.WormLater': WHATEVER THE INPUT: true; the input reads as it did. -/
def wormLaterSpec : ChangeSpec := { name := "wormLater", fn := fun _ => fun
  | [d1, d2, d3, d4] => { results := [.lit (.bool true)], args := [d1, d2, d3, d4] }
  | _ => none }
def wormLaterRow : OpenClaim := { program := "ytinnebeielldeaa", sum := "bca9b08f38cb819b20147acefcd1aea6acb57573056d3652e21703728d0ed781", func := "permafrost/permafrostlaw12.WormLater", spec := "wormLater", apart := false }
def WormLaterSaid : Prop := wormLaterRow.holds Try.pinned (OpenSpec.ofChange wormLaterSpec)

/-- ITS FALSE NEIGHBOUR: 'it returns false'. Refute it at one input. -/
def wormLaterWrong : ChangeSpec := { name := "wormLater", fn := fun _ => fun
  | [d1, d2, d3, d4] => { results := [.lit (.bool false)], args := [d1, d2, d3, d4] }
  | _ => none }
def WormLaterWrongFalsely : Prop := wormLaterRow.holds Try.pinned (OpenSpec.ofChange wormLaterWrong)

/-- 'permafrostlaw12.WormTells': WHATEVER THE INPUT: true; the input reads as it did. -/
def wormTellsSpec : ChangeSpec := { name := "wormTells", fn := fun _ => fun
  | [d1, d2, d3] => { results := [.lit (.bool true)], args := [d1, d2, d3] }
  | _ => none }
def wormTellsRow : OpenClaim := { program := "ytinnebeielldeaa", sum := "bca9b08f38cb819b20147acefcd1aea6acb57573056d3652e21703728d0ed781", func := "permafrost/permafrostlaw12.WormTells", spec := "wormTells", apart := false }
def WormTellsSaid : Prop := wormTellsRow.holds Try.pinned (OpenSpec.ofChange wormTellsSpec)

/-- ITS FALSE NEIGHBOUR: 'it returns false'. Refute it at one input. -/
def wormTellsWrong : ChangeSpec := { name := "wormTells", fn := fun _ => fun
  | [d1, d2, d3] => { results := [.lit (.bool false)], args := [d1, d2, d3] }
  | _ => none }
def WormTellsWrongFalsely : Prop := wormTellsRow.holds Try.pinned (OpenSpec.ofChange wormTellsWrong)

/- THE SECOND FORM. 'bulk': how many values and letters a reading holds, each counted each time it is reached (what is shared counts as often as it is met; a slice's spare places count too). A statement '..UptoSaid' is the law's where the arguments, and the package variables that the reading takes, are together of bulk at most 1048576: NARROWER than '..Said'. Prove '..Said' where nothing that the law and all that it calls make is longer than what came in: it says more and counts as full. Else prove '..UptoSaid'. A law counts once. -/
mutual
def uptoBulk {H : Type} : DataW H → Nat
  | .lit (.string bytes) => bytes.length + 1
  | .lit _ => 1
  | .nil => 1
  | .ptr d => uptoBulk d + 1
  | .slice elems spare => uptoBulkAll elems + uptoBulkAll spare + 1
  | .agg parts => uptoBulkAll parts + 1
  | .iface _ d => uptoBulk d + 1
  | .map entries => uptoBulkEntries entries + 1
  | .held _ => 1
def uptoBulkAll {H : Type} : List (DataW H) → Nat
  | [] => 0
  | d :: r => uptoBulk d + uptoBulkAll r
def uptoBulkEntries {H : Type} : List (Lit × DataW H) → Nat
  | [] => 0
  | x :: r => uptoBulkEntry x + uptoBulkEntries r
def uptoBulkEntry {H : Type} : Lit × DataW H → Nat
  | (.string bytes, d) => bytes.length + uptoBulk d + 1
  | (_, d) => uptoBulk d + 1
 end
def uptoSmall : (H : Type) → List (DataW H) → Bool := fun _ ds => decide (uptoBulkAll ds ≤ 1048576)
def OpenSpec.upto (s : _root_.Go.ChangeSpec) : _root_.Go.OpenSpec := { _root_.Go.OpenSpec.ofChange s with cond := some uptoSmall }

/-- 'permafrostlaw8.ClockRises', WHERE WHAT IT READS IS OF BULK AT MOST 1048576: true; the input reads as it did. -/
def clockRisesUptoRow : OpenClaim := { program := "ytinnebeielldeaa", sum := "bca9b08f38cb819b20147acefcd1aea6acb57573056d3652e21703728d0ed781", func := "permafrost/permafrostlaw8.ClockRises", spec := "clockRises", apart := false, narrowed := true }
def ClockRisesUptoSaid : Prop := clockRisesUptoRow.holds Try.pinned (OpenSpec.upto clockRisesSpec)

/-- 'permafrostlaw8.ClockNumbers', WHERE WHAT IT READS IS OF BULK AT MOST 1048576: true; the input reads as it did. -/
def clockNumbersUptoRow : OpenClaim := { program := "ytinnebeielldeaa", sum := "bca9b08f38cb819b20147acefcd1aea6acb57573056d3652e21703728d0ed781", func := "permafrost/permafrostlaw8.ClockNumbers", spec := "clockNumbers", apart := false, narrowed := true }
def ClockNumbersUptoSaid : Prop := clockNumbersUptoRow.holds Try.pinned (OpenSpec.upto clockNumbersSpec)

/-- 'permafrostlaw8.ClockTells', WHERE WHAT IT READS IS OF BULK AT MOST 1048576: true; the input reads as it did. -/
def clockTellsUptoRow : OpenClaim := { program := "ytinnebeielldeaa", sum := "bca9b08f38cb819b20147acefcd1aea6acb57573056d3652e21703728d0ed781", func := "permafrost/permafrostlaw8.ClockTells", spec := "clockTells", apart := false, narrowed := true }
def ClockTellsUptoSaid : Prop := clockTellsUptoRow.holds Try.pinned (OpenSpec.upto clockTellsSpec)

/-- 'permafrostlaw8.ClockLonger', WHERE WHAT IT READS IS OF BULK AT MOST 1048576: true; the input reads as it did. -/
def clockLongerUptoRow : OpenClaim := { program := "ytinnebeielldeaa", sum := "bca9b08f38cb819b20147acefcd1aea6acb57573056d3652e21703728d0ed781", func := "permafrost/permafrostlaw8.ClockLonger", spec := "clockLonger", apart := false, narrowed := true }
def ClockLongerUptoSaid : Prop := clockLongerUptoRow.holds Try.pinned (OpenSpec.upto clockLongerSpec)

/-- 'permafrostlaw12.WormLater', WHERE WHAT IT READS IS OF BULK AT MOST 1048576: true; the input reads as it did. -/
def wormLaterUptoRow : OpenClaim := { program := "ytinnebeielldeaa", sum := "bca9b08f38cb819b20147acefcd1aea6acb57573056d3652e21703728d0ed781", func := "permafrost/permafrostlaw12.WormLater", spec := "wormLater", apart := false, narrowed := true }
def WormLaterUptoSaid : Prop := wormLaterUptoRow.holds Try.pinned (OpenSpec.upto wormLaterSpec)

/-- 'permafrostlaw12.WormTells', WHERE WHAT IT READS IS OF BULK AT MOST 1048576: true; the input reads as it did. -/
def wormTellsUptoRow : OpenClaim := { program := "ytinnebeielldeaa", sum := "bca9b08f38cb819b20147acefcd1aea6acb57573056d3652e21703728d0ed781", func := "permafrost/permafrostlaw12.WormTells", spec := "wormTells", apart := false, narrowed := true }
def WormTellsUptoSaid : Prop := wormTellsUptoRow.holds Try.pinned (OpenSpec.upto wormTellsSpec)

end Rows
end Go.Proofs.Ytinnebeielldeaa
