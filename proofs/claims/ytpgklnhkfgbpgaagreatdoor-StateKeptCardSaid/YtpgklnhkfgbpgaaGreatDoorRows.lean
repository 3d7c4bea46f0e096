/-
  NARROWER THAN 'FOR EVERY INPUT', by the rows' own cells (each row's printed sentence says how): StateReads: laid · StateRenames: laid · StateSnaps: laid · StateClock: laid · StateOpens: laid · StateOpenFiles: laid · StateTwins: laid · StateRefused: laid · StateKept: laid.
  DERIVED. THE GIVEN ROWS OF THIS SEAT. 9 by the template 'for every input the law returns true; each argument reads behind the call as it read before'; 0 by the template 'total and deterministic' (their statements: YtpgklnhkfgbpgaaGreatDoorTotals.lean).
  GIVEN WITH THE SEED: the statements are not yours to turn. If you find one false, say at which input.
  Laid BY PROGRAM, IN A SANDBOX (cutbox-rows.mjs): the forced cells as the released guide's own fill.sh prints them over the translation 6db030f064036978… (all of the seat's roots in one cut). By AI agents, Wed Nov 11 2026. No macro, syntax, notation, axiom, sorry.
-/
import Derived.Test.YtpgklnhkfgbpgaaGreatDoorChecked
import GoSem.PinnedTables
import GoSem.Claim
import GoSem.ClaimJoined
import GoSem.ClaimMapViews
import Derived.JoinedTies
import Derived.KernelRfl
namespace Go.Proofs.YtpgklnhkfgbpgaaGreatDoor
/- THE CELL 'sum', in the pinned program and in every row, IS THE sha256 OF THE DUMP (.gsa) THAT YtpgklnhkfgbpgaaGreatDoorProg.lean LOADS. Nothing in Lean hashes anything: it is a label: what it is worth is what the hold of that sum in a sandbox is worth. -/
noncomputable def Tryz.pinned : Pinned := { name := "ytpgklnhkfgbpgaagreatdoor", sum := "6db030f064036978d8d68cb56bbf28769be730ebb1896023d684ba634e2da4a0", checked := Tryz.checked }
namespace Rows
def none {H : Type} : Left H := { results := [], args := [] }

/- WHAT THE LISTED PACKAGE-LEVEL VARIABLES READ AS WHEN THE CALL BEGINS. Each datum BY PROGRAM (the guide's laid-datum.mjs) off the statement by which the dump's own 'gosem.cut.vars' lays the variable. In a bare row this is a premise. The card (YtpgklnhkfgbpgaaGreatDoorCards.lean) ties it to the program's text. -/
def laid_unicode_utf8_acceptRanges {H : Type} : DataW H := .agg [.agg [.lit (.int .u8 128), .lit (.int .u8 191)], .agg [.lit (.int .u8 160), .lit (.int .u8 191)], .agg [.lit (.int .u8 128), .lit (.int .u8 159)], .agg [.lit (.int .u8 144), .lit (.int .u8 191)], .agg [.lit (.int .u8 128), .lit (.int .u8 143)], .agg [.lit (.int .u8 0), .lit (.int .u8 0)], .agg [.lit (.int .u8 0), .lit (.int .u8 0)], .agg [.lit (.int .u8 0), .lit (.int .u8 0)], .agg [.lit (.int .u8 0), .lit (.int .u8 0)], .agg [.lit (.int .u8 0), .lit (.int .u8 0)], .agg [.lit (.int .u8 0), .lit (.int .u8 0)], .agg [.lit (.int .u8 0), .lit (.int .u8 0)], .agg [.lit (.int .u8 0), .lit (.int .u8 0)], .agg [.lit (.int .u8 0), .lit (.int .u8 0)], .agg [.lit (.int .u8 0), .lit (.int .u8 0)], .agg [.lit (.int .u8 0), .lit (.int .u8 0)]]
/-- One of Go's own tables, pinned by name: the form's constant. -/
def laid_unicode_utf8_first : DataW Unit := Go.Pinned.utf8First

/-- 'permafrostlaw14.StateReads': WHATEVER THE INPUT: true; the input reads as it did. -/
def stateReadsSpec : ChangeSpec := { name := "stateReads", fn := fun _ => fun
  | [d1, d2, d3, d4] => { results := [.lit (.bool true)], args := [d1, d2, d3, d4] }
  | _ => none }
def stateReadsRow : OpenClaim := { program := "ytpgklnhkfgbpgaagreatdoor", sum := "6db030f064036978d8d68cb56bbf28769be730ebb1896023d684ba634e2da4a0", func := "permafrost/permafrostlaw14.StateReads", spec := "stateReads", inPlace := ["internal/bytealg.CountString", "internal/bytealg.IndexByteString", "internal/bytealg.IndexString", "maps.clone"], unfollowed := true, recurses := true, named := ["unicode/utf8.first", "unicode/utf8.acceptRanges", "internal/bytealg.MaxLen"], apart := false, laid := [("unicode/utf8.acceptRanges", laid_unicode_utf8_acceptRanges), ("unicode/utf8.first", laid_unicode_utf8_first)] }
def StateReadsSaid : Prop := stateReadsRow.holds Tryz.pinned (OpenSpec.ofChange stateReadsSpec)

/-- ITS FALSE NEIGHBOUR: 'it returns false'. Refute it at one input. -/
def stateReadsWrong : ChangeSpec := { name := "stateReads", fn := fun _ => fun
  | [d1, d2, d3, d4] => { results := [.lit (.bool false)], args := [d1, d2, d3, d4] }
  | _ => none }
def StateReadsWrongFalsely : Prop := stateReadsRow.holds Tryz.pinned (OpenSpec.ofChange stateReadsWrong)

/-- 'permafrostlaw14.StateRenames': WHATEVER THE INPUT: true; the input reads as it did. -/
def stateRenamesSpec : ChangeSpec := { name := "stateRenames", fn := fun _ => fun
  | [d1, d2] => { results := [.lit (.bool true)], args := [d1, d2] }
  | _ => none }
def stateRenamesRow : OpenClaim := { program := "ytpgklnhkfgbpgaagreatdoor", sum := "6db030f064036978d8d68cb56bbf28769be730ebb1896023d684ba634e2da4a0", func := "permafrost/permafrostlaw14.StateRenames", spec := "stateRenames", inPlace := ["internal/bytealg.CountString", "internal/bytealg.IndexByteString", "internal/bytealg.IndexString", "maps.clone"], unfollowed := true, recurses := true, named := ["unicode/utf8.first", "unicode/utf8.acceptRanges", "internal/bytealg.MaxLen"], apart := false, laid := [("unicode/utf8.acceptRanges", laid_unicode_utf8_acceptRanges), ("unicode/utf8.first", laid_unicode_utf8_first)] }
def StateRenamesSaid : Prop := stateRenamesRow.holds Tryz.pinned (OpenSpec.ofChange stateRenamesSpec)

/-- ITS FALSE NEIGHBOUR: 'it returns false'. Refute it at one input. -/
def stateRenamesWrong : ChangeSpec := { name := "stateRenames", fn := fun _ => fun
  | [d1, d2] => { results := [.lit (.bool false)], args := [d1, d2] }
  | _ => none }
def StateRenamesWrongFalsely : Prop := stateRenamesRow.holds Tryz.pinned (OpenSpec.ofChange stateRenamesWrong)

/-- 'permafrostlaw14.StateSnaps': WHATEVER THE INPUT: true; the input reads as it did. -/
def stateSnapsSpec : ChangeSpec := { name := "stateSnaps", fn := fun _ => fun
  | [d1, d2, d3] => { results := [.lit (.bool true)], args := [d1, d2, d3] }
  | _ => none }
def stateSnapsRow : OpenClaim := { program := "ytpgklnhkfgbpgaagreatdoor", sum := "6db030f064036978d8d68cb56bbf28769be730ebb1896023d684ba634e2da4a0", func := "permafrost/permafrostlaw14.StateSnaps", spec := "stateSnaps", inPlace := ["internal/bytealg.CountString", "internal/bytealg.IndexByteString", "internal/bytealg.IndexString", "maps.clone"], unfollowed := true, recurses := true, named := ["unicode/utf8.first", "unicode/utf8.acceptRanges", "internal/bytealg.MaxLen"], apart := false, laid := [("unicode/utf8.acceptRanges", laid_unicode_utf8_acceptRanges), ("unicode/utf8.first", laid_unicode_utf8_first)] }
def StateSnapsSaid : Prop := stateSnapsRow.holds Tryz.pinned (OpenSpec.ofChange stateSnapsSpec)

/-- ITS FALSE NEIGHBOUR: 'it returns false'. Refute it at one input. -/
def stateSnapsWrong : ChangeSpec := { name := "stateSnaps", fn := fun _ => fun
  | [d1, d2, d3] => { results := [.lit (.bool false)], args := [d1, d2, d3] }
  | _ => none }
def StateSnapsWrongFalsely : Prop := stateSnapsRow.holds Tryz.pinned (OpenSpec.ofChange stateSnapsWrong)

/-- 'permafrostlaw14.StateClock': WHATEVER THE INPUT: true; the input reads as it did. -/
def stateClockSpec : ChangeSpec := { name := "stateClock", fn := fun _ => fun
  | [d] => { results := [.lit (.bool true)], args := [d] }
  | _ => none }
def stateClockRow : OpenClaim := { program := "ytpgklnhkfgbpgaagreatdoor", sum := "6db030f064036978d8d68cb56bbf28769be730ebb1896023d684ba634e2da4a0", func := "permafrost/permafrostlaw14.StateClock", spec := "stateClock", inPlace := ["internal/bytealg.CountString", "internal/bytealg.IndexByteString", "internal/bytealg.IndexString", "maps.clone"], unfollowed := true, recurses := true, named := ["unicode/utf8.first", "unicode/utf8.acceptRanges", "internal/bytealg.MaxLen"], apart := false, laid := [("unicode/utf8.acceptRanges", laid_unicode_utf8_acceptRanges), ("unicode/utf8.first", laid_unicode_utf8_first)] }
def StateClockSaid : Prop := stateClockRow.holds Tryz.pinned (OpenSpec.ofChange stateClockSpec)

/-- ITS FALSE NEIGHBOUR: 'it returns false'. Refute it at one input. -/
def stateClockWrong : ChangeSpec := { name := "stateClock", fn := fun _ => fun
  | [d] => { results := [.lit (.bool false)], args := [d] }
  | _ => none }
def StateClockWrongFalsely : Prop := stateClockRow.holds Tryz.pinned (OpenSpec.ofChange stateClockWrong)

/-- 'permafrostlaw14.StateOpens': WHATEVER THE INPUT: true; the input reads as it did. -/
def stateOpensSpec : ChangeSpec := { name := "stateOpens", fn := fun _ => fun
  | [d1, d2] => { results := [.lit (.bool true)], args := [d1, d2] }
  | _ => none }
def stateOpensRow : OpenClaim := { program := "ytpgklnhkfgbpgaagreatdoor", sum := "6db030f064036978d8d68cb56bbf28769be730ebb1896023d684ba634e2da4a0", func := "permafrost/permafrostlaw14.StateOpens", spec := "stateOpens", inPlace := ["internal/bytealg.CountString", "internal/bytealg.IndexByteString", "internal/bytealg.IndexString", "maps.clone"], unfollowed := true, recurses := true, named := ["unicode/utf8.first", "unicode/utf8.acceptRanges", "internal/bytealg.MaxLen"], apart := false, laid := [("unicode/utf8.acceptRanges", laid_unicode_utf8_acceptRanges), ("unicode/utf8.first", laid_unicode_utf8_first)] }
def StateOpensSaid : Prop := stateOpensRow.holds Tryz.pinned (OpenSpec.ofChange stateOpensSpec)

/-- ITS FALSE NEIGHBOUR: 'it returns false'. Refute it at one input. -/
def stateOpensWrong : ChangeSpec := { name := "stateOpens", fn := fun _ => fun
  | [d1, d2] => { results := [.lit (.bool false)], args := [d1, d2] }
  | _ => none }
def StateOpensWrongFalsely : Prop := stateOpensRow.holds Tryz.pinned (OpenSpec.ofChange stateOpensWrong)

/-- 'permafrostlaw14.StateOpenFiles': WHATEVER THE INPUT: true; the input reads as it did. -/
def stateOpenFilesSpec : ChangeSpec := { name := "stateOpenFiles", fn := fun _ => fun
  | [d1, d2] => { results := [.lit (.bool true)], args := [d1, d2] }
  | _ => none }
def stateOpenFilesRow : OpenClaim := { program := "ytpgklnhkfgbpgaagreatdoor", sum := "6db030f064036978d8d68cb56bbf28769be730ebb1896023d684ba634e2da4a0", func := "permafrost/permafrostlaw14.StateOpenFiles", spec := "stateOpenFiles", inPlace := ["maps.clone", "internal/bytealg.CountString", "internal/bytealg.IndexByteString", "internal/bytealg.IndexString"], unfollowed := true, recurses := true, named := ["unicode/utf8.first", "unicode/utf8.acceptRanges", "internal/bytealg.MaxLen"], apart := false, laid := [("unicode/utf8.acceptRanges", laid_unicode_utf8_acceptRanges), ("unicode/utf8.first", laid_unicode_utf8_first)] }
def StateOpenFilesSaid : Prop := stateOpenFilesRow.holds Tryz.pinned (OpenSpec.ofChange stateOpenFilesSpec)

/-- ITS FALSE NEIGHBOUR: 'it returns false'. Refute it at one input. -/
def stateOpenFilesWrong : ChangeSpec := { name := "stateOpenFiles", fn := fun _ => fun
  | [d1, d2] => { results := [.lit (.bool false)], args := [d1, d2] }
  | _ => none }
def StateOpenFilesWrongFalsely : Prop := stateOpenFilesRow.holds Tryz.pinned (OpenSpec.ofChange stateOpenFilesWrong)

/-- 'permafrostlaw14.StateTwins': WHATEVER THE INPUT: true; the input reads as it did. -/
def stateTwinsSpec : ChangeSpec := { name := "stateTwins", fn := fun _ => fun
  | [d] => { results := [.lit (.bool true)], args := [d] }
  | _ => none }
def stateTwinsRow : OpenClaim := { program := "ytpgklnhkfgbpgaagreatdoor", sum := "6db030f064036978d8d68cb56bbf28769be730ebb1896023d684ba634e2da4a0", func := "permafrost/permafrostlaw14.StateTwins", spec := "stateTwins", inPlace := ["internal/bytealg.CountString", "internal/bytealg.IndexByteString", "internal/bytealg.IndexString", "maps.clone"], unfollowed := true, recurses := true, named := ["unicode/utf8.first", "unicode/utf8.acceptRanges", "internal/bytealg.MaxLen"], apart := false, laid := [("unicode/utf8.acceptRanges", laid_unicode_utf8_acceptRanges), ("unicode/utf8.first", laid_unicode_utf8_first)] }
def StateTwinsSaid : Prop := stateTwinsRow.holds Tryz.pinned (OpenSpec.ofChange stateTwinsSpec)

/-- ITS FALSE NEIGHBOUR: 'it returns false'. Refute it at one input. -/
def stateTwinsWrong : ChangeSpec := { name := "stateTwins", fn := fun _ => fun
  | [d] => { results := [.lit (.bool false)], args := [d] }
  | _ => none }
def StateTwinsWrongFalsely : Prop := stateTwinsRow.holds Tryz.pinned (OpenSpec.ofChange stateTwinsWrong)

/-- 'permafrostlaw14.StateRefused': WHATEVER THE INPUT: true; the input reads as it did. -/
def stateRefusedSpec : ChangeSpec := { name := "stateRefused", fn := fun _ => fun
  | [d] => { results := [.lit (.bool true)], args := [d] }
  | _ => none }
def stateRefusedRow : OpenClaim := { program := "ytpgklnhkfgbpgaagreatdoor", sum := "6db030f064036978d8d68cb56bbf28769be730ebb1896023d684ba634e2da4a0", func := "permafrost/permafrostlaw14.StateRefused", spec := "stateRefused", inPlace := ["maps.clone", "internal/bytealg.CountString", "internal/bytealg.IndexByteString", "internal/bytealg.IndexString"], unfollowed := true, recurses := true, named := ["unicode/utf8.first", "unicode/utf8.acceptRanges", "internal/bytealg.MaxLen"], apart := false, laid := [("unicode/utf8.acceptRanges", laid_unicode_utf8_acceptRanges), ("unicode/utf8.first", laid_unicode_utf8_first)] }
def StateRefusedSaid : Prop := stateRefusedRow.holds Tryz.pinned (OpenSpec.ofChange stateRefusedSpec)

/-- ITS FALSE NEIGHBOUR: 'it returns false'. Refute it at one input. -/
def stateRefusedWrong : ChangeSpec := { name := "stateRefused", fn := fun _ => fun
  | [d] => { results := [.lit (.bool false)], args := [d] }
  | _ => none }
def StateRefusedWrongFalsely : Prop := stateRefusedRow.holds Tryz.pinned (OpenSpec.ofChange stateRefusedWrong)

/-- 'permafrostlaw14.StateKept': WHATEVER THE INPUT: true; the input reads as it did. -/
def stateKeptSpec : ChangeSpec := { name := "stateKept", fn := fun _ => fun
  | [d1, d2, d3] => { results := [.lit (.bool true)], args := [d1, d2, d3] }
  | _ => none }
def stateKeptRow : OpenClaim := { program := "ytpgklnhkfgbpgaagreatdoor", sum := "6db030f064036978d8d68cb56bbf28769be730ebb1896023d684ba634e2da4a0", func := "permafrost/permafrostlaw14.StateKept", spec := "stateKept", inPlace := ["internal/bytealg.CountString", "internal/bytealg.IndexByteString", "internal/bytealg.IndexString", "maps.clone", "internal/abi.NoEscape", "internal/bytealg.MakeNoZero", "internal/bytealg.abigen_runtime_cmpstring"], unfollowed := true, recurses := true, named := ["unicode/utf8.first", "unicode/utf8.acceptRanges", "internal/bytealg.MaxLen"], apart := false, laid := [("unicode/utf8.acceptRanges", laid_unicode_utf8_acceptRanges), ("unicode/utf8.first", laid_unicode_utf8_first)] }
def StateKeptSaid : Prop := stateKeptRow.holds Tryz.pinned (OpenSpec.ofChange stateKeptSpec)

/-- ITS FALSE NEIGHBOUR: 'it returns false'. Refute it at one input. -/
def stateKeptWrong : ChangeSpec := { name := "stateKept", fn := fun _ => fun
  | [d1, d2, d3] => { results := [.lit (.bool false)], args := [d1, d2, d3] }
  | _ => none }
def StateKeptWrongFalsely : Prop := stateKeptRow.holds Tryz.pinned (OpenSpec.ofChange stateKeptWrong)

/- THE SECOND FORM. 'bulk': how many values and letters a reading holds, each counted each time it is reached (what is shared counts as often as it is met; a slice's spare places count too). A statement '..UptoSaid' is the law's where the arguments, and the package variables that the reading takes, are together of bulk at most 1048576: NARROWER than '..Said'. Prove '..Said' where nothing that the law and all that it calls make is longer than what came in: it says more and counts as full. Else prove '..UptoSaid'. A law counts once. -/
mutual
def uptoBulk {H : Type} : DataW H → Nat
  | .lit (.string bytes) => bytes.length + 1
  | .lit _ => 1
  | .nil => 1
  | .ptr d => uptoBulk d + 1
  | .slice elems spare => uptoBulkAll elems + uptoBulkAll spare + 1
  | .agg parts => uptoBulkAll parts + 1
  | .iface _ d => uptoBulk d + 1
  | .map entries => uptoBulkEntries entries + 1
  | .held _ => 1
def uptoBulkAll {H : Type} : List (DataW H) → Nat
  | [] => 0
  | d :: r => uptoBulk d + uptoBulkAll r
def uptoBulkEntries {H : Type} : List (Lit × DataW H) → Nat
  | [] => 0
  | x :: r => uptoBulkEntry x + uptoBulkEntries r
def uptoBulkEntry {H : Type} : Lit × DataW H → Nat
  | (.string bytes, d) => bytes.length + uptoBulk d + 1
  | (_, d) => uptoBulk d + 1
 end
def uptoSmall : (H : Type) → List (DataW H) → Bool := fun _ ds => decide (uptoBulkAll ds ≤ 1048576)
def OpenSpec.upto (s : _root_.Go.ChangeSpec) : _root_.Go.OpenSpec := { _root_.Go.OpenSpec.ofChange s with cond := some uptoSmall }

/-- 'permafrostlaw14.StateReads', WHERE WHAT IT READS IS OF BULK AT MOST 1048576: true; the input reads as it did. -/
def stateReadsUptoRow : OpenClaim := { program := "ytpgklnhkfgbpgaagreatdoor", sum := "6db030f064036978d8d68cb56bbf28769be730ebb1896023d684ba634e2da4a0", func := "permafrost/permafrostlaw14.StateReads", spec := "stateReads", inPlace := ["internal/bytealg.CountString", "internal/bytealg.IndexByteString", "internal/bytealg.IndexString", "maps.clone"], unfollowed := true, recurses := true, named := ["unicode/utf8.first", "unicode/utf8.acceptRanges", "internal/bytealg.MaxLen"], apart := false, laid := [("unicode/utf8.acceptRanges", laid_unicode_utf8_acceptRanges), ("unicode/utf8.first", laid_unicode_utf8_first)], narrowed := true }
def StateReadsUptoSaid : Prop := stateReadsUptoRow.holds Tryz.pinned (OpenSpec.upto stateReadsSpec)

/-- 'permafrostlaw14.StateRenames', WHERE WHAT IT READS IS OF BULK AT MOST 1048576: true; the input reads as it did. -/
def stateRenamesUptoRow : OpenClaim := { program := "ytpgklnhkfgbpgaagreatdoor", sum := "6db030f064036978d8d68cb56bbf28769be730ebb1896023d684ba634e2da4a0", func := "permafrost/permafrostlaw14.StateRenames", spec := "stateRenames", inPlace := ["internal/bytealg.CountString", "internal/bytealg.IndexByteString", "internal/bytealg.IndexString", "maps.clone"], unfollowed := true, recurses := true, named := ["unicode/utf8.first", "unicode/utf8.acceptRanges", "internal/bytealg.MaxLen"], apart := false, laid := [("unicode/utf8.acceptRanges", laid_unicode_utf8_acceptRanges), ("unicode/utf8.first", laid_unicode_utf8_first)], narrowed := true }
def StateRenamesUptoSaid : Prop := stateRenamesUptoRow.holds Tryz.pinned (OpenSpec.upto stateRenamesSpec)

/-- 'permafrostlaw14.StateSnaps', WHERE WHAT IT READS IS OF BULK AT MOST 1048576: true; the input reads as it did. -/
def stateSnapsUptoRow : OpenClaim := { program := "ytpgklnhkfgbpgaagreatdoor", sum := "6db030f064036978d8d68cb56bbf28769be730ebb1896023d684ba634e2da4a0", func := "permafrost/permafrostlaw14.StateSnaps", spec := "stateSnaps", inPlace := ["internal/bytealg.CountString", "internal/bytealg.IndexByteString", "internal/bytealg.IndexString", "maps.clone"], unfollowed := true, recurses := true, named := ["unicode/utf8.first", "unicode/utf8.acceptRanges", "internal/bytealg.MaxLen"], apart := false, laid := [("unicode/utf8.acceptRanges", laid_unicode_utf8_acceptRanges), ("unicode/utf8.first", laid_unicode_utf8_first)], narrowed := true }
def StateSnapsUptoSaid : Prop := stateSnapsUptoRow.holds Tryz.pinned (OpenSpec.upto stateSnapsSpec)

/-- 'permafrostlaw14.StateClock', WHERE WHAT IT READS IS OF BULK AT MOST 1048576: true; the input reads as it did. -/
def stateClockUptoRow : OpenClaim := { program := "ytpgklnhkfgbpgaagreatdoor", sum := "6db030f064036978d8d68cb56bbf28769be730ebb1896023d684ba634e2da4a0", func := "permafrost/permafrostlaw14.StateClock", spec := "stateClock", inPlace := ["internal/bytealg.CountString", "internal/bytealg.IndexByteString", "internal/bytealg.IndexString", "maps.clone"], unfollowed := true, recurses := true, named := ["unicode/utf8.first", "unicode/utf8.acceptRanges", "internal/bytealg.MaxLen"], apart := false, laid := [("unicode/utf8.acceptRanges", laid_unicode_utf8_acceptRanges), ("unicode/utf8.first", laid_unicode_utf8_first)], narrowed := true }
def StateClockUptoSaid : Prop := stateClockUptoRow.holds Tryz.pinned (OpenSpec.upto stateClockSpec)

/-- 'permafrostlaw14.StateOpens', WHERE WHAT IT READS IS OF BULK AT MOST 1048576: true; the input reads as it did. -/
def stateOpensUptoRow : OpenClaim := { program := "ytpgklnhkfgbpgaagreatdoor", sum := "6db030f064036978d8d68cb56bbf28769be730ebb1896023d684ba634e2da4a0", func := "permafrost/permafrostlaw14.StateOpens", spec := "stateOpens", inPlace := ["internal/bytealg.CountString", "internal/bytealg.IndexByteString", "internal/bytealg.IndexString", "maps.clone"], unfollowed := true, recurses := true, named := ["unicode/utf8.first", "unicode/utf8.acceptRanges", "internal/bytealg.MaxLen"], apart := false, laid := [("unicode/utf8.acceptRanges", laid_unicode_utf8_acceptRanges), ("unicode/utf8.first", laid_unicode_utf8_first)], narrowed := true }
def StateOpensUptoSaid : Prop := stateOpensUptoRow.holds Tryz.pinned (OpenSpec.upto stateOpensSpec)

/-- 'permafrostlaw14.StateOpenFiles', WHERE WHAT IT READS IS OF BULK AT MOST 1048576: true; the input reads as it did. -/
def stateOpenFilesUptoRow : OpenClaim := { program := "ytpgklnhkfgbpgaagreatdoor", sum := "6db030f064036978d8d68cb56bbf28769be730ebb1896023d684ba634e2da4a0", func := "permafrost/permafrostlaw14.StateOpenFiles", spec := "stateOpenFiles", inPlace := ["maps.clone", "internal/bytealg.CountString", "internal/bytealg.IndexByteString", "internal/bytealg.IndexString"], unfollowed := true, recurses := true, named := ["unicode/utf8.first", "unicode/utf8.acceptRanges", "internal/bytealg.MaxLen"], apart := false, laid := [("unicode/utf8.acceptRanges", laid_unicode_utf8_acceptRanges), ("unicode/utf8.first", laid_unicode_utf8_first)], narrowed := true }
def StateOpenFilesUptoSaid : Prop := stateOpenFilesUptoRow.holds Tryz.pinned (OpenSpec.upto stateOpenFilesSpec)

/-- 'permafrostlaw14.StateTwins', WHERE WHAT IT READS IS OF BULK AT MOST 1048576: true; the input reads as it did. -/
def stateTwinsUptoRow : OpenClaim := { program := "ytpgklnhkfgbpgaagreatdoor", sum := "6db030f064036978d8d68cb56bbf28769be730ebb1896023d684ba634e2da4a0", func := "permafrost/permafrostlaw14.StateTwins", spec := "stateTwins", inPlace := ["internal/bytealg.CountString", "internal/bytealg.IndexByteString", "internal/bytealg.IndexString", "maps.clone"], unfollowed := true, recurses := true, named := ["unicode/utf8.first", "unicode/utf8.acceptRanges", "internal/bytealg.MaxLen"], apart := false, laid := [("unicode/utf8.acceptRanges", laid_unicode_utf8_acceptRanges), ("unicode/utf8.first", laid_unicode_utf8_first)], narrowed := true }
def StateTwinsUptoSaid : Prop := stateTwinsUptoRow.holds Tryz.pinned (OpenSpec.upto stateTwinsSpec)

/-- 'permafrostlaw14.StateRefused', WHERE WHAT IT READS IS OF BULK AT MOST 1048576: true; the input reads as it did. -/
def stateRefusedUptoRow : OpenClaim := { program := "ytpgklnhkfgbpgaagreatdoor", sum := "6db030f064036978d8d68cb56bbf28769be730ebb1896023d684ba634e2da4a0", func := "permafrost/permafrostlaw14.StateRefused", spec := "stateRefused", inPlace := ["maps.clone", "internal/bytealg.CountString", "internal/bytealg.IndexByteString", "internal/bytealg.IndexString"], unfollowed := true, recurses := true, named := ["unicode/utf8.first", "unicode/utf8.acceptRanges", "internal/bytealg.MaxLen"], apart := false, laid := [("unicode/utf8.acceptRanges", laid_unicode_utf8_acceptRanges), ("unicode/utf8.first", laid_unicode_utf8_first)], narrowed := true }
def StateRefusedUptoSaid : Prop := stateRefusedUptoRow.holds Tryz.pinned (OpenSpec.upto stateRefusedSpec)

/-- 'permafrostlaw14.StateKept', WHERE WHAT IT READS IS OF BULK AT MOST 1048576: true; the input reads as it did. -/
def stateKeptUptoRow : OpenClaim := { program := "ytpgklnhkfgbpgaagreatdoor", sum := "6db030f064036978d8d68cb56bbf28769be730ebb1896023d684ba634e2da4a0", func := "permafrost/permafrostlaw14.StateKept", spec := "stateKept", inPlace := ["internal/bytealg.CountString", "internal/bytealg.IndexByteString", "internal/bytealg.IndexString", "maps.clone", "internal/abi.NoEscape", "internal/bytealg.MakeNoZero", "internal/bytealg.abigen_runtime_cmpstring"], unfollowed := true, recurses := true, named := ["unicode/utf8.first", "unicode/utf8.acceptRanges", "internal/bytealg.MaxLen"], apart := false, laid := [("unicode/utf8.acceptRanges", laid_unicode_utf8_acceptRanges), ("unicode/utf8.first", laid_unicode_utf8_first)], narrowed := true }
def StateKeptUptoSaid : Prop := stateKeptUptoRow.holds Tryz.pinned (OpenSpec.upto stateKeptSpec)

end Rows
end Go.Proofs.YtpgklnhkfgbpgaaGreatDoor
