/-
  NARROWER THAN 'FOR EVERY INPUT', by the rows' own cells (each row's printed sentence says how): StateTwins: laid · StateNumbers: laid · StatePlays: laid · StateSmall: laid · StateLoads: laid · StateBack: laid.
  DERIVED. THE GIVEN ROWS OF THIS SEAT. 6 by the template 'for every input the law returns true; each argument reads behind the call as it read before'; 0 by the template 'total and deterministic' (their statements: YtmabllemjkcobaaGreatDoorTotals.lean).
  GIVEN WITH THE SEED: the statements are not yours to turn. If you find one false, say at which input.
  Laid BY PROGRAM, IN A SANDBOX (cutbox-rows.mjs): the forced cells as the released guide's own fill.sh prints them over the translation 0242cd1550ee2cb3… (all of the seat's roots in one cut). By AI agents, Wed Nov 11 2026. No macro, syntax, notation, axiom, sorry.
-/
import Derived.Test.YtmabllemjkcobaaGreatDoorChecked
import GoSem.PinnedTables
import GoSem.Claim
import GoSem.ClaimJoined
import GoSem.ClaimMapViews
import Derived.JoinedTies
import Derived.KernelRfl
namespace Go.Proofs.YtmabllemjkcobaaGreatDoor
/- THE CELL 'sum', in the pinned program and in every row, IS THE sha256 OF THE DUMP (.gsa) THAT YtmabllemjkcobaaGreatDoorProg.lean LOADS. Nothing in Lean hashes anything: it is a label: what it is worth is what the hold of that sum in a sandbox is worth. -/
noncomputable def Tryz.pinned : Pinned := { name := "ytmabllemjkcobaagreatdoor", sum := "0242cd1550ee2cb3d4abf3b691347c08c4b3b1d83e8ae082bac53c7015ce7bfd", checked := Tryz.checked }
namespace Rows
def none {H : Type} : Left H := { results := [], args := [] }

/- WHAT THE LISTED PACKAGE-LEVEL VARIABLES READ AS WHEN THE CALL BEGINS. Each datum BY PROGRAM (the guide's laid-datum.mjs) off the statement by which the dump's own 'gosem.cut.vars' lays the variable. In a bare row this is a premise. The card (YtmabllemjkcobaaGreatDoorCards.lean) ties it to the program's text. -/
def laid_unicode_utf8_acceptRanges {H : Type} : DataW H := .agg [.agg [.lit (.int .u8 128), .lit (.int .u8 191)], .agg [.lit (.int .u8 160), .lit (.int .u8 191)], .agg [.lit (.int .u8 128), .lit (.int .u8 159)], .agg [.lit (.int .u8 144), .lit (.int .u8 191)], .agg [.lit (.int .u8 128), .lit (.int .u8 143)], .agg [.lit (.int .u8 0), .lit (.int .u8 0)], .agg [.lit (.int .u8 0), .lit (.int .u8 0)], .agg [.lit (.int .u8 0), .lit (.int .u8 0)], .agg [.lit (.int .u8 0), .lit (.int .u8 0)], .agg [.lit (.int .u8 0), .lit (.int .u8 0)], .agg [.lit (.int .u8 0), .lit (.int .u8 0)], .agg [.lit (.int .u8 0), .lit (.int .u8 0)], .agg [.lit (.int .u8 0), .lit (.int .u8 0)], .agg [.lit (.int .u8 0), .lit (.int .u8 0)], .agg [.lit (.int .u8 0), .lit (.int .u8 0)], .agg [.lit (.int .u8 0), .lit (.int .u8 0)]]
/-- One of Go's own tables, pinned by name: the form's constant. -/
def laid_unicode_utf8_first : DataW Unit := Go.Pinned.utf8First

/-- 'permafrostlaw14.StateTwins': WHATEVER THE INPUT: true; the input reads as it did. -/
def stateTwinsSpec : ChangeSpec := { name := "stateTwins", fn := fun _ => fun
  | [d] => { results := [.lit (.bool true)], args := [d] }
  | _ => none }
def stateTwinsRow : OpenClaim := { program := "ytmabllemjkcobaagreatdoor", sum := "0242cd1550ee2cb3d4abf3b691347c08c4b3b1d83e8ae082bac53c7015ce7bfd", func := "permafrost/permafrostlaw14.StateTwins", spec := "stateTwins", inPlace := ["internal/bytealg.CountString", "internal/bytealg.IndexByteString", "internal/bytealg.IndexString", "maps.clone"], unfollowed := true, recurses := true, named := ["unicode/utf8.first", "unicode/utf8.acceptRanges", "internal/bytealg.MaxLen"], apart := false, laid := [("unicode/utf8.acceptRanges", laid_unicode_utf8_acceptRanges), ("unicode/utf8.first", laid_unicode_utf8_first)] }
def StateTwinsSaid : Prop := stateTwinsRow.holds Tryz.pinned (OpenSpec.ofChange stateTwinsSpec)

/-- ITS FALSE NEIGHBOUR: 'it returns false'. Refute it at one input. -/
def stateTwinsWrong : ChangeSpec := { name := "stateTwins", fn := fun _ => fun
  | [d] => { results := [.lit (.bool false)], args := [d] }
  | _ => none }
def StateTwinsWrongFalsely : Prop := stateTwinsRow.holds Tryz.pinned (OpenSpec.ofChange stateTwinsWrong)

/-- 'permafrostlaw14.StateNumbers': WHATEVER THE INPUT: true; the input reads as it did. -/
def stateNumbersSpec : ChangeSpec := { name := "stateNumbers", fn := fun _ => fun
  | [] => { results := [.lit (.bool true)], args := [] }
  | _ => none }
def stateNumbersRow : OpenClaim := { program := "ytmabllemjkcobaagreatdoor", sum := "0242cd1550ee2cb3d4abf3b691347c08c4b3b1d83e8ae082bac53c7015ce7bfd", func := "permafrost/permafrostlaw14.StateNumbers", spec := "stateNumbers", inPlace := ["internal/bytealg.CountString", "internal/bytealg.IndexByteString", "internal/bytealg.IndexString", "maps.clone"], unfollowed := true, recurses := true, named := ["unicode/utf8.first", "unicode/utf8.acceptRanges", "internal/bytealg.MaxLen"], apart := false, laid := [("unicode/utf8.acceptRanges", laid_unicode_utf8_acceptRanges), ("unicode/utf8.first", laid_unicode_utf8_first)] }
def StateNumbersSaid : Prop := stateNumbersRow.holds Tryz.pinned (OpenSpec.ofChange stateNumbersSpec)

/-- ITS FALSE NEIGHBOUR: 'it returns false'. Refute it at one input. -/
def stateNumbersWrong : ChangeSpec := { name := "stateNumbers", fn := fun _ => fun
  | [] => { results := [.lit (.bool false)], args := [] }
  | _ => none }
def StateNumbersWrongFalsely : Prop := stateNumbersRow.holds Tryz.pinned (OpenSpec.ofChange stateNumbersWrong)

/-- 'permafrostlaw14.StatePlays': WHATEVER THE INPUT: true; the input reads as it did. -/
def statePlaysSpec : ChangeSpec := { name := "statePlays", fn := fun _ => fun
  | [d] => { results := [.lit (.bool true)], args := [d] }
  | _ => none }
def statePlaysRow : OpenClaim := { program := "ytmabllemjkcobaagreatdoor", sum := "0242cd1550ee2cb3d4abf3b691347c08c4b3b1d83e8ae082bac53c7015ce7bfd", func := "permafrost/permafrostlaw14.StatePlays", spec := "statePlays", inPlace := ["internal/bytealg.CountString", "internal/bytealg.IndexByteString", "internal/bytealg.IndexString", "maps.clone"], unfollowed := true, recurses := true, named := ["unicode/utf8.first", "unicode/utf8.acceptRanges", "internal/bytealg.MaxLen"], apart := false, laid := [("unicode/utf8.acceptRanges", laid_unicode_utf8_acceptRanges), ("unicode/utf8.first", laid_unicode_utf8_first)] }
def StatePlaysSaid : Prop := statePlaysRow.holds Tryz.pinned (OpenSpec.ofChange statePlaysSpec)

/-- ITS FALSE NEIGHBOUR: 'it returns false'. Refute it at one input. -/
def statePlaysWrong : ChangeSpec := { name := "statePlays", fn := fun _ => fun
  | [d] => { results := [.lit (.bool false)], args := [d] }
  | _ => none }
def StatePlaysWrongFalsely : Prop := statePlaysRow.holds Tryz.pinned (OpenSpec.ofChange statePlaysWrong)

/-- 'permafrostlaw14.StateSmall': WHATEVER THE INPUT: true; the input reads as it did. -/
def stateSmallSpec : ChangeSpec := { name := "stateSmall", fn := fun _ => fun
  | [d] => { results := [.lit (.bool true)], args := [d] }
  | _ => none }
def stateSmallRow : OpenClaim := { program := "ytmabllemjkcobaagreatdoor", sum := "0242cd1550ee2cb3d4abf3b691347c08c4b3b1d83e8ae082bac53c7015ce7bfd", func := "permafrost/permafrostlaw14.StateSmall", spec := "stateSmall", inPlace := ["internal/bytealg.CountString", "internal/bytealg.IndexByteString", "internal/bytealg.IndexString", "maps.clone"], unfollowed := true, recurses := true, named := ["unicode/utf8.first", "unicode/utf8.acceptRanges", "internal/bytealg.MaxLen"], apart := false, laid := [("unicode/utf8.acceptRanges", laid_unicode_utf8_acceptRanges), ("unicode/utf8.first", laid_unicode_utf8_first)] }
def StateSmallSaid : Prop := stateSmallRow.holds Tryz.pinned (OpenSpec.ofChange stateSmallSpec)

/-- ITS FALSE NEIGHBOUR: 'it returns false'. Refute it at one input. -/
def stateSmallWrong : ChangeSpec := { name := "stateSmall", fn := fun _ => fun
  | [d] => { results := [.lit (.bool false)], args := [d] }
  | _ => none }
def StateSmallWrongFalsely : Prop := stateSmallRow.holds Tryz.pinned (OpenSpec.ofChange stateSmallWrong)

/-- 'permafrostlaw14.StateLoads': WHATEVER THE INPUT: true; the input reads as it did. -/
def stateLoadsSpec : ChangeSpec := { name := "stateLoads", fn := fun _ => fun
  | [d1, d2, d3, d4, d5] => { results := [.lit (.bool true)], args := [d1, d2, d3, d4, d5] }
  | _ => none }
def stateLoadsRow : OpenClaim := { program := "ytmabllemjkcobaagreatdoor", sum := "0242cd1550ee2cb3d4abf3b691347c08c4b3b1d83e8ae082bac53c7015ce7bfd", func := "permafrost/permafrostlaw14.StateLoads", spec := "stateLoads", inPlace := ["maps.clone", "internal/bytealg.CountString", "internal/bytealg.IndexByteString", "internal/bytealg.IndexString"], unfollowed := true, recurses := true, named := ["unicode/utf8.first", "unicode/utf8.acceptRanges", "internal/bytealg.MaxLen"], apart := false, laid := [("unicode/utf8.acceptRanges", laid_unicode_utf8_acceptRanges), ("unicode/utf8.first", laid_unicode_utf8_first)] }
def StateLoadsSaid : Prop := stateLoadsRow.holds Tryz.pinned (OpenSpec.ofChange stateLoadsSpec)

/-- ITS FALSE NEIGHBOUR: 'it returns false'. Refute it at one input. -/
def stateLoadsWrong : ChangeSpec := { name := "stateLoads", fn := fun _ => fun
  | [d1, d2, d3, d4, d5] => { results := [.lit (.bool false)], args := [d1, d2, d3, d4, d5] }
  | _ => none }
def StateLoadsWrongFalsely : Prop := stateLoadsRow.holds Tryz.pinned (OpenSpec.ofChange stateLoadsWrong)

/-- 'permafrostlaw14.StateBack': WHATEVER THE INPUT: true; the input reads as it did. -/
def stateBackSpec : ChangeSpec := { name := "stateBack", fn := fun _ => fun
  | [d1, d2] => { results := [.lit (.bool true)], args := [d1, d2] }
  | _ => none }
def stateBackRow : OpenClaim := { program := "ytmabllemjkcobaagreatdoor", sum := "0242cd1550ee2cb3d4abf3b691347c08c4b3b1d83e8ae082bac53c7015ce7bfd", func := "permafrost/permafrostlaw14.StateBack", spec := "stateBack", inPlace := ["internal/bytealg.CountString", "internal/bytealg.IndexByteString", "internal/bytealg.IndexString", "maps.clone"], unfollowed := true, recurses := true, named := ["unicode/utf8.first", "unicode/utf8.acceptRanges", "internal/bytealg.MaxLen"], apart := false, laid := [("unicode/utf8.acceptRanges", laid_unicode_utf8_acceptRanges), ("unicode/utf8.first", laid_unicode_utf8_first)] }
def StateBackSaid : Prop := stateBackRow.holds Tryz.pinned (OpenSpec.ofChange stateBackSpec)

/-- ITS FALSE NEIGHBOUR: 'it returns false'. Refute it at one input. -/
def stateBackWrong : ChangeSpec := { name := "stateBack", fn := fun _ => fun
  | [d1, d2] => { results := [.lit (.bool false)], args := [d1, d2] }
  | _ => none }
def StateBackWrongFalsely : Prop := stateBackRow.holds Tryz.pinned (OpenSpec.ofChange stateBackWrong)

/- THE SECOND FORM. 'bulk': how many values and letters a reading holds, each counted each time it is reached (what is shared counts as often as it is met; a slice's spare places count too). A statement '..UptoSaid' is the law's where the arguments, and the package variables that the reading takes, are together of bulk at most 1048576: NARROWER than '..Said'. Prove '..Said' where nothing that the law and all that it calls make is longer than what came in: it says more and counts as full. Else prove '..UptoSaid'. A law counts once. -/
mutual
def uptoBulk {H : Type} : DataW H → Nat
  | .lit (.string bytes) => bytes.length + 1
  | .lit _ => 1
  | .nil => 1
  | .ptr d => uptoBulk d + 1
  | .slice elems spare => uptoBulkAll elems + uptoBulkAll spare + 1
  | .agg parts => uptoBulkAll parts + 1
  | .iface _ d => uptoBulk d + 1
  | .map entries => uptoBulkEntries entries + 1
  | .held _ => 1
def uptoBulkAll {H : Type} : List (DataW H) → Nat
  | [] => 0
  | d :: r => uptoBulk d + uptoBulkAll r
def uptoBulkEntries {H : Type} : List (Lit × DataW H) → Nat
  | [] => 0
  | x :: r => uptoBulkEntry x + uptoBulkEntries r
def uptoBulkEntry {H : Type} : Lit × DataW H → Nat
  | (.string bytes, d) => bytes.length + uptoBulk d + 1
  | (_, d) => uptoBulk d + 1
 end
def uptoSmall : (H : Type) → List (DataW H) → Bool := fun _ ds => decide (uptoBulkAll ds ≤ 1048576)
def OpenSpec.upto (s : _root_.Go.ChangeSpec) : _root_.Go.OpenSpec := { _root_.Go.OpenSpec.ofChange s with cond := some uptoSmall }

/-- 'permafrostlaw14.StateTwins', WHERE WHAT IT READS IS OF BULK AT MOST 1048576: true; the input reads as it did. -/
def stateTwinsUptoRow : OpenClaim := { program := "ytmabllemjkcobaagreatdoor", sum := "0242cd1550ee2cb3d4abf3b691347c08c4b3b1d83e8ae082bac53c7015ce7bfd", func := "permafrost/permafrostlaw14.StateTwins", spec := "stateTwins", inPlace := ["internal/bytealg.CountString", "internal/bytealg.IndexByteString", "internal/bytealg.IndexString", "maps.clone"], unfollowed := true, recurses := true, named := ["unicode/utf8.first", "unicode/utf8.acceptRanges", "internal/bytealg.MaxLen"], apart := false, laid := [("unicode/utf8.acceptRanges", laid_unicode_utf8_acceptRanges), ("unicode/utf8.first", laid_unicode_utf8_first)], narrowed := true }
def StateTwinsUptoSaid : Prop := stateTwinsUptoRow.holds Tryz.pinned (OpenSpec.upto stateTwinsSpec)

/-- 'permafrostlaw14.StateNumbers', WHERE WHAT IT READS IS OF BULK AT MOST 1048576: true; the input reads as it did. -/
def stateNumbersUptoRow : OpenClaim := { program := "ytmabllemjkcobaagreatdoor", sum := "0242cd1550ee2cb3d4abf3b691347c08c4b3b1d83e8ae082bac53c7015ce7bfd", func := "permafrost/permafrostlaw14.StateNumbers", spec := "stateNumbers", inPlace := ["internal/bytealg.CountString", "internal/bytealg.IndexByteString", "internal/bytealg.IndexString", "maps.clone"], unfollowed := true, recurses := true, named := ["unicode/utf8.first", "unicode/utf8.acceptRanges", "internal/bytealg.MaxLen"], apart := false, laid := [("unicode/utf8.acceptRanges", laid_unicode_utf8_acceptRanges), ("unicode/utf8.first", laid_unicode_utf8_first)], narrowed := true }
def StateNumbersUptoSaid : Prop := stateNumbersUptoRow.holds Tryz.pinned (OpenSpec.upto stateNumbersSpec)

/-- 'permafrostlaw14.StatePlays', WHERE WHAT IT READS IS OF BULK AT MOST 1048576: true; the input reads as it did. -/
def statePlaysUptoRow : OpenClaim := { program := "ytmabllemjkcobaagreatdoor", sum := "0242cd1550ee2cb3d4abf3b691347c08c4b3b1d83e8ae082bac53c7015ce7bfd", func := "permafrost/permafrostlaw14.StatePlays", spec := "statePlays", inPlace := ["internal/bytealg.CountString", "internal/bytealg.IndexByteString", "internal/bytealg.IndexString", "maps.clone"], unfollowed := true, recurses := true, named := ["unicode/utf8.first", "unicode/utf8.acceptRanges", "internal/bytealg.MaxLen"], apart := false, laid := [("unicode/utf8.acceptRanges", laid_unicode_utf8_acceptRanges), ("unicode/utf8.first", laid_unicode_utf8_first)], narrowed := true }
def StatePlaysUptoSaid : Prop := statePlaysUptoRow.holds Tryz.pinned (OpenSpec.upto statePlaysSpec)

/-- 'permafrostlaw14.StateSmall', WHERE WHAT IT READS IS OF BULK AT MOST 1048576: true; the input reads as it did. -/
def stateSmallUptoRow : OpenClaim := { program := "ytmabllemjkcobaagreatdoor", sum := "0242cd1550ee2cb3d4abf3b691347c08c4b3b1d83e8ae082bac53c7015ce7bfd", func := "permafrost/permafrostlaw14.StateSmall", spec := "stateSmall", inPlace := ["internal/bytealg.CountString", "internal/bytealg.IndexByteString", "internal/bytealg.IndexString", "maps.clone"], unfollowed := true, recurses := true, named := ["unicode/utf8.first", "unicode/utf8.acceptRanges", "internal/bytealg.MaxLen"], apart := false, laid := [("unicode/utf8.acceptRanges", laid_unicode_utf8_acceptRanges), ("unicode/utf8.first", laid_unicode_utf8_first)], narrowed := true }
def StateSmallUptoSaid : Prop := stateSmallUptoRow.holds Tryz.pinned (OpenSpec.upto stateSmallSpec)

/-- 'permafrostlaw14.StateLoads', WHERE WHAT IT READS IS OF BULK AT MOST 1048576: true; the input reads as it did. -/
def stateLoadsUptoRow : OpenClaim := { program := "ytmabllemjkcobaagreatdoor", sum := "0242cd1550ee2cb3d4abf3b691347c08c4b3b1d83e8ae082bac53c7015ce7bfd", func := "permafrost/permafrostlaw14.StateLoads", spec := "stateLoads", inPlace := ["maps.clone", "internal/bytealg.CountString", "internal/bytealg.IndexByteString", "internal/bytealg.IndexString"], unfollowed := true, recurses := true, named := ["unicode/utf8.first", "unicode/utf8.acceptRanges", "internal/bytealg.MaxLen"], apart := false, laid := [("unicode/utf8.acceptRanges", laid_unicode_utf8_acceptRanges), ("unicode/utf8.first", laid_unicode_utf8_first)], narrowed := true }
def StateLoadsUptoSaid : Prop := stateLoadsUptoRow.holds Tryz.pinned (OpenSpec.upto stateLoadsSpec)

/-- 'permafrostlaw14.StateBack', WHERE WHAT IT READS IS OF BULK AT MOST 1048576: true; the input reads as it did. -/
def stateBackUptoRow : OpenClaim := { program := "ytmabllemjkcobaagreatdoor", sum := "0242cd1550ee2cb3d4abf3b691347c08c4b3b1d83e8ae082bac53c7015ce7bfd", func := "permafrost/permafrostlaw14.StateBack", spec := "stateBack", inPlace := ["internal/bytealg.CountString", "internal/bytealg.IndexByteString", "internal/bytealg.IndexString", "maps.clone"], unfollowed := true, recurses := true, named := ["unicode/utf8.first", "unicode/utf8.acceptRanges", "internal/bytealg.MaxLen"], apart := false, laid := [("unicode/utf8.acceptRanges", laid_unicode_utf8_acceptRanges), ("unicode/utf8.first", laid_unicode_utf8_first)], narrowed := true }
def StateBackUptoSaid : Prop := stateBackUptoRow.holds Tryz.pinned (OpenSpec.upto stateBackSpec)

end Rows
end Go.Proofs.YtmabllemjkcobaaGreatDoor
