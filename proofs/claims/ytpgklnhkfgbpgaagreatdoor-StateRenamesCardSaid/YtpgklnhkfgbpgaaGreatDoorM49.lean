/- A reply's fields. -/
import Derived.Test.YtpgklnhkfgbpgaaGreatDoorM45
namespace Go.Proofs.YtpgklnhkfgbpgaaGreatDoor
open Go.ChangeShapes Go.WideShapes Go.ChangeAt Go.RowKit
set_option linter.unusedVariables false
set_option linter.unusedSimpArgs false

theorem field_er (er n : Int) (da la : Option Addr) (dl dc ll lc : Nat) (x0 x1 x2 x3 x4 : Int) (x5 : Bool) (w : World) : (Instr.field 33 (.agg #[.int .i64 er, .int .i64 n, .slice da dl dc, .slice la ll lc, .int .i64 x0, .int .i64 x1, .int .i64 x2, .int .i64 x3, .int .u64 x4, .bool x5]) 0).run Tryz.prog w = .ok (.int .i64 er) w := by
  kernel_rfl
theorem field_node (er n : Int) (da la : Option Addr) (dl dc ll lc : Nat) (x0 x1 x2 x3 x4 : Int) (x5 : Bool) (w : World) : (Instr.field 33 (.agg #[.int .i64 er, .int .i64 n, .slice da dl dc, .slice la ll lc, .int .i64 x0, .int .i64 x1, .int .i64 x2, .int .i64 x3, .int .u64 x4, .bool x5]) 4).run Tryz.prog w = .ok (.agg #[.int .i64 x0, .int .i64 x1, .int .i64 x2, .int .i64 x3, .int .u64 x4, .bool x5]) w := by
  kernel_rfl
end Go.Proofs.YtpgklnhkfgbpgaaGreatDoor
