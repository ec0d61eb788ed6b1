/- A number out of five. -/
import Derived.Test.YtfmcimngogibkaaProg
import Derived.KernelRfl
import Derived.Test.YtfmcimngogibkaaBase
set_option linter.unusedSimpArgs false
set_option linter.unusedVariables false
namespace Go.Proofs.Ytfmcimngogibkaa
open Go.RowKit
theorem idx_0 (W : World) (x0 x1 x2 x3 x4 x5 x6 x7 x8 x9 : Value) : (Instr.index 103 (.agg #[x0, x1, x2, x3, x4, x5, x6, x7, x8, x9]) (.int .i64 0)).run Try.prog W = .ok (.agg #[x0, x1]) W := by
  kernel_rfl
theorem idx_1 (W : World) (x0 x1 x2 x3 x4 x5 x6 x7 x8 x9 : Value) : (Instr.index 103 (.agg #[x0, x1, x2, x3, x4, x5, x6, x7, x8, x9]) (.int .i64 1)).run Try.prog W = .ok (.agg #[x2, x3]) W := by
  kernel_rfl
theorem idx_2 (W : World) (x0 x1 x2 x3 x4 x5 x6 x7 x8 x9 : Value) : (Instr.index 103 (.agg #[x0, x1, x2, x3, x4, x5, x6, x7, x8, x9]) (.int .i64 2)).run Try.prog W = .ok (.agg #[x4, x5]) W := by
  kernel_rfl
theorem idx_3 (W : World) (x0 x1 x2 x3 x4 x5 x6 x7 x8 x9 : Value) : (Instr.index 103 (.agg #[x0, x1, x2, x3, x4, x5, x6, x7, x8, x9]) (.int .i64 3)).run Try.prog W = .ok (.agg #[x6, x7]) W := by
  kernel_rfl
theorem idx_4 (W : World) (x0 x1 x2 x3 x4 x5 x6 x7 x8 x9 : Value) : (Instr.index 103 (.agg #[x0, x1, x2, x3, x4, x5, x6, x7, x8, x9]) (.int .i64 4)).run Try.prog W = .ok (.agg #[x8, x9]) W := by
  kernel_rfl
end Go.Proofs.Ytfmcimngogibkaa
