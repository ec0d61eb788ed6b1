/- A number out of five. -/
import Derived.Test.YtiabpnhkihbkjaaDoorProg
import Derived.KernelRfl
import Derived.Test.YtiabpnhkihbkjaaDoorBase
namespace Go.Proofs.YtiabpnhkihbkjaaDoor
open Go.RowKit
theorem idx_0 (W : World) (x0 x1 x2 x3 x4 x5 x6 x7 x8 x9 : Value) : (Instr.index 56 (.agg #[x0, x1, x2, x3, x4, x5, x6, x7, x8, x9]) (.int .i64 0)).run Tryd.prog W = .ok (.agg #[x0, x1]) W := by
  kernel_rfl
theorem idx_1 (W : World) (x0 x1 x2 x3 x4 x5 x6 x7 x8 x9 : Value) : (Instr.index 56 (.agg #[x0, x1, x2, x3, x4, x5, x6, x7, x8, x9]) (.int .i64 1)).run Tryd.prog W = .ok (.agg #[x2, x3]) W := by
  kernel_rfl
theorem idx_2 (W : World) (x0 x1 x2 x3 x4 x5 x6 x7 x8 x9 : Value) : (Instr.index 56 (.agg #[x0, x1, x2, x3, x4, x5, x6, x7, x8, x9]) (.int .i64 2)).run Tryd.prog W = .ok (.agg #[x4, x5]) W := by
  kernel_rfl
theorem idx_3 (W : World) (x0 x1 x2 x3 x4 x5 x6 x7 x8 x9 : Value) : (Instr.index 56 (.agg #[x0, x1, x2, x3, x4, x5, x6, x7, x8, x9]) (.int .i64 3)).run Tryd.prog W = .ok (.agg #[x6, x7]) W := by
  kernel_rfl
theorem idx_4 (W : World) (x0 x1 x2 x3 x4 x5 x6 x7 x8 x9 : Value) : (Instr.index 56 (.agg #[x0, x1, x2, x3, x4, x5, x6, x7, x8, x9]) (.int .i64 4)).run Tryd.prog W = .ok (.agg #[x8, x9]) W := by
  kernel_rfl
end Go.Proofs.YtiabpnhkihbkjaaDoor
