/- '==' of numbers of 128 bits. -/
import Derived.Test.YtjchjpmgbmeohaaDoorProg
import Derived.Test.YtjchjpmgbmeohaaDoorEqs
import Derived.KernelRfl
set_option linter.unusedSimpArgs false
set_option linter.unusedVariables false
namespace Go.Proofs.YtjchjpmgbmeohaaDoor
open Go.RowKit

theorem eq_Num (d : Nat) (w : World) (x0 y0 x1 y1 : Int) :
    (Op.equalIn (d + 2) 24 (.agg #[.int .u64 x0, .int .u64 x1]) (.agg #[.int .u64 y0, .int .u64 y1])).run Tryd.prog w = .ok (x0 == y0 && (x1 == y1)) w := by
  refine eqs_of Tryd.underlying24 (by kernel_rfl) ?_
  refine eqs_cons (by decide) (by go_simp; rfl) (by go_simp; rfl) (by go_simp) ?_
  exact eqs_last (by decide) (by go_simp; rfl) (by go_simp; rfl) (by go_simp)
theorem eqm_Num (w : World) (x0 y0 x1 y1 : Int) :
    (Op.equalIn 10000 24 (.agg #[.int .u64 x0, .int .u64 x1]) (.agg #[.int .u64 y0, .int .u64 y1])).run Tryd.prog w = .ok (x0 == y0 && (x1 == y1)) w := eq_Num 9998 w _ _ _ _ 

end Go.Proofs.YtjchjpmgbmeohaaDoor
