/- '==' of numbers of 128 bits. -/
import Derived.Test.YtjegnhcpepkpoaaProg
import Derived.Test.YtjegnhcpepkpoaaEqs
import Derived.KernelRfl
namespace Go.Proofs.Ytjegnhcpepkpoaa
open Go.RowKit

theorem eq_Pair (d : Nat) (w : World) (x0 y0 x1 y1 : Int) :
    (Op.equalIn (d + 2) 44 (.agg #[.int .i64 x0, .int .i64 x1]) (.agg #[.int .i64 y0, .int .i64 y1])).run Try.prog w = .ok (x0 == y0 && (x1 == y1)) w := by
  refine eqs_of Try.underlying44 (by kernel_rfl) ?_
  refine eqs_cons (by decide) (by go_simp; rfl) (by go_simp; rfl) (by go_simp) ?_
  exact eqs_last (by decide) (by go_simp; rfl) (by go_simp; rfl) (by go_simp)
theorem eqm_Pair (w : World) (x0 y0 x1 y1 : Int) :
    (Op.equalIn 10000 44 (.agg #[.int .i64 x0, .int .i64 x1]) (.agg #[.int .i64 y0, .int .i64 y1])).run Try.prog w = .ok (x0 == y0 && (x1 == y1)) w := eq_Pair 9998 w _ _ _ _ 

end Go.Proofs.Ytjegnhcpepkpoaa
