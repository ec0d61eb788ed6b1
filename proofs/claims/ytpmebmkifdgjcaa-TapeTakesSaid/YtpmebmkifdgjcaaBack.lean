/- Bytes out of the number of bytes. -/
import Derived.Test.YtpmebmkifdgjcaaPlain3
namespace Go.Proofs.Ytpmebmkifdgjcaa
open Go.RowKit
theorem bytesOf_le : ∀ (m : List Int), Bytes m → bytesOf (le m) m.length = m
  | [], _ => rfl
  | c :: r, h => by
    have hc := h c (List.mem_cons_self ..)
    have ih := bytesOf_le r (fun x hx => h x (List.mem_cons_of_mem _ hx))
    have e0 : byteAt (le (c :: r)) 0 = c := by simp [byteAt, le]; omega
    have e1 : ∀ i, byteAt (le (c :: r)) (i + 1) = byteAt (le r) i := fun i => by
      unfold byteAt
      have e : le (c :: r) / 256 = le r := by simp [le]; omega
      rw [show 8 * (i + 1) = 8 + 8 * i by omega, Int.pow_add, ← Int.ediv_ediv_of_nonneg (by decide : (0 : Int) ≤ 2 ^ 8), show (2 : Int) ^ 8 = 256 from rfl, e]
    rw [List.length_cons, bytesOf, List.range_succ_eq_map, List.map_cons, List.map_map, e0]
    refine congrArg (c :: ·) (Eq.trans ?_ ih)
    rw [bytesOf]
    exact List.map_congr_left fun i _ => e1 i
end Go.Proofs.Ytpmebmkifdgjcaa
