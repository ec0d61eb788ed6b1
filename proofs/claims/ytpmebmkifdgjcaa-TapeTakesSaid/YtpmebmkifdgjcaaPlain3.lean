/- Bytes of numbers, taken back; bytes of items. No program in sight. -/
import Derived.Test.YtpmebmkifdgjcaaItem
namespace Go.Proofs.Ytpmebmkifdgjcaa
open Go.RowKit

theorem le_bytesOf (n : Int) (k : Nat) : le (bytesOf n k) = n % 2 ^ (8 * k) := by
  induction k with
  | zero => simp [bytesOf, le]
  | succ k ih =>
    rw [bytesOf_succ, le_snoc, ih, blen]
    unfold byteAt
    have e : (2 : Int) ^ (8 * (k + 1)) = 2 ^ (8 * k) * 256 := by rw [show 8 * (k + 1) = 8 * k + 8 by omega, Int.pow_add]; rfl
    rw [e]
    have hp : (0 : Int) < 2 ^ (8 * k) := Int.pow_pos (by decide)
    generalize (2 : Int) ^ (8 * k) = P at *
    have h1 := Int.emod_add_mul_ediv n P
    have h2 := Int.emod_add_mul_ediv (n / P) 256
    have h3 := Int.emod_nonneg n (Int.ne_of_gt hp)
    have h4 := Int.emod_lt_of_pos n hp
    have h5 : 0 ≤ n / P % 256 ∧ n / P % 256 < 256 := by omega
    generalize n / P / 256 = q at *
    generalize n / P % 256 = r at *
    generalize n % P = s at *
    have e1 : n = s + r * P + P * 256 * q := by
      rw [← h1, ← h2, Int.mul_add, Int.mul_comm P r, ← Int.mul_assoc]
      omega
    have h6 : r * P ≤ 255 * P := Int.mul_le_mul_of_nonneg_right (by omega) (by omega)
    have h7 : 0 ≤ r * P := Int.mul_nonneg h5.1 (by omega)
    rw [e1, Int.add_mul_emod_self_left, Int.emod_eq_of_lt (by omega) (by omega)]

theorem bytesOf_bytes (n : Int) (k : Nat) : Bytes (bytesOf n k) := by
  intro x hx
  obtain ⟨i, _, rfl⟩ := List.mem_map.1 hx
  exact byteAt_bd n i
theorem It.bytes_ok {x : It} (h : x.ok) : Bytes x.bytes := by
  unfold It.bytes
  split
  · exact bytesOf_bytes _ _
  · split
    · exact wideBytes_bd _ _
    · split
      · intro y hy
        simp only [List.mem_cons, List.not_mem_nil, or_false] at hy
        subst hy
        split <;> omega
      · split
        · exact h.text
        · exact Bytes.nil
theorem allBytes_ok {l : List It} (h : ∀ x ∈ l, x.ok) : Bytes (allBytes l) := by
  intro y hy
  obtain ⟨x, hx, hy⟩ := List.mem_flatMap.1 hy
  exact (It.bytes_ok (h x hx)) y hy
theorem allBytes_drop {l : List It} {k : Nat} (h : k < l.length) : allBytes (l.drop k) = l[k].bytes ++ allBytes (l.drop (k + 1)) := by
  rw [List.drop_eq_getElem_cons h]
  simp only [allBytes, List.flatMap_cons]
theorem wide_hi {hi lo : Int} (r : List Int) (h0 : 0 ≤ hi) (h1 : hi < 18446744073709551616) : le (((wideBytes hi lo ++ r).drop 8).take 8) = hi := by
  have e : ((wideBytes hi lo ++ r).drop 8).take 8 = bytesOf hi 8 := by
    unfold wideBytes
    rw [List.append_assoc, List.drop_append_of_le_length (by rw [blen]; omega), List.drop_of_length_le (by rw [blen]; omega), List.nil_append, List.take_append_of_le_length (by rw [blen]; omega), List.take_of_length_le (by rw [blen]; omega)]
  rw [e, le_bytesOf]
  simp
  omega
theorem wide_lo {hi lo : Int} (r : List Int) (h0 : 0 ≤ lo) (h1 : lo < 18446744073709551616) : le ((wideBytes hi lo ++ r).take 8) = lo := by
  have e : (wideBytes hi lo ++ r).take 8 = bytesOf lo 8 := by
    unfold wideBytes
    rw [List.append_assoc, List.take_append_of_le_length (by rw [blen]; omega), List.take_of_length_le (by rw [blen]; omega)]
  rw [e, le_bytesOf]
  simp
  omega
theorem wide_drop {hi lo : Int} (r : List Int) : (wideBytes hi lo ++ r).drop 16 = r := by
  have := wideBytes_len hi lo
  rw [List.drop_append_of_le_length (by omega), List.drop_of_length_le (by omega), List.nil_append]
theorem take_app {a r : List Int} {n : Nat} (h : a.length = n) : (a ++ r).take n = a := by
  subst h
  simp
theorem drop_app {a r : List Int} {n : Nat} (h : a.length = n) : (a ++ r).drop n = r := by
  subst h
  simp
end Go.Proofs.Ytpmebmkifdgjcaa
