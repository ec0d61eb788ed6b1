/- Bytes and numbers: or of what doesn't overlap; bytes as a number. No program in sight. -/
import Derived.WalkKit
set_option linter.unusedSimpArgs false
set_option linter.unusedVariables false
namespace Go.Proofs.YtjchjpmgbmeohaaDoor
open Go.RowKit

theorem toNat_ofInt64 (z : Int) : ((BitVec.ofInt 64 z).toNat : Int) = z % 18446744073709551616 := by
  rw [BitVec.toNat_ofInt]
  have := Int.emod_nonneg z (show (18446744073709551616 : Int) ≠ 0 by decide)
  simp
  omega
theorem wrap64_mod (z : Int) : wrap64 z % 18446744073709551616 = z % 18446744073709551616 := by unfold wrap64; omega

theorem pow8_le {k : Nat} (hk : k < 8) : (2 : Nat) ^ (8 * k) * 256 ≤ 2 ^ 64 := by
  have : (2 : Nat) ^ (8 * k) * 256 = 2 ^ (8 * k + 8) := by rw [Nat.pow_add]
  rw [this]
  exact Nat.pow_le_pow_right (by decide) (by omega)

theorem or_nat {x c k : Nat} (hx : x < 2 ^ (8 * k)) : x ||| (c * 2 ^ (8 * k)) = x + c * 2 ^ (8 * k) := by
  have := Nat.two_pow_add_eq_or_of_lt hx c
  rw [Nat.mul_comm c, Nat.add_comm, this, Nat.or_comm]

/-- The toNat of the or of two numbers that don't overlap. -/
theorem or_bv {x c : Int} {k : Nat} (hk : k < 8) (hx0 : 0 ≤ x) (hx : x < 2 ^ (8 * k)) (hc0 : 0 ≤ c) (hc : c < 256) (a b : Int) (ha : a % 18446744073709551616 = x % 18446744073709551616) (hb : b % 18446744073709551616 = (c * 2 ^ (8 * k)) % 18446744073709551616) :
    ((BitVec.ofInt 64 a ||| BitVec.ofInt 64 b).toNat : Int) = x + c * 2 ^ (8 * k) := by
  obtain ⟨X, rfl⟩ := Int.eq_ofNat_of_zero_le hx0
  obtain ⟨C, rfl⟩ := Int.eq_ofNat_of_zero_le hc0
  have hX : X < 2 ^ (8 * k) := by exact_mod_cast hx
  have hC : C < 256 := by omega
  have hp := pow8_le hk
  have h2 : C * 2 ^ (8 * k) ≤ 255 * 2 ^ (8 * k) := Nat.mul_le_mul_right _ (by omega)
  have hXl : X < 18446744073709551616 := by omega
  have hCl : C * 2 ^ (8 * k) < 18446744073709551616 := by omega
  have e1 : (BitVec.ofInt 64 a).toNat = X := by
    have := toNat_ofInt64 a
    rw [ha] at this; omega
  have e2 : (BitVec.ofInt 64 b).toNat = C * 2 ^ (8 * k) := by
    have := toNat_ofInt64 b
    rw [hb] at this
    have e : ((C : Int) * 2 ^ (8 * k)) = ((C * 2 ^ (8 * k) : Nat) : Int) := by simp
    rw [e] at this; omega
  rw [BitVec.toNat_or, e1, e2, or_nat hX]
  simp

theorem or_i64 {x c : Int} {k : Nat} (hk : k < 8) (hx0 : 0 ≤ x) (hx : x < 2 ^ (8 * k)) (hc0 : 0 ≤ c) (hc : c < 256) :
    bits .or .i64 (wrap64 x) (wrap64 (c * 2 ^ (8 * k))) = wrap64 (x + c * 2 ^ (8 * k)) := by
  show IntKind.i64.wrap _ = _
  have h := or_bv hk hx0 hx hc0 hc _ _ (wrap64_mod x) (wrap64_mod (c * 2 ^ (8 * k)))
  have e : ((BitVec.ofInt IntKind.i64.bits (wrap64 x) ||| BitVec.ofInt IntKind.i64.bits (wrap64 (c * 2 ^ (8 * k)))).toNat : Int) = x + c * 2 ^ (8 * k) := h
  rw [IntKind.wrap_i64, e]
  simp only [wrap64]

theorem or_u64 {x c : Int} {k : Nat} (hk : k < 8) (hx0 : 0 ≤ x) (hx : x < 2 ^ (8 * k)) (hc0 : 0 ≤ c) (hc : c < 256) :
    bits .or .u64 x (c * 2 ^ (8 * k)) = x + c * 2 ^ (8 * k) := by
  show IntKind.u64.wrap _ = _
  have h := or_bv hk hx0 hx hc0 hc x (c * 2 ^ (8 * k)) rfl rfl
  have e : ((BitVec.ofInt IntKind.u64.bits x ||| BitVec.ofInt IntKind.u64.bits (c * 2 ^ (8 * k))).toNat : Int) = x + c * 2 ^ (8 * k) := h
  rw [IntKind.wrap_u64, e]
  have hp := pow8_le hk
  have ep : ((2 ^ (8 * k) : Nat) : Int) = (2 : Int) ^ (8 * k) := by rw [Int.natCast_pow]; rfl
  have h0 : (2 : Int) ^ (8 * k) * 256 ≤ 18446744073709551616 := by rw [← ep]; omega
  have h00 : 0 ≤ (2 : Int) ^ (8 * k) := by rw [← ep]; omega
  have h3 : c * 2 ^ (8 * k) ≤ 255 * 2 ^ (8 * k) := Int.mul_le_mul_of_nonneg_right (by omega) h00
  have h4 : 0 ≤ c * 2 ^ (8 * k) := Int.mul_nonneg hc0 h00
  omega

/-- Numbers that are bytes. -/
def Bytes (l : List Int) : Prop := ∀ x ∈ l, 0 ≤ x ∧ x < 256
theorem Bytes.take {l : List Int} (h : Bytes l) (n : Nat) : Bytes (l.take n) := fun x hx => h x (List.mem_of_mem_take hx)
theorem Bytes.drop {l : List Int} (h : Bytes l) (n : Nat) : Bytes (l.drop n) := fun x hx => h x (List.mem_of_mem_drop hx)
theorem Bytes.append {l m : List Int} (h : Bytes l) (k : Bytes m) : Bytes (l ++ m) := fun x hx => (List.mem_append.1 hx).elim (h x) (k x)
theorem Bytes.nil : Bytes [] := fun _ h => by cases h
theorem Bytes.cons {c : Int} {l : List Int} (hc : 0 ≤ c ∧ c < 256) (h : Bytes l) : Bytes (c :: l) := fun x hx => by
  rcases List.mem_cons.1 hx with rfl | h2
  · exact hc
  · exact h x h2

/-- Bytes as a number, the lowest first. -/
def le : List Int → Int
  | [] => 0
  | c :: r => c + 256 * le r
theorem le_snoc (l : List Int) (c : Int) : le (l ++ [c]) = le l + c * 2 ^ (8 * l.length) := by
  induction l with
  | nil => simp [le]
  | cons a r ih =>
    simp only [List.cons_append, le, ih, List.length_cons]
    have e : (2 : Int) ^ (8 * (r.length + 1)) = 256 * 2 ^ (8 * r.length) := by
      rw [show 8 * (r.length + 1) = 8 + 8 * r.length by omega, Int.pow_add]; rfl
    rw [e, Int.mul_add, Int.add_assoc, ← Int.mul_assoc, ← Int.mul_assoc, Int.mul_comm c 256]
theorem le_bd {l : List Int} (h : Bytes l) : 0 ≤ le l ∧ le l < 2 ^ (8 * l.length) := by
  induction l with
  | nil => simp [le]
  | cons a r ih =>
    have h1 := h a (List.mem_cons_self ..)
    have h2 := ih (fun x hx => h x (List.mem_cons_of_mem _ hx))
    have e : (2 : Int) ^ (8 * (r.length + 1)) = 256 * 2 ^ (8 * r.length) := by
      rw [show 8 * (r.length + 1) = 8 + 8 * r.length by omega, Int.pow_add]; rfl
    simp only [le, List.length_cons, e]
    omega
theorem take_snoc {l : List Int} {k : Nat} (h : k < l.length) : l.take (k + 1) = l.take k ++ [l[k]] := by
  rw [List.take_succ_eq_append_getElem h]
/-- One more byte. -/
theorem le_take_succ {l : List Int} {k : Nat} (h : k < l.length) : le (l.take (k + 1)) = le (l.take k) + l[k] * 2 ^ (8 * k) := by
  rw [take_snoc h, le_snoc]
  simp [Nat.min_eq_left (Nat.le_of_lt h)]
theorem wrap_u64_shift {c : Int} {k : Nat} (hk : k < 8) (hc0 : 0 ≤ c) (hc : c < 256) : IntKind.u64.wrap (c * 2 ^ (8 * k)) = c * 2 ^ (8 * k) := by
  have hp := pow8_le hk
  have ep : ((2 ^ (8 * k) : Nat) : Int) = (2 : Int) ^ (8 * k) := by rw [Int.natCast_pow]; rfl
  have h0 : (2 : Int) ^ (8 * k) * 256 ≤ 18446744073709551616 := by rw [← ep]; omega
  have h00 : 0 ≤ (2 : Int) ^ (8 * k) := by rw [← ep]; omega
  have h3 : c * 2 ^ (8 * k) ≤ 255 * 2 ^ (8 * k) := Int.mul_le_mul_of_nonneg_right (by omega) h00
  have h4 : 0 ≤ c * 2 ^ (8 * k) := Int.mul_nonneg hc0 h00
  rw [IntKind.wrap_u64]
  omega
/-- One more byte, as the program puts it on. -/
theorem or_u64_take {l : List Int} (hB : Bytes l) {k : Nat} (hk : k < 8) (h : k < l.length) : bits .or .u64 (le (l.take k)) (IntKind.u64.wrap (l[k] * 2 ^ (8 * k))) = le (l.take (k + 1)) := by
  have hb := le_bd (hB.take k)
  have hc := hB l[k] (List.getElem_mem h)
  rw [List.length_take, Nat.min_eq_left (Nat.le_of_lt h)] at hb
  rw [wrap_u64_shift hk hc.1 hc.2, or_u64 hk hb.1 hb.2 hc.1 hc.2, ← le_take_succ h]
end Go.Proofs.YtjchjpmgbmeohaaDoor
