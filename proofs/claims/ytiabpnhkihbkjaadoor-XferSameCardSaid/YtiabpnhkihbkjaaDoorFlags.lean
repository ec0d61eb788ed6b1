/- Masks of numbers of 64 bits. No program in sight. -/
import Derived.Test.YtiabpnhkihbkjaaDoorBits
namespace Go.Proofs.YtiabpnhkihbkjaaDoor
open Go.RowKit

theorem ofInt64_nat {a : Int} (h : 0 ≤ a ∧ a ≤ 9223372036854775807) : (BitVec.ofInt 64 a).toNat = a.toNat := by
  have := toNat_ofInt64 a
  omega
theorem and_i64 {a b : Int} (ha : 0 ≤ a ∧ a ≤ 9223372036854775807) (hb : 0 ≤ b ∧ b ≤ 9223372036854775807) : bits .and .i64 a b = ((a.toNat &&& b.toNat : Nat) : Int) := by
  show IntKind.i64.wrap _ = _
  have e : (BitVec.ofInt IntKind.i64.bits a &&& BitVec.ofInt IntKind.i64.bits b).toNat = a.toNat &&& b.toNat := by
    show (BitVec.ofInt 64 a &&& BitVec.ofInt 64 b).toNat = _
    rw [BitVec.toNat_and, ofInt64_nat ha, ofInt64_nat hb]
  have h1 : a.toNat &&& b.toNat ≤ a.toNat := Nat.and_le_left
  show IntKind.i64.wrap (((BitVec.ofInt IntKind.i64.bits a &&& BitVec.ofInt IntKind.i64.bits b).toNat : Nat) : Int) = _
  rw [e]
  exact IntWalk.i64_in _ (by omega)
theorem or_i64n {a b : Int} (ha : 0 ≤ a ∧ a ≤ 9223372036854775807) (hb : 0 ≤ b ∧ b ≤ 9223372036854775807) : bits .or .i64 a b = ((a.toNat ||| b.toNat : Nat) : Int) := by
  have e : (BitVec.ofInt IntKind.i64.bits a ||| BitVec.ofInt IntKind.i64.bits b).toNat = a.toNat ||| b.toNat := by
    show (BitVec.ofInt 64 a ||| BitVec.ofInt 64 b).toNat = _
    rw [BitVec.toNat_or, ofInt64_nat ha, ofInt64_nat hb]
  have h1 : a.toNat ||| b.toNat < 2 ^ 63 := Nat.or_lt_two_pow (by omega) (by omega)
  show IntKind.i64.wrap (((BitVec.ofInt IntKind.i64.bits a ||| BitVec.ofInt IntKind.i64.bits b).toNat : Nat) : Int) = _
  rw [e]
  exact IntWalk.i64_in _ (by omega)
theorem xor_i64 {a b : Int} (ha : 0 ≤ a ∧ a ≤ 9223372036854775807) (hb : 0 ≤ b ∧ b ≤ 9223372036854775807) : bits .xor .i64 a b = ((a.toNat ^^^ b.toNat : Nat) : Int) := by
  have e : (BitVec.ofInt IntKind.i64.bits a ^^^ BitVec.ofInt IntKind.i64.bits b).toNat = a.toNat ^^^ b.toNat := by
    show (BitVec.ofInt 64 a ^^^ BitVec.ofInt 64 b).toNat = _
    rw [BitVec.toNat_xor, ofInt64_nat ha, ofInt64_nat hb]
  have h1 : a.toNat ^^^ b.toNat < 2 ^ 63 := Nat.xor_lt_two_pow (by omega) (by omega)
  show IntKind.i64.wrap (((BitVec.ofInt IntKind.i64.bits a ^^^ BitVec.ofInt IntKind.i64.bits b).toNat : Nat) : Int) = _
  rw [e]
  exact IntWalk.i64_in _ (by omega)

theorem and6 (n : Nat) : n &&& 6 = 2 * (n / 2 % 4) := by
  have h : n &&& 6 = (n % 8) &&& 6 := by
    have h1 : (n &&& 6) % 2 ^ 3 = (n % 2 ^ 3) &&& (6 % 2 ^ 3) := Nat.and_mod_two_pow
    have h2 : n &&& 6 ≤ 6 := Nat.and_le_right
    have h3 : (n &&& 6) % 2 ^ 3 = n &&& 6 := Nat.mod_eq_of_lt (by omega)
    rw [← h3, h1]
  have hm : n % 8 < 8 := Nat.mod_lt _ (by decide)
  have hk : ∀ m < 8, m &&& 6 = 2 * (m / 2 % 4) := by decide
  rw [h, hk _ hm]
  omega
theorem or8_and6 (n : Nat) : (n ||| 8) &&& 6 = n &&& 6 := by
  rw [Nat.and_or_distrib_right]
  simp
theorem xor1_and6 (n : Nat) : (n ^^^ 1) &&& 6 = n &&& 6 := by
  rw [Nat.and_xor_distrib_right]
  simp
theorem flags_same {f g : Int} (hf : 0 ≤ f ∧ f ≤ 9223372036854775807) (hg : 0 ≤ g ∧ g ≤ 9223372036854775807) : (bits .and .i64 f 6 == bits .and .i64 g 6) = (f / 2 % 4 == g / 2 % 4) := by
  rw [and_i64 hf (by omega), and_i64 hg (by omega), show (6 : Int).toNat = 6 from rfl, and6, and6, Bool.eq_iff_iff, beq_iff_eq, beq_iff_eq]
  omega
theorem flags_or8 {f : Int} (hf : 0 ≤ f ∧ f ≤ 9223372036854775807) : (bits .and .i64 f 6 == bits .and .i64 (bits .or .i64 f 8) 6) = true := by
  have h1 : f.toNat ||| Int.toNat 8 < 2 ^ 63 := Nat.or_lt_two_pow (by omega) (by decide)
  rw [or_i64n hf (by omega), and_i64 hf (by omega), and_i64 (by omega) (by omega), beq_iff_eq]
  have := or8_and6 f.toNat
  simp only [Int.toNat_natCast, show (6 : Int).toNat = 6 from rfl, show (8 : Int).toNat = 8 from rfl]
  rw [this]
theorem flags_xor1 {f : Int} (hf : 0 ≤ f ∧ f ≤ 9223372036854775807) : bits .and .i64 (bits .xor .i64 f 1) 6 = bits .and .i64 f 6 := by
  have h1 : f.toNat ^^^ Int.toNat 1 < 2 ^ 63 := Nat.xor_lt_two_pow (by omega) (by decide)
  rw [xor_i64 hf (by omega), and_i64 hf (by omega), and_i64 (by omega) (by omega)]
  have := xor1_and6 f.toNat
  simp only [Int.toNat_natCast, show (6 : Int).toNat = 6 from rfl, show (1 : Int).toNat = 1 from rfl]
  rw [this]
theorem andNot7 {f : Int} (h : -9223372036854775808 ≤ f ∧ f ≤ 9223372036854775807) : (bits .andNot .i64 f 7 != 0) = decide (f < 0 ∨ 7 < f) := by
  have hx : BitVec.ofInt 64 f &&& ~~~ BitVec.ofInt 64 7 = (BitVec.ofInt 64 f >>> 3) <<< 3 := by
    apply BitVec.eq_of_getLsbD_eq
    intro i hi
    have h7 : ∀ i < 64, (BitVec.ofInt 64 7).getLsbD i = decide (i < 3) := by decide
    rw [BitVec.getLsbD_and, BitVec.getLsbD_not, h7 i hi, BitVec.getLsbD_shiftLeft, BitVec.getLsbD_ushiftRight]
    by_cases h3 : i < 3
    · simp [h3]
    · simp [h3, hi, show 3 + (i - 3) = i by omega]
  have hn : (BitVec.ofInt 64 f &&& ~~~ BitVec.ofInt 64 7).toNat = (BitVec.ofInt 64 f).toNat / 8 * 8 := by
    rw [hx, BitVec.toNat_shiftLeft, BitVec.toNat_ushiftRight, Nat.shiftLeft_eq, Nat.shiftRight_eq_div_pow]
    have := (BitVec.ofInt 64 f).isLt
    exact Nat.mod_eq_of_lt (by omega)
  have e : bits .andNot .i64 f 7 = IntKind.i64.wrap (((BitVec.ofInt 64 f &&& ~~~ BitVec.ofInt 64 7).toNat : Nat) : Int) := rfl
  rw [e, hn, IntKind.wrap_i64]
  have h1 := toNat_ofInt64 f
  by_cases hc : f < 0 ∨ 7 < f
  · rw [decide_eq_true hc]
    simp
    omega
  · rw [decide_eq_false hc]
    simp
    omega
end Go.Proofs.YtiabpnhkihbkjaaDoor
