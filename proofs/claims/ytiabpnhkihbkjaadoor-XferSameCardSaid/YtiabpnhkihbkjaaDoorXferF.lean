/- Masks of a transfer's flags. No program in sight. -/
import Derived.Test.YtiabpnhkihbkjaaDoorFlags
namespace Go.Proofs.YtiabpnhkihbkjaaDoor
open Go.RowKit

theorem and_low (n M K : Nat) (h : M < 2 ^ K) : n &&& M = (n % 2 ^ K) &&& M := by
  have h1 : (n &&& M) % 2 ^ K = (n % 2 ^ K) &&& (M % 2 ^ K) := Nat.and_mod_two_pow
  have h2 : n &&& M ≤ M := Nat.and_le_right
  have h3 : (n &&& M) % 2 ^ K = n &&& M := Nat.mod_eq_of_lt (by omega)
  have h4 : M % 2 ^ K = M := Nat.mod_eq_of_lt h
  rw [← h3, h1, h4]
theorem mask2 (n : Nat) : n &&& 2 = 2 * (n / 2 % 2) := by
  have hk : ∀ m < 4, m &&& 2 = 2 * (m / 2 % 2) := by decide
  rw [and_low n 2 2 (by decide), hk _ (Nat.mod_lt _ (by decide))]
  omega
theorem mask4 (n : Nat) : n &&& 4 = 4 * (n / 4 % 2) := by
  have hk : ∀ m < 8, m &&& 4 = 4 * (m / 4 % 2) := by decide
  rw [and_low n 4 3 (by decide), hk _ (Nat.mod_lt _ (by decide))]
  omega
theorem mask8 (n : Nat) : n &&& 8 = 8 * (n / 8 % 2) := by
  have hk : ∀ m < 16, m &&& 8 = 8 * (m / 8 % 2) := by decide
  rw [and_low n 8 4 (by decide), hk _ (Nat.mod_lt _ (by decide))]
  omega
theorem mask16 (n : Nat) : n &&& 16 = 16 * (n / 16 % 2) := by
  have hk : ∀ m < 32, m &&& 16 = 16 * (m / 16 % 2) := by decide
  rw [and_low n 16 5 (by decide), hk _ (Nat.mod_lt _ (by decide))]
  omega
theorem mask32 (n : Nat) : n &&& 32 = 32 * (n / 32 % 2) := by
  have hk : ∀ m < 64, m &&& 32 = 32 * (m / 32 % 2) := by decide
  rw [and_low n 32 6 (by decide), hk _ (Nat.mod_lt _ (by decide))]
  omega
theorem mask12 (n : Nat) : n &&& 12 = 4 * (n / 4 % 4) := by
  have hk : ∀ m < 16, m &&& 12 = 4 * (m / 4 % 4) := by decide
  rw [and_low n 12 4 (by decide), hk _ (Nat.mod_lt _ (by decide))]
  omega
theorem mask48 (n : Nat) : n &&& 48 = 16 * (n / 16 % 4) := by
  have hk : ∀ m < 64, m &&& 48 = 16 * (m / 16 % 4) := by decide
  rw [and_low n 48 6 (by decide), hk _ (Nat.mod_lt _ (by decide))]
  omega
theorem bitne2 {f : Int} (h : 0 ≤ f ∧ f ≤ 9223372036854775807) : (bits .and .i64 f 2 != 0) = (f / 2 % 2 == 1) := by
  rw [and_i64 h (by omega), show (2 : Int).toNat = 2 from rfl, mask2, Bool.eq_iff_iff, bne_iff_ne, beq_iff_eq]
  omega
theorem bitne4 {f : Int} (h : 0 ≤ f ∧ f ≤ 9223372036854775807) : (bits .and .i64 f 4 != 0) = (f / 4 % 2 == 1) := by
  rw [and_i64 h (by omega), show (4 : Int).toNat = 4 from rfl, mask4, Bool.eq_iff_iff, bne_iff_ne, beq_iff_eq]
  omega
theorem bitne8 {f : Int} (h : 0 ≤ f ∧ f ≤ 9223372036854775807) : (bits .and .i64 f 8 != 0) = (f / 8 % 2 == 1) := by
  rw [and_i64 h (by omega), show (8 : Int).toNat = 8 from rfl, mask8, Bool.eq_iff_iff, bne_iff_ne, beq_iff_eq]
  omega
theorem bitne16 {f : Int} (h : 0 ≤ f ∧ f ≤ 9223372036854775807) : (bits .and .i64 f 16 != 0) = (f / 16 % 2 == 1) := by
  rw [and_i64 h (by omega), show (16 : Int).toNat = 16 from rfl, mask16, Bool.eq_iff_iff, bne_iff_ne, beq_iff_eq]
  omega
theorem bitne32 {f : Int} (h : 0 ≤ f ∧ f ≤ 9223372036854775807) : (bits .and .i64 f 32 != 0) = (f / 32 % 2 == 1) := by
  rw [and_i64 h (by omega), show (32 : Int).toNat = 32 from rfl, mask32, Bool.eq_iff_iff, bne_iff_ne, beq_iff_eq]
  omega
theorem bitne12 {f : Int} (h : 0 ≤ f ∧ f ≤ 9223372036854775807) : (bits .and .i64 f 12 != 0) = (f / 4 % 2 == 1 || f / 8 % 2 == 1) := by
  rw [and_i64 h (by omega), show (12 : Int).toNat = 12 from rfl, mask12, Bool.eq_iff_iff, bne_iff_ne, Bool.or_eq_true, beq_iff_eq, beq_iff_eq]
  omega
theorem bitne48 {f : Int} (h : 0 ≤ f ∧ f ≤ 9223372036854775807) : (bits .and .i64 f 48 != 0) = (f / 16 % 2 == 1 || f / 32 % 2 == 1) := by
  rw [and_i64 h (by omega), show (48 : Int).toNat = 48 from rfl, mask48, Bool.eq_iff_iff, bne_iff_ne, Bool.or_eq_true, beq_iff_eq, beq_iff_eq]
  omega
set_option maxRecDepth 20000 in
theorem mask240 : ∀ m < 256, m &&& 240 = 16 * (m / 16) := by decide
set_option maxRecDepth 20000 in
theorem mask192 : ∀ m < 256, m &&& 192 = 64 * (m / 64) := by decide
theorem bitne240 {f : Int} (h : 0 ≤ f ∧ f ≤ 255) : (bits .and .i64 f 240 != 0) = decide (16 ≤ f) := by
  rw [and_i64 (by omega) (by omega), show (240 : Int).toNat = 240 from rfl, mask240 _ (by omega), Bool.eq_iff_iff, bne_iff_ne, decide_eq_true_eq]
  omega
theorem biteq192 {f : Int} (h : 0 ≤ f ∧ f ≤ 255) : (bits .and .i64 f 192 == 0) = decide (f < 64) := by
  rw [and_i64 (by omega) (by omega), show (192 : Int).toNat = 192 from rfl, mask192 _ (by omega), Bool.eq_iff_iff, beq_iff_eq, decide_eq_true_eq]
  omega
theorem nat_andNot1 {f : Int} (h : 0 ≤ f ∧ f ≤ 9223372036854775807) : bits .andNot .i64 f 1 = f / 2 * 2 := by
  have hx : BitVec.ofInt 64 f &&& ~~~ BitVec.ofInt 64 1 = (BitVec.ofInt 64 f >>> 1) <<< 1 := by
    apply BitVec.eq_of_getLsbD_eq
    intro i hi
    have h7 : ∀ i < 64, (BitVec.ofInt 64 1).getLsbD i = decide (i < 1) := by decide
    rw [BitVec.getLsbD_and, BitVec.getLsbD_not, h7 i hi, BitVec.getLsbD_shiftLeft, BitVec.getLsbD_ushiftRight]
    by_cases h3 : i < 1
    · simp [h3]
    · simp [h3, hi, show 1 + (i - 1) = i by omega]
  have hn : (BitVec.ofInt 64 f &&& ~~~ BitVec.ofInt 64 1).toNat = (BitVec.ofInt 64 f).toNat / 2 * 2 := by
    rw [hx, BitVec.toNat_shiftLeft, BitVec.toNat_ushiftRight, Nat.shiftLeft_eq, Nat.shiftRight_eq_div_pow]
    have := (BitVec.ofInt 64 f).isLt
    exact Nat.mod_eq_of_lt (by omega)
  have e : bits .andNot .i64 f 1 = IntKind.i64.wrap (((BitVec.ofInt 64 f &&& ~~~ BitVec.ofInt 64 1).toNat : Nat) : Int) := rfl
  have h1 := toNat_ofInt64 f
  rw [e, hn, IntWalk.i64_in _ (by omega)]
  omega
theorem or1_half {f : Int} (h : 0 ≤ f ∧ f ≤ 9223372036854775807) : bits .or .i64 f 1 / 2 = f / 2 ∧ 0 ≤ bits .or .i64 f 1 ∧ bits .or .i64 f 1 ≤ 9223372036854775807 := by
  have h1 : f.toNat ||| 1 < 2 ^ 63 := Nat.or_lt_two_pow (by omega) (by decide)
  have h2 : (f.toNat ||| 1) / 2 = f.toNat / 2 := by
    have := Nat.or_div_two (a := f.toNat) (b := 1)
    simpa using this
  rw [or_i64n h (by omega), show (1 : Int).toNat = 1 from rfl]
  omega
theorem xor1_half {f : Int} (h : 0 ≤ f ∧ f ≤ 9223372036854775807) : bits .xor .i64 f 1 / 2 = f / 2 ∧ 0 ≤ bits .xor .i64 f 1 ∧ bits .xor .i64 f 1 ≤ 9223372036854775807 := by
  have h1 : f.toNat ^^^ 1 < 2 ^ 63 := Nat.xor_lt_two_pow (by omega) (by decide)
  have h2 : (f.toNat ^^^ 1) / 2 = f.toNat / 2 := by
    have := Nat.xor_div_two (a := f.toNat) (b := 1)
    simpa using this
  rw [xor_i64 h (by omega), show (1 : Int).toNat = 1 from rfl]
  omega
end Go.Proofs.YtiabpnhkihbkjaaDoor
