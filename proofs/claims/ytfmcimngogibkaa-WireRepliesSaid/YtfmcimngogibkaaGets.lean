/- What a reader takes, whether it is torn or not: one word for both. -/
import Derived.Test.YtfmcimngogibkaaTapeX
set_option linter.unusedSimpArgs false
set_option linter.unusedVariables false
namespace Go.Proofs.Ytfmcimngogibkaa
open Go.RowKit

/-- What is left, and whether it is torn, behind taking n bytes. -/
def rdS (s : List Int × Bool) (n : Nat) : List Int × Bool := if s.2 = true ∨ s.1.length < n then (s.1, true) else (s.1.drop n, false)
/-- The bytes that are taken; none, if they aren't there. -/
def rdV (s : List Int × Bool) (n : Nat) : List Int := if s.2 = true ∨ s.1.length < n then [] else s.1.take n
theorem rdS_bytes {s : List Int × Bool} (n : Nat) (h : Bytes s.1) : Bytes (rdS s n).1 := by
  unfold rdS
  split
  · exact h
  · exact h.drop n
theorem rdV_bytes {s : List Int × Bool} (n : Nat) (h : Bytes s.1) : Bytes (rdV s n) := by
  unfold rdV
  split
  · exact Bytes.nil
  · exact h.take n
theorem rdV_len {s : List Int × Bool} (n : Nat) : (rdV s n).length ≤ n := by
  unfold rdV
  split
  · exact Nat.zero_le _
  · rw [List.length_take]; omega
def numHi (v : List Int) : Int := le ((v.drop 8).take 8)
def numLo (v : List Int) : Int := le (v.take 8)

theorem rNum_tot (w : World) (g : Nat) (s : List Int × Bool) (h : IsR w g s.1 s.2) (hB : Bytes s.1) :
    Calls Try.prog 42 #[.pointer (some ⟨g, 0, none⟩)] w fun e w' => e = .returned (.agg #[.int .u64 (numHi (rdV s 16)), .int .u64 (numLo (rdV s 16))]) ∧ IsR w' g (rdS s 16).1 (rdS s 16).2 ∧ Fr (fun k => k = g) w w' := by
  unfold rdS rdV numHi numLo
  by_cases hn : s.2 = true ∨ s.1.length < 16
  · rw [if_pos hn, if_pos hn]
    exact rNum_no w g s.1 s.2 h hn
  · rw [if_neg hn, if_neg hn]
    obtain ⟨h1, h2⟩ := not_or.1 hn
    have e : s.2 = false := by simpa using h1
    rw [e] at h
    have := rNum_yes w g s.1 h hB (by omega)
    rw [List.drop_take, List.take_take, List.take_take]
    exact this
theorem rInt_tot (w : World) (g : Nat) (s : List Int × Bool) (n : Nat) (h : IsR w g s.1 s.2) (hB : Bytes s.1) (hn : 1 ≤ n ∧ n ≤ 8) :
    Calls Try.prog 37 #[.pointer (some ⟨g, 0, none⟩), .int .i64 n] w fun e w' => e = .returned (.int .i64 (wrap64 (le (rdV s n)))) ∧ IsR w' g (rdS s n).1 (rdS s n).2 ∧ Fr (fun k => k = g) w w' := by
  have hc : clampN n = n := by unfold clampN; omega
  unfold rdS rdV
  by_cases ht : s.2 = true ∨ s.1.length < n
  · rw [if_pos ht, if_pos ht]
    rw [show wrap64 (le []) = 0 by simp [le, wrap64]]
    exact rInt_no w g s.1 s.2 n h (by rwa [hc])
  · rw [if_neg ht, if_neg ht]
    obtain ⟨h1, h2⟩ := not_or.1 ht
    have e : s.2 = false := by simpa using h1
    rw [e] at h
    have := rInt_yes w g s.1 n h hB (by rw [hc]; omega)
    rwa [hc] at this

/-- Behind taking pieces, one by one. -/
def rdAll (s : List Int × Bool) : List Nat → List Int × Bool
  | [] => s
  | n :: ns => rdAll (rdS s n) ns
theorem rdS_torn {s : List Int × Bool} (n : Nat) (h : s.2 = true) : (rdS s n).2 = true := by simp [rdS, h]
theorem rdAll_torn : ∀ {s : List Int × Bool} (ns : List Nat), s.2 = true → (rdAll s ns).2 = true
  | _, [], h => h
  | _, n :: ns, h => rdAll_torn ns (rdS_torn n h)
/-- Nothing is torn just if there are enough bytes. -/
theorem rdAll_short : ∀ (l : List Int) (ns : List Nat), l.length < ns.sum → (rdAll (l, false) ns).2 = true
  | l, [], h => by simp at h
  | l, n :: ns, h => by
    rw [rdAll]
    by_cases hn : l.length < n
    · exact rdAll_torn ns (by simp [rdS, hn])
    · rw [show rdS (l, false) n = (l.drop n, false) by simp [rdS]; omega]
      refine rdAll_short _ ns ?_
      rw [List.sum_cons] at h
      rw [List.length_drop]
      omega
theorem rdS_good {l : List Int} {n : Nat} (h : n ≤ l.length) : rdS (l, false) n = (l.drop n, false) := by simp [rdS]; omega
theorem rdV_good {l : List Int} {n : Nat} (h : n ≤ l.length) : rdV (l, false) n = l.take n := by simp [rdV]; omega
/-- A number of 128 bits has its bytes. -/
theorem num_bytes {v : List Int} (h : Bytes v) (hl : v.length = 16) : wideBytes (numHi v) (numLo v) = v := by
  have e1 := bytesOf_le (v.take 8) (h.take 8)
  have e2 := bytesOf_le ((v.drop 8).take 8) ((h.drop 8).take 8)
  rw [List.length_take, Nat.min_eq_left (by omega)] at e1
  rw [List.length_take, List.length_drop, Nat.min_eq_left (by omega)] at e2
  unfold wideBytes numHi numLo
  rw [e1, e2, ← List.take_add, List.take_of_length_le (by omega)]
theorem num_ok {v : List Int} (h : Bytes v) : (0 ≤ numHi v ∧ numHi v < 18446744073709551616) ∧ 0 ≤ numLo v ∧ numLo v < 18446744073709551616 := by
  have b : ∀ m : List Int, Bytes m → m.length ≤ 8 → 0 ≤ le m ∧ le m < 18446744073709551616 := fun m hm h8 => by
    have h1 := le_bd hm
    have h2 : (2 : Int) ^ (8 * m.length) ≤ 2 ^ 64 := by
      have : (2 : Nat) ^ (8 * m.length) ≤ 2 ^ 64 := Nat.pow_le_pow_right (by decide) (by omega)
      exact_mod_cast this
    omega
  exact ⟨b _ ((h.drop 8).take 8) (by rw [List.length_take]; omega), b _ (h.take 8) (by rw [List.length_take]; omega)⟩
theorem byteAt_wrap {n : Int} {i : Nat} (h : i < 8) : byteAt (wrap64 n) i = byteAt n i := by
  have hw : (wrap64 n) % 18446744073709551616 = n % 18446744073709551616 := by unfold wrap64; omega
  rw [← byte_div (wrap64 n) h, ← byte_div n h, hw]
theorem bytesOf_wrap (n : Int) {k : Nat} (h : k ≤ 8) : bytesOf (wrap64 n) k = bytesOf n k := by
  unfold bytesOf
  exact List.map_congr_left fun i hi => byteAt_wrap (by have := List.mem_range.1 hi; omega)
/-- A number's bytes are those that it was read of. -/
theorem int_bytes {v : List Int} (h : Bytes v) (hl : v.length ≤ 8) : bytesOf (wrap64 (le v)) v.length = v := by
  rw [bytesOf_wrap _ hl, bytesOf_le v h]
end Go.Proofs.Ytfmcimngogibkaa
