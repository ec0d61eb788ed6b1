/- What is got of bytes; AcctTakes. -/
import Derived.Test.YtfmcimngogibkaaAcctH
import Derived.Deep.RegionHeld3
set_option linter.unusedSimpArgs false
set_option linter.unusedVariables false
namespace Go.Proofs.Ytfmcimngogibkaa
open Go.RowKit

theorem piece (l : List Int) (o k : Nat) : l.take (o + k) = l.take o ++ (l.drop o).take k := List.take_add
theorem Acc.left_short {l : List Int} (h : l.length < 96) : (Acc.left (l, false)).2 = true := rdAll_short l _ (by simpa using h)
theorem Acc.e0 {l : List Int} (h : 96 ≤ l.length) : rdS (l.drop 0, false) 16 = (l.drop 16, false) := by rw [rdS_good (by rw [List.length_drop]; omega), List.drop_drop]
theorem Acc.v0 {l : List Int} (h : 96 ≤ l.length) : rdV (l.drop 0, false) 16 = (l.drop 0).take 16 := rdV_good (by rw [List.length_drop]; omega)
theorem Acc.e1 {l : List Int} (h : 96 ≤ l.length) : rdS (l.drop 16, false) 16 = (l.drop 32, false) := by rw [rdS_good (by rw [List.length_drop]; omega), List.drop_drop]
theorem Acc.v1 {l : List Int} (h : 96 ≤ l.length) : rdV (l.drop 16, false) 16 = (l.drop 16).take 16 := rdV_good (by rw [List.length_drop]; omega)
theorem Acc.e2 {l : List Int} (h : 96 ≤ l.length) : rdS (l.drop 32, false) 16 = (l.drop 48, false) := by rw [rdS_good (by rw [List.length_drop]; omega), List.drop_drop]
theorem Acc.v2 {l : List Int} (h : 96 ≤ l.length) : rdV (l.drop 32, false) 16 = (l.drop 32).take 16 := rdV_good (by rw [List.length_drop]; omega)
theorem Acc.e3 {l : List Int} (h : 96 ≤ l.length) : rdS (l.drop 48, false) 16 = (l.drop 64, false) := by rw [rdS_good (by rw [List.length_drop]; omega), List.drop_drop]
theorem Acc.v3 {l : List Int} (h : 96 ≤ l.length) : rdV (l.drop 48, false) 16 = (l.drop 48).take 16 := rdV_good (by rw [List.length_drop]; omega)
theorem Acc.e4 {l : List Int} (h : 96 ≤ l.length) : rdS (l.drop 64, false) 16 = (l.drop 80, false) := by rw [rdS_good (by rw [List.length_drop]; omega), List.drop_drop]
theorem Acc.v4 {l : List Int} (h : 96 ≤ l.length) : rdV (l.drop 64, false) 16 = (l.drop 64).take 16 := rdV_good (by rw [List.length_drop]; omega)
theorem Acc.e5 {l : List Int} (h : 96 ≤ l.length) : rdS (l.drop 80, false) 4 = (l.drop 84, false) := by rw [rdS_good (by rw [List.length_drop]; omega), List.drop_drop]
theorem Acc.v5 {l : List Int} (h : 96 ≤ l.length) : rdV (l.drop 80, false) 4 = (l.drop 80).take 4 := rdV_good (by rw [List.length_drop]; omega)
theorem Acc.e6 {l : List Int} (h : 96 ≤ l.length) : rdS (l.drop 84, false) 2 = (l.drop 86, false) := by rw [rdS_good (by rw [List.length_drop]; omega), List.drop_drop]
theorem Acc.v6 {l : List Int} (h : 96 ≤ l.length) : rdV (l.drop 84, false) 2 = (l.drop 84).take 2 := rdV_good (by rw [List.length_drop]; omega)
theorem Acc.e7 {l : List Int} (h : 96 ≤ l.length) : rdS (l.drop 86, false) 2 = (l.drop 88, false) := by rw [rdS_good (by rw [List.length_drop]; omega), List.drop_drop]
theorem Acc.v7 {l : List Int} (h : 96 ≤ l.length) : rdV (l.drop 86, false) 2 = (l.drop 86).take 2 := rdV_good (by rw [List.length_drop]; omega)
theorem Acc.e8 {l : List Int} (h : 96 ≤ l.length) : rdS (l.drop 88, false) 8 = (l.drop 96, false) := by rw [rdS_good (by rw [List.length_drop]; omega), List.drop_drop]
theorem Acc.v8 {l : List Int} (h : 96 ≤ l.length) : rdV (l.drop 88, false) 8 = (l.drop 88).take 8 := rdV_good (by rw [List.length_drop]; omega)
theorem Acc.left_long {l : List Int} (h : 96 ≤ l.length) : Acc.left (l, false) = (l.drop 96, false) := by
  unfold Acc.left
  rw [show ((l, false) : List Int × Bool) = (l.drop 0, false) from rfl]
  simp only [rdAll, Acc.e0 h, Acc.e1 h, Acc.e2 h, Acc.e3 h, Acc.e4 h, Acc.e5 h, Acc.e6 h, Acc.e7 h, Acc.e8 h]
theorem Acc.got_long {l : List Int} (h : 96 ≤ l.length) : Acc.got (l, false) = ⟨⟨numHi ((l.drop 0).take 16), numLo ((l.drop 0).take 16)⟩, ⟨numHi ((l.drop 16).take 16), numLo ((l.drop 16).take 16)⟩, ⟨numHi ((l.drop 32).take 16), numLo ((l.drop 32).take 16)⟩, ⟨numHi ((l.drop 48).take 16), numLo ((l.drop 48).take 16)⟩, ⟨numHi ((l.drop 64).take 16), numLo ((l.drop 64).take 16)⟩, wrap64 (le ((l.drop 80).take 4)), wrap64 (le ((l.drop 84).take 2)), wrap64 (le ((l.drop 86).take 2)), wrap64 (le ((l.drop 88).take 8))⟩ := by
  unfold Acc.got
  rw [show ((l, false) : List Int × Bool) = (l.drop 0, false) from rfl]
  simp only [Acc.e0 h, Acc.e1 h, Acc.e2 h, Acc.e3 h, Acc.e4 h, Acc.e5 h, Acc.e6 h, Acc.e7 h, Acc.v0 h, Acc.v1 h, Acc.v2 h, Acc.v3 h, Acc.v4 h, Acc.v5 h, Acc.v6 h, Acc.v7 h, Acc.v8 h]
theorem Acc.got_bytes {l : List Int} (h : 96 ≤ l.length) (hB : Bytes l) : (Acc.got (l, false)).bytes = l.take 96 := by
  rw [Acc.got_long h, Acc.bytes]
  have b0 : Bytes ((l.drop 0).take 16) := (hB.drop 0).take 16
  have n0 : ((l.drop 0).take 16).length = 16 := by rw [List.length_take, List.length_drop]; omega
  have b1 : Bytes ((l.drop 16).take 16) := (hB.drop 16).take 16
  have n1 : ((l.drop 16).take 16).length = 16 := by rw [List.length_take, List.length_drop]; omega
  have b2 : Bytes ((l.drop 32).take 16) := (hB.drop 32).take 16
  have n2 : ((l.drop 32).take 16).length = 16 := by rw [List.length_take, List.length_drop]; omega
  have b3 : Bytes ((l.drop 48).take 16) := (hB.drop 48).take 16
  have n3 : ((l.drop 48).take 16).length = 16 := by rw [List.length_take, List.length_drop]; omega
  have b4 : Bytes ((l.drop 64).take 16) := (hB.drop 64).take 16
  have n4 : ((l.drop 64).take 16).length = 16 := by rw [List.length_take, List.length_drop]; omega
  have b5 : Bytes ((l.drop 80).take 4) := (hB.drop 80).take 4
  have n5 : ((l.drop 80).take 4).length = 4 := by rw [List.length_take, List.length_drop]; omega
  have b6 : Bytes ((l.drop 84).take 2) := (hB.drop 84).take 2
  have n6 : ((l.drop 84).take 2).length = 2 := by rw [List.length_take, List.length_drop]; omega
  have b7 : Bytes ((l.drop 86).take 2) := (hB.drop 86).take 2
  have n7 : ((l.drop 86).take 2).length = 2 := by rw [List.length_take, List.length_drop]; omega
  have b8 : Bytes ((l.drop 88).take 8) := (hB.drop 88).take 8
  have n8 : ((l.drop 88).take 8).length = 8 := by rw [List.length_take, List.length_drop]; omega
  rw [num_bytes b0 n0]
  rw [num_bytes b1 n1]
  rw [num_bytes b2 n2]
  rw [num_bytes b3 n3]
  rw [num_bytes b4 n4]
  have i5 := int_bytes b5 (by omega)
  rw [n5] at i5
  rw [i5]
  have i6 := int_bytes b6 (by omega)
  rw [n6] at i6
  rw [i6]
  have i7 := int_bytes b7 (by omega)
  rw [n7] at i7
  rw [i7]
  have i8 := int_bytes b8 (by omega)
  rw [n8] at i8
  rw [i8]
  rw [show l.take 96 = l.take 88 ++ (l.drop 88).take 8 from piece l 88 8, show l.take 88 = l.take 86 ++ (l.drop 86).take 2 from piece l 86 2, show l.take 86 = l.take 84 ++ (l.drop 84).take 2 from piece l 84 2, show l.take 84 = l.take 80 ++ (l.drop 80).take 4 from piece l 80 4, show l.take 80 = l.take 64 ++ (l.drop 64).take 16 from piece l 64 16, show l.take 64 = l.take 48 ++ (l.drop 48).take 16 from piece l 48 16, show l.take 48 = l.take 32 ++ (l.drop 32).take 16 from piece l 32 16, show l.take 32 = l.take 16 ++ (l.drop 16).take 16 from piece l 16 16]
  rfl
theorem wrap_le {v : List Int} (h : Bytes v) (hl : v.length ≤ 7) : wrap64 (le v) = le v ∧ 0 ≤ le v ∧ le v < 2 ^ (8 * v.length) := by
  have h1 := le_bd h
  have h2 : (2 : Int) ^ (8 * v.length) ≤ 2 ^ 56 := by
    have : (2 : Nat) ^ (8 * v.length) ≤ 2 ^ 56 := Nat.pow_le_pow_right (by decide) (by omega)
    exact_mod_cast this
  refine ⟨?_, h1⟩
  unfold wrap64; omega
theorem wrap_i64 (n : Int) : -9223372036854775808 ≤ wrap64 n ∧ wrap64 n ≤ 9223372036854775807 := by unfold wrap64; omega
theorem Acc.got_ok {l : List Int} (h : 96 ≤ l.length) (hB : Bytes l) : (Acc.got (l, false)).ok := by
  rw [Acc.got_long h]
  obtain ⟨⟨p0, q0⟩, r0, t0⟩ := num_ok (v := ((l.drop 0).take 16)) ((hB.drop 0).take 16)
  obtain ⟨⟨p1, q1⟩, r1, t1⟩ := num_ok (v := ((l.drop 16).take 16)) ((hB.drop 16).take 16)
  obtain ⟨⟨p2, q2⟩, r2, t2⟩ := num_ok (v := ((l.drop 32).take 16)) ((hB.drop 32).take 16)
  obtain ⟨⟨p3, q3⟩, r3, t3⟩ := num_ok (v := ((l.drop 48).take 16)) ((hB.drop 48).take 16)
  obtain ⟨⟨p4, q4⟩, r4, t4⟩ := num_ok (v := ((l.drop 64).take 16)) ((hB.drop 64).take 16)
  exact ⟨⟨p0, q0, r0, t0⟩, ⟨p1, q1, r1, t1⟩, ⟨p2, q2, r2, t2⟩, ⟨p3, q3, r3, t3⟩, ⟨p4, q4, r4, t4⟩, wrap_i64 _, wrap_i64 _, wrap_i64 _, wrap_i64 _⟩
theorem Acc.got_good {l : List Int} (h : 96 ≤ l.length) (hB : Bytes l) : (Acc.got (l, false)).good = true := by
  rw [Acc.got_long h]
  have n5 : ((l.drop 80).take 4).length = 4 := by rw [List.length_take, List.length_drop]; omega
  obtain ⟨x5, y5, z5⟩ := wrap_le (v := ((l.drop 80).take 4)) ((hB.drop 80).take 4) (by omega)
  rw [n5] at z5
  have n6 : ((l.drop 84).take 2).length = 2 := by rw [List.length_take, List.length_drop]; omega
  obtain ⟨x6, y6, z6⟩ := wrap_le (v := ((l.drop 84).take 2)) ((hB.drop 84).take 2) (by omega)
  rw [n6] at z6
  have n7 : ((l.drop 86).take 2).length = 2 := by rw [List.length_take, List.length_drop]; omega
  obtain ⟨x7, y7, z7⟩ := wrap_le (v := ((l.drop 86).take 2)) ((hB.drop 86).take 2) (by omega)
  rw [n7] at z7
  simp only [Acc.good, decide_eq_true_eq, x5, x6, x7]
  omega
theorem rdS_app {a r : List Int} {n : Nat} (h : a.length = n) : rdS (a ++ r, false) n = (r, false) := by rw [rdS_good (by rw [List.length_append]; omega), drop_app h]
theorem rdV_app {a r : List Int} {n : Nat} (h : a.length = n) : rdV (a ++ r, false) n = a := by rw [rdV_good (by rw [List.length_append]; omega), take_app h]
theorem numHi_wide {hi lo : Int} (h0 : 0 ≤ hi) (h1 : hi < 18446744073709551616) : numHi (wideBytes hi lo) = hi := by have h := wide_hi (lo := lo) [] h0 h1; rwa [List.append_nil] at h
theorem numLo_wide {hi lo : Int} (h0 : 0 ≤ lo) (h1 : lo < 18446744073709551616) : numLo (wideBytes hi lo) = lo := by have h := wide_lo (hi := hi) [] h0 h1; rwa [List.append_nil] at h
theorem int_again2 {n : Int} (h0 : 0 ≤ n) (h1 : n < 65536) : wrap64 (le (bytesOf n 2)) = n := by
  rw [le_bytesOf]
  simp only [Nat.reduceMul, Int.reducePow]
  unfold wrap64; omega
theorem int_again4 {n : Int} (h0 : 0 ≤ n) (h1 : n < 4294967296) : wrap64 (le (bytesOf n 4)) = n := by
  rw [le_bytesOf]
  simp only [Nat.reduceMul, Int.reducePow]
  unfold wrap64; omega
theorem int_again8 {n : Int} (h0 : -9223372036854775808 ≤ n) (h1 : n ≤ 9223372036854775807) : wrap64 (le (bytesOf n 8)) = n := by
  rw [le_bytesOf]
  simp only [Nat.reduceMul, Int.reducePow]
  unfold wrap64; omega
theorem Acc.again_got {X : Acc} (more : List Int) (h : X.ok) (g : X.good = true) : Acc.got (X.bytes ++ more, false) = X := by
  simp only [Acc.good, decide_eq_true_eq] at g
  unfold Acc.got Acc.bytes
  simp only [List.append_assoc, rdS_app (wideBytes_len _ _), rdV_app (wideBytes_len _ _), rdS_app (blen _ 2), rdV_app (blen _ 2), rdS_app (blen _ 4), rdV_app (blen _ 4), rdS_app (blen _ 8), rdV_app (blen _ 8)]
  rw [numHi_wide h.id.hi0 h.id.hi1, numLo_wide h.id.lo0 h.id.lo1, numHi_wide h.dp.hi0 h.dp.hi1, numLo_wide h.dp.lo0 h.dp.lo1, numHi_wide h.dq.hi0 h.dq.hi1, numLo_wide h.dq.lo0 h.dq.lo1, numHi_wide h.cp.hi0 h.cp.hi1, numLo_wide h.cp.lo0 h.cp.lo1, numHi_wide h.cq.hi0 h.cq.hi1, numLo_wide h.cq.lo0 h.cq.lo1, int_again4 (by have := h.ledger; omega) (by have := h.ledger; omega), int_again2 (by have := h.code; omega) (by have := h.code; omega), int_again2 (by have := h.flags; omega) (by have := h.flags; omega), int_again8 (by have := h.stamp; omega) (by have := h.stamp; omega)]
theorem Acc.none_ok : Acc.none.ok := ⟨⟨by decide, by decide, by decide, by decide⟩, ⟨by decide, by decide, by decide, by decide⟩, ⟨by decide, by decide, by decide, by decide⟩, ⟨by decide, by decide, by decide, by decide⟩, ⟨by decide, by decide, by decide, by decide⟩, by decide, by decide, by decide, by decide⟩
theorem Acc.none_good : Acc.none.good = true := by decide
end Go.Proofs.Ytfmcimngogibkaa
