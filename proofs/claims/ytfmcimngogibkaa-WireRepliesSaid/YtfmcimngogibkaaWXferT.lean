/- What is got of bytes; XferTakes. -/
import Derived.Test.YtfmcimngogibkaaWXferH
import Derived.Test.YtfmcimngogibkaaWAccT
import Derived.Deep.RegionHeld3
set_option linter.unusedSimpArgs false
set_option linter.unusedVariables false
namespace Go.Proofs.Ytfmcimngogibkaa
open Go.RowKit

theorem Tx.left_short {l : List Int} (h : l.length < 108) : (Tx.left (l, false)).2 = true := rdAll_short l _ (by simpa using h)
theorem Tx.e0 {l : List Int} (h : 108 ≤ l.length) : rdS (l.drop 0, false) 16 = (l.drop 16, false) := by rw [rdS_good (by rw [List.length_drop]; omega), List.drop_drop]
theorem Tx.v0 {l : List Int} (h : 108 ≤ l.length) : rdV (l.drop 0, false) 16 = (l.drop 0).take 16 := rdV_good (by rw [List.length_drop]; omega)
theorem Tx.e1 {l : List Int} (h : 108 ≤ l.length) : rdS (l.drop 16, false) 16 = (l.drop 32, false) := by rw [rdS_good (by rw [List.length_drop]; omega), List.drop_drop]
theorem Tx.v1 {l : List Int} (h : 108 ≤ l.length) : rdV (l.drop 16, false) 16 = (l.drop 16).take 16 := rdV_good (by rw [List.length_drop]; omega)
theorem Tx.e2 {l : List Int} (h : 108 ≤ l.length) : rdS (l.drop 32, false) 16 = (l.drop 48, false) := by rw [rdS_good (by rw [List.length_drop]; omega), List.drop_drop]
theorem Tx.v2 {l : List Int} (h : 108 ≤ l.length) : rdV (l.drop 32, false) 16 = (l.drop 32).take 16 := rdV_good (by rw [List.length_drop]; omega)
theorem Tx.e3 {l : List Int} (h : 108 ≤ l.length) : rdS (l.drop 48, false) 16 = (l.drop 64, false) := by rw [rdS_good (by rw [List.length_drop]; omega), List.drop_drop]
theorem Tx.v3 {l : List Int} (h : 108 ≤ l.length) : rdV (l.drop 48, false) 16 = (l.drop 48).take 16 := rdV_good (by rw [List.length_drop]; omega)
theorem Tx.e4 {l : List Int} (h : 108 ≤ l.length) : rdS (l.drop 64, false) 16 = (l.drop 80, false) := by rw [rdS_good (by rw [List.length_drop]; omega), List.drop_drop]
theorem Tx.v4 {l : List Int} (h : 108 ≤ l.length) : rdV (l.drop 64, false) 16 = (l.drop 64).take 16 := rdV_good (by rw [List.length_drop]; omega)
theorem Tx.e5 {l : List Int} (h : 108 ≤ l.length) : rdS (l.drop 80, false) 4 = (l.drop 84, false) := by rw [rdS_good (by rw [List.length_drop]; omega), List.drop_drop]
theorem Tx.v5 {l : List Int} (h : 108 ≤ l.length) : rdV (l.drop 80, false) 4 = (l.drop 80).take 4 := rdV_good (by rw [List.length_drop]; omega)
theorem Tx.e6 {l : List Int} (h : 108 ≤ l.length) : rdS (l.drop 84, false) 4 = (l.drop 88, false) := by rw [rdS_good (by rw [List.length_drop]; omega), List.drop_drop]
theorem Tx.v6 {l : List Int} (h : 108 ≤ l.length) : rdV (l.drop 84, false) 4 = (l.drop 84).take 4 := rdV_good (by rw [List.length_drop]; omega)
theorem Tx.e7 {l : List Int} (h : 108 ≤ l.length) : rdS (l.drop 88, false) 2 = (l.drop 90, false) := by rw [rdS_good (by rw [List.length_drop]; omega), List.drop_drop]
theorem Tx.v7 {l : List Int} (h : 108 ≤ l.length) : rdV (l.drop 88, false) 2 = (l.drop 88).take 2 := rdV_good (by rw [List.length_drop]; omega)
theorem Tx.e8 {l : List Int} (h : 108 ≤ l.length) : rdS (l.drop 90, false) 2 = (l.drop 92, false) := by rw [rdS_good (by rw [List.length_drop]; omega), List.drop_drop]
theorem Tx.v8 {l : List Int} (h : 108 ≤ l.length) : rdV (l.drop 90, false) 2 = (l.drop 90).take 2 := rdV_good (by rw [List.length_drop]; omega)
theorem Tx.e9 {l : List Int} (h : 108 ≤ l.length) : rdS (l.drop 92, false) 8 = (l.drop 100, false) := by rw [rdS_good (by rw [List.length_drop]; omega), List.drop_drop]
theorem Tx.v9 {l : List Int} (h : 108 ≤ l.length) : rdV (l.drop 92, false) 8 = (l.drop 92).take 8 := rdV_good (by rw [List.length_drop]; omega)
theorem Tx.e10 {l : List Int} (h : 108 ≤ l.length) : rdS (l.drop 100, false) 8 = (l.drop 108, false) := by rw [rdS_good (by rw [List.length_drop]; omega), List.drop_drop]
theorem Tx.v10 {l : List Int} (h : 108 ≤ l.length) : rdV (l.drop 100, false) 8 = (l.drop 100).take 8 := rdV_good (by rw [List.length_drop]; omega)
theorem Tx.left_long {l : List Int} (h : 108 ≤ l.length) : Tx.left (l, false) = (l.drop 108, false) := by
  unfold Tx.left
  rw [show ((l, false) : List Int × Bool) = (l.drop 0, false) from rfl]
  simp only [rdAll, Tx.e0 h, Tx.e1 h, Tx.e2 h, Tx.e3 h, Tx.e4 h, Tx.e5 h, Tx.e6 h, Tx.e7 h, Tx.e8 h, Tx.e9 h, Tx.e10 h]
theorem Tx.got_long {l : List Int} (h : 108 ≤ l.length) : Tx.got (l, false) = ⟨⟨numHi ((l.drop 0).take 16), numLo ((l.drop 0).take 16)⟩, ⟨numHi ((l.drop 16).take 16), numLo ((l.drop 16).take 16)⟩, ⟨numHi ((l.drop 32).take 16), numLo ((l.drop 32).take 16)⟩, ⟨numHi ((l.drop 48).take 16), numLo ((l.drop 48).take 16)⟩, ⟨numHi ((l.drop 64).take 16), numLo ((l.drop 64).take 16)⟩, wrap64 (le ((l.drop 80).take 4)), wrap64 (le ((l.drop 84).take 4)), wrap64 (le ((l.drop 88).take 2)), wrap64 (le ((l.drop 90).take 2)), wrap64 (le ((l.drop 92).take 8)), wrap64 (le ((l.drop 100).take 8))⟩ := by
  unfold Tx.got
  rw [show ((l, false) : List Int × Bool) = (l.drop 0, false) from rfl]
  simp only [Tx.e0 h, Tx.e1 h, Tx.e2 h, Tx.e3 h, Tx.e4 h, Tx.e5 h, Tx.e6 h, Tx.e7 h, Tx.e8 h, Tx.e9 h, Tx.v0 h, Tx.v1 h, Tx.v2 h, Tx.v3 h, Tx.v4 h, Tx.v5 h, Tx.v6 h, Tx.v7 h, Tx.v8 h, Tx.v9 h, Tx.v10 h]
theorem Tx.got_bytes {l : List Int} (h : 108 ≤ l.length) (hB : Bytes l) : (Tx.got (l, false)).bytes = l.take 108 := by
  rw [Tx.got_long h, Tx.bytes]
  have b0 : Bytes ((l.drop 0).take 16) := (hB.drop 0).take 16
  have n0 : ((l.drop 0).take 16).length = 16 := by rw [List.length_take, List.length_drop]; omega
  have b1 : Bytes ((l.drop 16).take 16) := (hB.drop 16).take 16
  have n1 : ((l.drop 16).take 16).length = 16 := by rw [List.length_take, List.length_drop]; omega
  have b2 : Bytes ((l.drop 32).take 16) := (hB.drop 32).take 16
  have n2 : ((l.drop 32).take 16).length = 16 := by rw [List.length_take, List.length_drop]; omega
  have b3 : Bytes ((l.drop 48).take 16) := (hB.drop 48).take 16
  have n3 : ((l.drop 48).take 16).length = 16 := by rw [List.length_take, List.length_drop]; omega
  have b4 : Bytes ((l.drop 64).take 16) := (hB.drop 64).take 16
  have n4 : ((l.drop 64).take 16).length = 16 := by rw [List.length_take, List.length_drop]; omega
  have b5 : Bytes ((l.drop 80).take 4) := (hB.drop 80).take 4
  have n5 : ((l.drop 80).take 4).length = 4 := by rw [List.length_take, List.length_drop]; omega
  have b6 : Bytes ((l.drop 84).take 4) := (hB.drop 84).take 4
  have n6 : ((l.drop 84).take 4).length = 4 := by rw [List.length_take, List.length_drop]; omega
  have b7 : Bytes ((l.drop 88).take 2) := (hB.drop 88).take 2
  have n7 : ((l.drop 88).take 2).length = 2 := by rw [List.length_take, List.length_drop]; omega
  have b8 : Bytes ((l.drop 90).take 2) := (hB.drop 90).take 2
  have n8 : ((l.drop 90).take 2).length = 2 := by rw [List.length_take, List.length_drop]; omega
  have b9 : Bytes ((l.drop 92).take 8) := (hB.drop 92).take 8
  have n9 : ((l.drop 92).take 8).length = 8 := by rw [List.length_take, List.length_drop]; omega
  have b10 : Bytes ((l.drop 100).take 8) := (hB.drop 100).take 8
  have n10 : ((l.drop 100).take 8).length = 8 := by rw [List.length_take, List.length_drop]; omega
  rw [num_bytes b0 n0]
  rw [num_bytes b1 n1]
  rw [num_bytes b2 n2]
  rw [num_bytes b3 n3]
  rw [num_bytes b4 n4]
  have i5 := int_bytes b5 (by omega)
  rw [n5] at i5
  rw [i5]
  have i6 := int_bytes b6 (by omega)
  rw [n6] at i6
  rw [i6]
  have i7 := int_bytes b7 (by omega)
  rw [n7] at i7
  rw [i7]
  have i8 := int_bytes b8 (by omega)
  rw [n8] at i8
  rw [i8]
  have i9 := int_bytes b9 (by omega)
  rw [n9] at i9
  rw [i9]
  have i10 := int_bytes b10 (by omega)
  rw [n10] at i10
  rw [i10]
  rw [show l.take 108 = l.take 100 ++ (l.drop 100).take 8 from piece l 100 8, show l.take 100 = l.take 92 ++ (l.drop 92).take 8 from piece l 92 8, show l.take 92 = l.take 90 ++ (l.drop 90).take 2 from piece l 90 2, show l.take 90 = l.take 88 ++ (l.drop 88).take 2 from piece l 88 2, show l.take 88 = l.take 84 ++ (l.drop 84).take 4 from piece l 84 4, show l.take 84 = l.take 80 ++ (l.drop 80).take 4 from piece l 80 4, show l.take 80 = l.take 64 ++ (l.drop 64).take 16 from piece l 64 16, show l.take 64 = l.take 48 ++ (l.drop 48).take 16 from piece l 48 16, show l.take 48 = l.take 32 ++ (l.drop 32).take 16 from piece l 32 16, show l.take 32 = l.take 16 ++ (l.drop 16).take 16 from piece l 16 16]
  rfl
theorem Tx.got_ok {l : List Int} (h : 108 ≤ l.length) (hB : Bytes l) : (Tx.got (l, false)).ok := by
  rw [Tx.got_long h]
  obtain ⟨⟨p0, q0⟩, r0, t0⟩ := num_ok (v := ((l.drop 0).take 16)) ((hB.drop 0).take 16)
  obtain ⟨⟨p1, q1⟩, r1, t1⟩ := num_ok (v := ((l.drop 16).take 16)) ((hB.drop 16).take 16)
  obtain ⟨⟨p2, q2⟩, r2, t2⟩ := num_ok (v := ((l.drop 32).take 16)) ((hB.drop 32).take 16)
  obtain ⟨⟨p3, q3⟩, r3, t3⟩ := num_ok (v := ((l.drop 48).take 16)) ((hB.drop 48).take 16)
  obtain ⟨⟨p4, q4⟩, r4, t4⟩ := num_ok (v := ((l.drop 64).take 16)) ((hB.drop 64).take 16)
  exact ⟨⟨p0, q0, r0, t0⟩, ⟨p1, q1, r1, t1⟩, ⟨p2, q2, r2, t2⟩, ⟨p3, q3, r3, t3⟩, ⟨p4, q4, r4, t4⟩, wrap_i64 _, wrap_i64 _, wrap_i64 _, wrap_i64 _, wrap_i64 _, wrap_i64 _⟩
theorem Tx.got_good {l : List Int} (h : 108 ≤ l.length) (hB : Bytes l) : (Tx.got (l, false)).good = true := by
  rw [Tx.got_long h]
  have n5 : ((l.drop 80).take 4).length = 4 := by rw [List.length_take, List.length_drop]; omega
  obtain ⟨x5, y5, z5⟩ := wrap_le (v := ((l.drop 80).take 4)) ((hB.drop 80).take 4) (by omega)
  rw [n5] at z5
  have n6 : ((l.drop 84).take 4).length = 4 := by rw [List.length_take, List.length_drop]; omega
  obtain ⟨x6, y6, z6⟩ := wrap_le (v := ((l.drop 84).take 4)) ((hB.drop 84).take 4) (by omega)
  rw [n6] at z6
  have n7 : ((l.drop 88).take 2).length = 2 := by rw [List.length_take, List.length_drop]; omega
  obtain ⟨x7, y7, z7⟩ := wrap_le (v := ((l.drop 88).take 2)) ((hB.drop 88).take 2) (by omega)
  rw [n7] at z7
  have n8 : ((l.drop 90).take 2).length = 2 := by rw [List.length_take, List.length_drop]; omega
  obtain ⟨x8, y8, z8⟩ := wrap_le (v := ((l.drop 90).take 2)) ((hB.drop 90).take 2) (by omega)
  rw [n8] at z8
  simp only [Tx.good, decide_eq_true_eq, x5, x6, x7, x8]
  omega
attribute [-go_sem] loadCells
theorem Tx.again_got {X : Tx} (more : List Int) (h : X.ok) (g : X.good = true) : Tx.got (X.bytes ++ more, false) = X := by
  simp only [Tx.good, decide_eq_true_eq] at g
  unfold Tx.got Tx.bytes
  simp only [List.append_assoc, rdS_app (wideBytes_len _ _), rdV_app (wideBytes_len _ _), rdS_app (blen _ 2), rdV_app (blen _ 2), rdS_app (blen _ 4), rdV_app (blen _ 4), rdS_app (blen _ 8), rdV_app (blen _ 8)]
  rw [numHi_wide h.id.hi0 h.id.hi1, numLo_wide h.id.lo0 h.id.lo1, numHi_wide h.debit.hi0 h.debit.hi1, numLo_wide h.debit.lo0 h.debit.lo1, numHi_wide h.credit.hi0 h.credit.hi1, numLo_wide h.credit.lo0 h.credit.lo1, numHi_wide h.amount.hi0 h.amount.hi1, numLo_wide h.amount.lo0 h.amount.lo1, numHi_wide h.pending.hi0 h.pending.hi1, numLo_wide h.pending.lo0 h.pending.lo1, int_again4 (by have := h.timeout; omega) (by have := h.timeout; omega), int_again4 (by have := h.ledger; omega) (by have := h.ledger; omega), int_again2 (by have := h.code; omega) (by have := h.code; omega), int_again2 (by have := h.flags; omega) (by have := h.flags; omega), int_again8 (by have := h.stamp; omega) (by have := h.stamp; omega), int_again8 (by have := h.born; omega) (by have := h.born; omega)]
theorem Tx.none_ok : Tx.none.ok := ⟨⟨by decide, by decide, by decide, by decide⟩, ⟨by decide, by decide, by decide, by decide⟩, ⟨by decide, by decide, by decide, by decide⟩, ⟨by decide, by decide, by decide, by decide⟩, ⟨by decide, by decide, by decide, by decide⟩, by decide, by decide, by decide, by decide, by decide, by decide⟩
theorem Tx.none_good : Tx.none.good = true := by decide
end Go.Proofs.Ytfmcimngogibkaa
