/- What is got of bytes; XferTakes. -/
import Derived.Test.YtiabpnhkihbkjaaDoorXferH
import Derived.Test.YtiabpnhkihbkjaaDoorXferK
import Derived.Test.YtiabpnhkihbkjaaDoorLoadEq
import Derived.Deep.RegionHeld3
namespace Go.Proofs.YtiabpnhkihbkjaaDoor
open Go.RowKit

theorem piece (l : List Int) (o k : Nat) : l.take (o + k) = l.take o ++ (l.drop o).take k := List.take_add
theorem Tx.left_short {l : List Int} (h : l.length < 108) : (Tx.left (l, false)).2 = true := rdAll_short l _ (by simpa using h)
theorem Tx.e0 {l : List Int} (h : 108 ≤ l.length) : rdS (l.drop 0, false) 16 = (l.drop 16, false) := by rw [rdS_good (by rw [List.length_drop]; omega), List.drop_drop]
theorem Tx.v0 {l : List Int} (h : 108 ≤ l.length) : rdV (l.drop 0, false) 16 = (l.drop 0).take 16 := rdV_good (by rw [List.length_drop]; omega)
theorem Tx.e1 {l : List Int} (h : 108 ≤ l.length) : rdS (l.drop 16, false) 16 = (l.drop 32, false) := by rw [rdS_good (by rw [List.length_drop]; omega), List.drop_drop]
theorem Tx.v1 {l : List Int} (h : 108 ≤ l.length) : rdV (l.drop 16, false) 16 = (l.drop 16).take 16 := rdV_good (by rw [List.length_drop]; omega)
theorem Tx.e2 {l : List Int} (h : 108 ≤ l.length) : rdS (l.drop 32, false) 16 = (l.drop 48, false) := by rw [rdS_good (by rw [List.length_drop]; omega), List.drop_drop]
theorem Tx.v2 {l : List Int} (h : 108 ≤ l.length) : rdV (l.drop 32, false) 16 = (l.drop 32).take 16 := rdV_good (by rw [List.length_drop]; omega)
theorem Tx.e3 {l : List Int} (h : 108 ≤ l.length) : rdS (l.drop 48, false) 16 = (l.drop 64, false) := by rw [rdS_good (by rw [List.length_drop]; omega), List.drop_drop]
theorem Tx.v3 {l : List Int} (h : 108 ≤ l.length) : rdV (l.drop 48, false) 16 = (l.drop 48).take 16 := rdV_good (by rw [List.length_drop]; omega)
theorem Tx.e4 {l : List Int} (h : 108 ≤ l.length) : rdS (l.drop 64, false) 16 = (l.drop 80, false) := by rw [rdS_good (by rw [List.length_drop]; omega), List.drop_drop]
theorem Tx.v4 {l : List Int} (h : 108 ≤ l.length) : rdV (l.drop 64, false) 16 = (l.drop 64).take 16 := rdV_good (by rw [List.length_drop]; omega)
theorem Tx.e5 {l : List Int} (h : 108 ≤ l.length) : rdS (l.drop 80, false) 4 = (l.drop 84, false) := by rw [rdS_good (by rw [List.length_drop]; omega), List.drop_drop]
theorem Tx.v5 {l : List Int} (h : 108 ≤ l.length) : rdV (l.drop 80, false) 4 = (l.drop 80).take 4 := rdV_good (by rw [List.length_drop]; omega)
theorem Tx.e6 {l : List Int} (h : 108 ≤ l.length) : rdS (l.drop 84, false) 4 = (l.drop 88, false) := by rw [rdS_good (by rw [List.length_drop]; omega), List.drop_drop]
theorem Tx.v6 {l : List Int} (h : 108 ≤ l.length) : rdV (l.drop 84, false) 4 = (l.drop 84).take 4 := rdV_good (by rw [List.length_drop]; omega)
theorem Tx.e7 {l : List Int} (h : 108 ≤ l.length) : rdS (l.drop 88, false) 2 = (l.drop 90, false) := by rw [rdS_good (by rw [List.length_drop]; omega), List.drop_drop]
theorem Tx.v7 {l : List Int} (h : 108 ≤ l.length) : rdV (l.drop 88, false) 2 = (l.drop 88).take 2 := rdV_good (by rw [List.length_drop]; omega)
theorem Tx.e8 {l : List Int} (h : 108 ≤ l.length) : rdS (l.drop 90, false) 2 = (l.drop 92, false) := by rw [rdS_good (by rw [List.length_drop]; omega), List.drop_drop]
theorem Tx.v8 {l : List Int} (h : 108 ≤ l.length) : rdV (l.drop 90, false) 2 = (l.drop 90).take 2 := rdV_good (by rw [List.length_drop]; omega)
theorem Tx.e9 {l : List Int} (h : 108 ≤ l.length) : rdS (l.drop 92, false) 8 = (l.drop 100, false) := by rw [rdS_good (by rw [List.length_drop]; omega), List.drop_drop]
theorem Tx.v9 {l : List Int} (h : 108 ≤ l.length) : rdV (l.drop 92, false) 8 = (l.drop 92).take 8 := rdV_good (by rw [List.length_drop]; omega)
theorem Tx.e10 {l : List Int} (h : 108 ≤ l.length) : rdS (l.drop 100, false) 8 = (l.drop 108, false) := by rw [rdS_good (by rw [List.length_drop]; omega), List.drop_drop]
theorem Tx.v10 {l : List Int} (h : 108 ≤ l.length) : rdV (l.drop 100, false) 8 = (l.drop 100).take 8 := rdV_good (by rw [List.length_drop]; omega)
theorem Tx.left_long {l : List Int} (h : 108 ≤ l.length) : Tx.left (l, false) = (l.drop 108, false) := by
  unfold Tx.left
  rw [show ((l, false) : List Int × Bool) = (l.drop 0, false) from rfl]
  simp only [rdAll, Tx.e0 h, Tx.e1 h, Tx.e2 h, Tx.e3 h, Tx.e4 h, Tx.e5 h, Tx.e6 h, Tx.e7 h, Tx.e8 h, Tx.e9 h, Tx.e10 h]
theorem Tx.got_long {l : List Int} (h : 108 ≤ l.length) : Tx.got (l, false) = ⟨⟨numHi ((l.drop 0).take 16), numLo ((l.drop 0).take 16)⟩, ⟨numHi ((l.drop 16).take 16), numLo ((l.drop 16).take 16)⟩, ⟨numHi ((l.drop 32).take 16), numLo ((l.drop 32).take 16)⟩, ⟨numHi ((l.drop 48).take 16), numLo ((l.drop 48).take 16)⟩, ⟨numHi ((l.drop 64).take 16), numLo ((l.drop 64).take 16)⟩, wrap64 (le ((l.drop 80).take 4)), wrap64 (le ((l.drop 84).take 4)), wrap64 (le ((l.drop 88).take 2)), wrap64 (le ((l.drop 90).take 2)), wrap64 (le ((l.drop 92).take 8)), wrap64 (le ((l.drop 100).take 8))⟩ := by
  unfold Tx.got
  rw [show ((l, false) : List Int × Bool) = (l.drop 0, false) from rfl]
  simp only [Tx.e0 h, Tx.e1 h, Tx.e2 h, Tx.e3 h, Tx.e4 h, Tx.e5 h, Tx.e6 h, Tx.e7 h, Tx.e8 h, Tx.e9 h, Tx.v0 h, Tx.v1 h, Tx.v2 h, Tx.v3 h, Tx.v4 h, Tx.v5 h, Tx.v6 h, Tx.v7 h, Tx.v8 h, Tx.v9 h, Tx.v10 h]
theorem Tx.got_bytes {l : List Int} (h : 108 ≤ l.length) (hB : Bytes l) : (Tx.got (l, false)).bytes = l.take 108 := by
  rw [Tx.got_long h, Tx.bytes]
  have b0 : Bytes ((l.drop 0).take 16) := (hB.drop 0).take 16
  have n0 : ((l.drop 0).take 16).length = 16 := by rw [List.length_take, List.length_drop]; omega
  have b1 : Bytes ((l.drop 16).take 16) := (hB.drop 16).take 16
  have n1 : ((l.drop 16).take 16).length = 16 := by rw [List.length_take, List.length_drop]; omega
  have b2 : Bytes ((l.drop 32).take 16) := (hB.drop 32).take 16
  have n2 : ((l.drop 32).take 16).length = 16 := by rw [List.length_take, List.length_drop]; omega
  have b3 : Bytes ((l.drop 48).take 16) := (hB.drop 48).take 16
  have n3 : ((l.drop 48).take 16).length = 16 := by rw [List.length_take, List.length_drop]; omega
  have b4 : Bytes ((l.drop 64).take 16) := (hB.drop 64).take 16
  have n4 : ((l.drop 64).take 16).length = 16 := by rw [List.length_take, List.length_drop]; omega
  have b5 : Bytes ((l.drop 80).take 4) := (hB.drop 80).take 4
  have n5 : ((l.drop 80).take 4).length = 4 := by rw [List.length_take, List.length_drop]; omega
  have b6 : Bytes ((l.drop 84).take 4) := (hB.drop 84).take 4
  have n6 : ((l.drop 84).take 4).length = 4 := by rw [List.length_take, List.length_drop]; omega
  have b7 : Bytes ((l.drop 88).take 2) := (hB.drop 88).take 2
  have n7 : ((l.drop 88).take 2).length = 2 := by rw [List.length_take, List.length_drop]; omega
  have b8 : Bytes ((l.drop 90).take 2) := (hB.drop 90).take 2
  have n8 : ((l.drop 90).take 2).length = 2 := by rw [List.length_take, List.length_drop]; omega
  have b9 : Bytes ((l.drop 92).take 8) := (hB.drop 92).take 8
  have n9 : ((l.drop 92).take 8).length = 8 := by rw [List.length_take, List.length_drop]; omega
  have b10 : Bytes ((l.drop 100).take 8) := (hB.drop 100).take 8
  have n10 : ((l.drop 100).take 8).length = 8 := by rw [List.length_take, List.length_drop]; omega
  rw [num_bytes b0 n0]
  rw [num_bytes b1 n1]
  rw [num_bytes b2 n2]
  rw [num_bytes b3 n3]
  rw [num_bytes b4 n4]
  have i5 := int_bytes b5 (by omega)
  rw [n5] at i5
  rw [i5]
  have i6 := int_bytes b6 (by omega)
  rw [n6] at i6
  rw [i6]
  have i7 := int_bytes b7 (by omega)
  rw [n7] at i7
  rw [i7]
  have i8 := int_bytes b8 (by omega)
  rw [n8] at i8
  rw [i8]
  have i9 := int_bytes b9 (by omega)
  rw [n9] at i9
  rw [i9]
  have i10 := int_bytes b10 (by omega)
  rw [n10] at i10
  rw [i10]
  rw [show l.take 108 = l.take 100 ++ (l.drop 100).take 8 from piece l 100 8, show l.take 100 = l.take 92 ++ (l.drop 92).take 8 from piece l 92 8, show l.take 92 = l.take 90 ++ (l.drop 90).take 2 from piece l 90 2, show l.take 90 = l.take 88 ++ (l.drop 88).take 2 from piece l 88 2, show l.take 88 = l.take 84 ++ (l.drop 84).take 4 from piece l 84 4, show l.take 84 = l.take 80 ++ (l.drop 80).take 4 from piece l 80 4, show l.take 80 = l.take 64 ++ (l.drop 64).take 16 from piece l 64 16, show l.take 64 = l.take 48 ++ (l.drop 48).take 16 from piece l 48 16, show l.take 48 = l.take 32 ++ (l.drop 32).take 16 from piece l 32 16, show l.take 32 = l.take 16 ++ (l.drop 16).take 16 from piece l 16 16]
  rfl
theorem wrap_le {v : List Int} (h : Bytes v) (hl : v.length ≤ 7) : wrap64 (le v) = le v ∧ 0 ≤ le v ∧ le v < 2 ^ (8 * v.length) := by
  have h1 := le_bd h
  have h2 : (2 : Int) ^ (8 * v.length) ≤ 2 ^ 56 := by
    have : (2 : Nat) ^ (8 * v.length) ≤ 2 ^ 56 := Nat.pow_le_pow_right (by decide) (by omega)
    exact_mod_cast this
  refine ⟨?_, h1⟩
  unfold wrap64; omega
theorem wrap_i64 (n : Int) : -9223372036854775808 ≤ wrap64 n ∧ wrap64 n ≤ 9223372036854775807 := by unfold wrap64; omega
theorem Tx.got_ok {l : List Int} (h : 108 ≤ l.length) (hB : Bytes l) : (Tx.got (l, false)).ok := by
  rw [Tx.got_long h]
  obtain ⟨⟨p0, q0⟩, r0, t0⟩ := num_ok (v := ((l.drop 0).take 16)) ((hB.drop 0).take 16)
  obtain ⟨⟨p1, q1⟩, r1, t1⟩ := num_ok (v := ((l.drop 16).take 16)) ((hB.drop 16).take 16)
  obtain ⟨⟨p2, q2⟩, r2, t2⟩ := num_ok (v := ((l.drop 32).take 16)) ((hB.drop 32).take 16)
  obtain ⟨⟨p3, q3⟩, r3, t3⟩ := num_ok (v := ((l.drop 48).take 16)) ((hB.drop 48).take 16)
  obtain ⟨⟨p4, q4⟩, r4, t4⟩ := num_ok (v := ((l.drop 64).take 16)) ((hB.drop 64).take 16)
  exact ⟨⟨p0, q0, r0, t0⟩, ⟨p1, q1, r1, t1⟩, ⟨p2, q2, r2, t2⟩, ⟨p3, q3, r3, t3⟩, ⟨p4, q4, r4, t4⟩, wrap_i64 _, wrap_i64 _, wrap_i64 _, wrap_i64 _, wrap_i64 _, wrap_i64 _⟩
theorem Tx.got_good {l : List Int} (h : 108 ≤ l.length) (hB : Bytes l) : (Tx.got (l, false)).good = true := by
  rw [Tx.got_long h]
  have n5 : ((l.drop 80).take 4).length = 4 := by rw [List.length_take, List.length_drop]; omega
  obtain ⟨x5, y5, z5⟩ := wrap_le (v := ((l.drop 80).take 4)) ((hB.drop 80).take 4) (by omega)
  rw [n5] at z5
  have n6 : ((l.drop 84).take 4).length = 4 := by rw [List.length_take, List.length_drop]; omega
  obtain ⟨x6, y6, z6⟩ := wrap_le (v := ((l.drop 84).take 4)) ((hB.drop 84).take 4) (by omega)
  rw [n6] at z6
  have n7 : ((l.drop 88).take 2).length = 2 := by rw [List.length_take, List.length_drop]; omega
  obtain ⟨x7, y7, z7⟩ := wrap_le (v := ((l.drop 88).take 2)) ((hB.drop 88).take 2) (by omega)
  rw [n7] at z7
  have n8 : ((l.drop 90).take 2).length = 2 := by rw [List.length_take, List.length_drop]; omega
  obtain ⟨x8, y8, z8⟩ := wrap_le (v := ((l.drop 90).take 2)) ((hB.drop 90).take 2) (by omega)
  rw [n8] at z8
  simp only [Tx.good, decide_eq_true_eq, x5, x6, x7, x8]
  omega
attribute [-go_sem] loadCells
set_option maxHeartbeats 6400000 in
theorem recTakes_any (w : World) (l : List Int) (hm : Most w) (hB : Bytes l) (hl : l.length ≤ 140737488355328) :
    Calls Tryd.prog 7 #[.string (strOfNums l)] w fun e w' => e = .returned (.bool true) ∧ Fr (fun _ => False) w w' := by
  have HM := Lib.hid hm
  have HB := Lib.hid hB
  have sl := strOfNums_size l
  clear hm hB
  go_enter Tryd.func7, Tryd.ntmps7
  go_wp2_with fail
  refine (alive_any _ HM.out).mono ?_
  rintro e w1 ⟨rfl, f1⟩
  have F1 := Lib.hid f1
  clear f1
  by_cases hbig : (300 : Int) < (l.length : Int)
  · go_wp2_with fail
    go_ret
    exact ⟨rfl, F1.out⟩
  go_wp2_with fail
  refine (tRead_any _ l).mono ?_
  rintro e w2 ⟨g, rfl, hg, h2, f2⟩
  have F2 := Lib.hid (F1.out.then_ f2 (fun _ h => h.elim))
  have Hg := Lib.hid (show w.heap.size ≤ g from by have := F1.out.size; omega)
  have K2 := Lib.hid h2
  clear h2 f2 hg
  go_wp2_with fail
  refine (get_any _ g (l, false) (by first | exact K2.out | (unfold IsR; (repeat (first | (with_reducible refine blk_drew ?_) | (with_reducible refine blk_drewN ?_ _) | (with_reducible refine blk_alloc ?_ _) | (with_reducible refine blk_far2 ?_ (by omega) _))) <;> exact K2.out)) HB.out).mono ?_
  rintro e w3 ⟨rfl, h3, f3⟩
  have F3 := Lib.hid (F2.out.then_ (S2 := fun k => k = g) (Fr.then_ (S2 := fun k => k = g) (by repeat (first | (with_reducible exact Fr.refl _ _) | (with_reducible refine Fr.drew ?_) | (with_reducible refine Fr.drewN ?_ _) | (with_reducible refine Fr.alloc ?_ _) | (with_reducible refine Fr.set1 ?_ _) | (with_reducible refine Fr.setNew ?_ (by omega) _))) f3 (fun _ h => .inl h)) (fun k hk => .inr (by rw [hk]; exact Hg.out)))
  have he := eqm_Tx
  have heN := eqm_Num
  by_cases hs : (l.length : Int) < 108
  · have e1 := Tx.left_short (l := l) (by omega)
    rw [e1] at h3
    rw [e1, if_pos rfl]
    obtain ⟨x, hx⟩ : ∃ x, (Tx.left (l, false)).1 = x := ⟨_, rfl⟩
    rw [hx] at h3
    have K3 := Lib.hid h3
    clear h3 f3 hx e1
    unfold Tx.none Tx.val
    have qz := ld_row (P := Tryd.prog) (n := 16) (w3.heap.size) (#[.int .u64 0, .int .u64 0, .int .u64 0, .int .u64 0, .int .u64 0, .int .u64 0, .int .u64 0, .int .u64 0, .int .u64 0, .int .u64 0, .int .i64 0, .int .i64 0, .int .i64 0, .int .i64 0, .int .i64 0, .int .i64 0]) rfl (heap_alloc_new w3 (.cells #[.int .u64 0, .int .u64 0, .int .u64 0, .int .u64 0, .int .u64 0, .int .u64 0, .int .u64 0, .int .u64 0, .int .u64 0, .int .u64 0, .int .i64 0, .int .i64 0, .int .i64 0, .int .i64 0, .int .i64 0, .int .i64 0] 26))
    go_wp2_with (go_at_call 21; go_must (refine (rTorn_any _ g x true (by first | exact K3.out | (unfold IsR; (repeat (first | (with_reducible refine blk_drew ?_) | (with_reducible refine blk_drewN ?_ _) | (with_reducible refine blk_alloc ?_ _) | (with_reducible refine blk_far2 ?_ (by omega) _))) <;> exact K3.out))).mono ?_; rintro e w4 ⟨rfl, rfl⟩))
    go_ret
    exact ⟨rfl, by (repeat (first | (with_reducible exact Fr.refl _ _) | (with_reducible refine Fr.drew ?_) | (with_reducible refine Fr.drewN ?_ _) | (with_reducible refine Fr.alloc ?_ _) | (with_reducible refine Fr.set1 ?_ _) | (with_reducible refine Fr.setNew ?_ (by omega) _))) <;> exact F3.out⟩
  · have e1 := Tx.left_long (l := l) (by omega)
    rw [e1] at h3
    rw [e1, if_neg (by simp)]
    have hA1 := Lib.hid (Tx.got_ok (l := l) (by omega) HB.out)
    have hA2 := Tx.got_good (l := l) (by omega) HB.out
    have hA3 := Lib.hid (Tx.got_bytes (l := l) (by omega) HB.out)
    obtain ⟨A, hA⟩ : ∃ A, Tx.got (l, false) = A := ⟨_, rfl⟩
    rw [hA] at hA1 hA2 hA3 ⊢
    have K3 := Lib.hid h3
    clear h3 f3 hA e1
    have HG := Lib.hid (show ∀ W, Calls Tryd.prog 22 #[.agg #[.int .u64 A.id.hi, .int .u64 A.id.lo, .int .u64 A.debit.hi, .int .u64 A.debit.lo, .int .u64 A.credit.hi, .int .u64 A.credit.lo, .int .u64 A.amount.hi, .int .u64 A.amount.lo, .int .u64 A.pending.hi, .int .u64 A.pending.lo, .int .i64 A.timeout, .int .i64 A.ledger, .int .i64 A.code, .int .i64 A.flags, .int .i64 A.stamp, .int .i64 A.born]] W fun e w' => e = .returned (.bool true) ∧ Fr (fun _ => False) W w' from fun W => hA2 ▸ refGood_any W A)
    have HR := Lib.hid (show ∀ W, Calls Tryd.prog 23 #[.agg #[.int .u64 A.id.hi, .int .u64 A.id.lo, .int .u64 A.debit.hi, .int .u64 A.debit.lo, .int .u64 A.credit.hi, .int .u64 A.credit.lo, .int .u64 A.amount.hi, .int .u64 A.amount.lo, .int .u64 A.pending.hi, .int .u64 A.pending.lo, .int .i64 A.timeout, .int .i64 A.ledger, .int .i64 A.code, .int .i64 A.flags, .int .i64 A.stamp, .int .i64 A.born]] W fun e w' => e = .returned (.string (strOfNums (l.take 108))) ∧ Fr (fun _ => False) W w' from fun W => hA3.out ▸ refBytesOf_any W A hA1.out)
    have hE1 := strOf_take l 108
    have sD := List.length_drop (i := 108) (l := l)
    clear hA2
    unfold Tx.val
    have ba := heap_alloc_new w3 (.cells #[.int .u64 A.id.hi, .int .u64 A.id.lo, .int .u64 A.debit.hi, .int .u64 A.debit.lo, .int .u64 A.credit.hi, .int .u64 A.credit.lo, .int .u64 A.amount.hi, .int .u64 A.amount.lo, .int .u64 A.pending.hi, .int .u64 A.pending.lo, .int .i64 A.timeout, .int .i64 A.ledger, .int .i64 A.code, .int .i64 A.flags, .int .i64 A.stamp, .int .i64 A.born] 26)
    have kk := blk_alloc K3.out (.cells #[.int .u64 A.id.hi, .int .u64 A.id.lo, .int .u64 A.debit.hi, .int .u64 A.debit.lo, .int .u64 A.credit.hi, .int .u64 A.credit.lo, .int .u64 A.amount.hi, .int .u64 A.amount.lo, .int .u64 A.pending.hi, .int .u64 A.pending.lo, .int .i64 A.timeout, .int .i64 A.ledger, .int .i64 A.code, .int .i64 A.flags, .int .i64 A.stamp, .int .i64 A.born] 26)
    have FA := Lib.hid (F3.out.alloc (.cells #[.int .u64 A.id.hi, .int .u64 A.id.lo, .int .u64 A.debit.hi, .int .u64 A.debit.lo, .int .u64 A.credit.hi, .int .u64 A.credit.lo, .int .u64 A.amount.hi, .int .u64 A.amount.lo, .int .u64 A.pending.hi, .int .u64 A.pending.lo, .int .i64 A.timeout, .int .i64 A.ledger, .int .i64 A.code, .int .i64 A.flags, .int .i64 A.stamp, .int .i64 A.born] 26))
    have a0 := blk_cell ba 0 rfl; have a1 := blk_cell ba 1 rfl; have a2 := blk_cell ba 2 rfl; have a3 := blk_cell ba 3 rfl; have a4 := blk_cell ba 4 rfl; have a5 := blk_cell ba 5 rfl; have a6 := blk_cell ba 6 rfl; have a7 := blk_cell ba 7 rfl; have a8 := blk_cell ba 8 rfl; have a9 := blk_cell ba 9 rfl; have a10 := blk_cell ba 10 rfl; have a11 := blk_cell ba 11 rfl; have a12 := blk_cell ba 12 rfl; have a13 := blk_cell ba 13 rfl; have a14 := blk_cell ba 14 rfl; have a15 := blk_cell ba 15 rfl
    have hsz0 := blk_lt ba
    have Ba := Lib.hid ba
    have Kk := Lib.hid kk
    clear ba kk
    go_wp2_with fail
    go_region_held3 (fun w' => (loadCells ⟨w3.heap.size, 0, none⟩ 16).run Tryd.prog w' = .ok #[Value.int .u64 A.id.hi, Value.int .u64 A.id.lo, Value.int .u64 A.debit.hi, Value.int .u64 A.debit.lo, Value.int .u64 A.credit.hi, Value.int .u64 A.credit.lo, Value.int .u64 A.amount.hi, Value.int .u64 A.amount.lo, Value.int .u64 A.pending.hi, Value.int .u64 A.pending.lo, Value.int .i64 A.timeout, Value.int .i64 A.ledger, Value.int .i64 A.code, Value.int .i64 A.flags, Value.int .i64 A.stamp, Value.int .i64 A.born] w')
      (first | exact ld_row _ _ rfl Ba.out | go_keep)
      (first
        | (go_at_call 22; with_reducible refine (HG.out _).mono ?_; rintro e w4 ⟨rfl, f4⟩; have ba := f4.blk Ba.out (fun h => h); have kk := f4.blk Kk.out (fun h => h); have a0 := blk_cell ba 0 rfl; have a1 := blk_cell ba 1 rfl; have a2 := blk_cell ba 2 rfl; have a3 := blk_cell ba 3 rfl; have a4 := blk_cell ba 4 rfl; have a5 := blk_cell ba 5 rfl; have a6 := blk_cell ba 6 rfl; have a7 := blk_cell ba 7 rfl; have a8 := blk_cell ba 8 rfl; have a9 := blk_cell ba 9 rfl; have a10 := blk_cell ba 10 rfl; have a11 := blk_cell ba 11 rfl; have a12 := blk_cell ba 12 rfl; have a13 := blk_cell ba 13 rfl; have a14 := blk_cell ba 14 rfl; have a15 := blk_cell ba 15 rfl; have Ba := Lib.hid ba; have Kk := Lib.hid kk; have FA := Lib.hid (FA.out.then_ (S2 := fun _ => False) (Fr.then_ (S2 := fun _ => False) (by repeat (first | (with_reducible exact Fr.refl _ _) | (with_reducible refine Fr.drew ?_) | (with_reducible refine Fr.drewN ?_ _) | (with_reducible refine Fr.alloc ?_ _) | (with_reducible refine Fr.set1 ?_ _) | (with_reducible refine Fr.setNew ?_ (by omega) _))) f4 (fun _ h => h.elim)) (fun _ h => h.elim)); clear f4 ba kk)
        | (go_at_call 23; with_reducible refine (HR.out _).mono ?_; rintro e w4 ⟨rfl, f4⟩; have ba := f4.blk Ba.out (fun h => h); have kk := f4.blk Kk.out (fun h => h); have a0 := blk_cell ba 0 rfl; have a1 := blk_cell ba 1 rfl; have a2 := blk_cell ba 2 rfl; have a3 := blk_cell ba 3 rfl; have a4 := blk_cell ba 4 rfl; have a5 := blk_cell ba 5 rfl; have a6 := blk_cell ba 6 rfl; have a7 := blk_cell ba 7 rfl; have a8 := blk_cell ba 8 rfl; have a9 := blk_cell ba 9 rfl; have a10 := blk_cell ba 10 rfl; have a11 := blk_cell ba 11 rfl; have a12 := blk_cell ba 12 rfl; have a13 := blk_cell ba 13 rfl; have a14 := blk_cell ba 14 rfl; have a15 := blk_cell ba 15 rfl; have Ba := Lib.hid ba; have Kk := Lib.hid kk; have FA := Lib.hid (FA.out.then_ (S2 := fun _ => False) (Fr.then_ (S2 := fun _ => False) (by repeat (first | (with_reducible exact Fr.refl _ _) | (with_reducible refine Fr.drew ?_) | (with_reducible refine Fr.drewN ?_ _) | (with_reducible refine Fr.alloc ?_ _) | (with_reducible refine Fr.set1 ?_ _) | (with_reducible refine Fr.setNew ?_ (by omega) _))) f4 (fun _ h => h.elim)) (fun _ h => h.elim)); clear f4 ba kk)
        | (go_at_call 24; refine (rLeft_any _ g (l.drop 108) false (by first | exact Kk.out | (unfold IsR; (repeat (first | (with_reducible refine blk_drew ?_) | (with_reducible refine blk_drewN ?_ _) | (with_reducible refine blk_alloc ?_ _) | (with_reducible refine blk_far2 ?_ (by omega) _))) <;> exact Kk.out))).mono ?_; rintro e w4 ⟨rfl, rfl⟩))
    go_wp2_with fail
    go_ret
    have hfin : (((l.length - 108 : Nat) : Int) == IntKind.i64.wrap ((l.length : Int) - 108)) = true := by rw [IntWalk.i64_in _ (by omega)]; simp; omega
    exact ⟨congrArg (fun b => Ending.returned (Value.bool b)) hfin, FA.out⟩
theorem rdS_app {a r : List Int} {n : Nat} (h : a.length = n) : rdS (a ++ r, false) n = (r, false) := by rw [rdS_good (by rw [List.length_append]; omega), drop_app h]
theorem rdV_app {a r : List Int} {n : Nat} (h : a.length = n) : rdV (a ++ r, false) n = a := by rw [rdV_good (by rw [List.length_append]; omega), take_app h]
theorem numHi_wide {hi lo : Int} (h0 : 0 ≤ hi) (h1 : hi < 18446744073709551616) : numHi (wideBytes hi lo) = hi := by have h := wide_hi (lo := lo) [] h0 h1; rwa [List.append_nil] at h
theorem numLo_wide {hi lo : Int} (h0 : 0 ≤ lo) (h1 : lo < 18446744073709551616) : numLo (wideBytes hi lo) = lo := by have h := wide_lo (hi := hi) [] h0 h1; rwa [List.append_nil] at h
theorem int_again2 {n : Int} (h0 : 0 ≤ n) (h1 : n < 65536) : wrap64 (le (bytesOf n 2)) = n := by
  rw [le_bytesOf]
  simp only [Nat.reduceMul, Int.reducePow]
  unfold wrap64; omega
theorem int_again4 {n : Int} (h0 : 0 ≤ n) (h1 : n < 4294967296) : wrap64 (le (bytesOf n 4)) = n := by
  rw [le_bytesOf]
  simp only [Nat.reduceMul, Int.reducePow]
  unfold wrap64; omega
theorem int_again8 {n : Int} (h0 : -9223372036854775808 ≤ n) (h1 : n ≤ 9223372036854775807) : wrap64 (le (bytesOf n 8)) = n := by
  rw [le_bytesOf]
  simp only [Nat.reduceMul, Int.reducePow]
  unfold wrap64; omega
theorem Tx.again_got {X : Tx} (more : List Int) (h : X.ok) (g : X.good = true) : Tx.got (X.bytes ++ more, false) = X := by
  simp only [Tx.good, decide_eq_true_eq] at g
  unfold Tx.got Tx.bytes
  simp only [List.append_assoc, rdS_app (wideBytes_len _ _), rdV_app (wideBytes_len _ _), rdS_app (blen _ 2), rdV_app (blen _ 2), rdS_app (blen _ 4), rdV_app (blen _ 4), rdS_app (blen _ 8), rdV_app (blen _ 8)]
  rw [numHi_wide h.id.hi0 h.id.hi1, numLo_wide h.id.lo0 h.id.lo1, numHi_wide h.debit.hi0 h.debit.hi1, numLo_wide h.debit.lo0 h.debit.lo1, numHi_wide h.credit.hi0 h.credit.hi1, numLo_wide h.credit.lo0 h.credit.lo1, numHi_wide h.amount.hi0 h.amount.hi1, numLo_wide h.amount.lo0 h.amount.lo1, numHi_wide h.pending.hi0 h.pending.hi1, numLo_wide h.pending.lo0 h.pending.lo1, int_again4 (by have := h.timeout; omega) (by have := h.timeout; omega), int_again4 (by have := h.ledger; omega) (by have := h.ledger; omega), int_again2 (by have := h.code; omega) (by have := h.code; omega), int_again2 (by have := h.flags; omega) (by have := h.flags; omega), int_again8 (by have := h.stamp; omega) (by have := h.stamp; omega), int_again8 (by have := h.born; omega) (by have := h.born; omega)]
theorem Tx.none_ok : Tx.none.ok := ⟨⟨by decide, by decide, by decide, by decide⟩, ⟨by decide, by decide, by decide, by decide⟩, ⟨by decide, by decide, by decide, by decide⟩, ⟨by decide, by decide, by decide, by decide⟩, ⟨by decide, by decide, by decide, by decide⟩, by decide, by decide, by decide, by decide, by decide, by decide⟩
theorem Tx.none_good : Tx.none.good = true := by decide
end Go.Proofs.YtiabpnhkihbkjaaDoor
