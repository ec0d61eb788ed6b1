/- The document's Check of accounts. -/
import Derived.Test.YtpmebmkifdgjcaaDoorAcct
import Derived.Test.YtpmebmkifdgjcaaDoorShow
import Derived.Test.YtpmebmkifdgjcaaDoorFlags
namespace Go.Proofs.YtpmebmkifdgjcaaDoor
open Go.RowKit

theorem heap_new1 (w : World) (o o2 : Obj) : ((w.alloc o).alloc o2).heap[w.heap.size + 1]? = some o2 := by
  have h := heap_alloc_new (w.alloc o) o2
  have e : (w.alloc o).heap.size = w.heap.size + 1 := Array.size_push ..
  rwa [e] at h
theorem bit_two (w : World) (f : Int) (h : 0 ≤ f ∧ f ≤ 7) :
    Calls Tryd.prog 26 #[.int .i64 f, .int .i64 2] w fun e w' => e = .returned (.bool (f / 2 % 2 == 1)) ∧ w' = w := by
  obtain ⟨h0, h1⟩ := h
  have e1 : Int.tdiv f 2 = f / 2 := Int.tdiv_eq_ediv_of_nonneg h0
  have e2 : Int.tmod (f / 2) 2 = f / 2 % 2 := Int.tmod_eq_emod_of_nonneg (by omega)
  go_enter Tryd.func26, Tryd.ntmps26
  go_wp2
  go_ret
  exact ⟨rfl, rfl⟩
theorem bit_four (w : World) (f : Int) (h : 0 ≤ f ∧ f ≤ 7) :
    Calls Tryd.prog 26 #[.int .i64 f, .int .i64 4] w fun e w' => e = .returned (.bool (f / 4 % 2 == 1)) ∧ w' = w := by
  obtain ⟨h0, h1⟩ := h
  have e1 : Int.tdiv f 4 = f / 4 := Int.tdiv_eq_ediv_of_nonneg h0
  have e2 : Int.tmod (f / 4) 2 = f / 4 % 2 := Int.tmod_eq_emod_of_nonneg (by omega)
  go_enter Tryd.func26, Tryd.ntmps26
  go_wp2
  go_ret
  exact ⟨rfl, rfl⟩

theorem most_text : (strOfNums mostL).toList = [51, 52, 48, 50, 56, 50, 51, 54, 54, 57, 50, 48, 57, 51, 56, 52, 54, 51, 52, 54, 51, 51, 55, 52, 54, 48, 55, 52, 51, 49, 55, 54, 56, 50, 49, 49, 52, 53, 53] := by
  rw [ByteArray.toList_eq]; rfl
theorem show_id {x : Nm} (h : x.ok) : ((strOfNums (showL (x.lo + 18446744073709551616 * x.hi))).toList == [51, 52, 48, 50, 56, 50, 51, 54, 54, 57, 50, 48, 57, 51, 56, 52, 54, 51, 52, 54, 51, 51, 55, 52, 54, 48, 55, 52, 51, 49, 55, 54, 56, 50, 49, 49, 52, 53, 53]) = x.most := by
  have := h.hi0; have := h.hi1; have := h.lo0; have := h.lo1
  rw [← most_text, show_most (by omega) (by omega), Nm.most, M64]
  rw [Bool.eq_iff_iff]
  simp only [beq_iff_eq, Bool.and_eq_true]
  omega

/-- What is wrong with an account, as the document asks it. -/
def Acc.refCheck (a : Acc) : Int :=
  if a.flags < 0 ∨ 7 < a.flags then 3 else if a.id.zero = true then 4 else if a.id.most = true then 5 else if (a.flags / 2 % 2 == 1 && a.flags / 4 % 2 == 1) = true then 6 else
  if a.fresh = false then 7 else if a.ledger ≤ 0 ∨ 4294967296 ≤ a.ledger then 8 else if a.code ≤ 0 ∨ 65536 ≤ a.code then 9 else 0

theorem refCheck_eq {a : Acc} (h : a.ok) : a.check = a.refCheck := by
  unfold Acc.check Acc.refCheck
  rw [andNot7 h.flags]
  by_cases h0 : a.flags < 0 ∨ 7 < a.flags
  · simp [h0]
  · have hf : (bits .and .i64 a.flags 6 == 6) = (a.flags / 2 % 2 == 1 && a.flags / 4 % 2 == 1) := by
      have : a.flags = 0 ∨ a.flags = 1 ∨ a.flags = 2 ∨ a.flags = 3 ∨ a.flags = 4 ∨ a.flags = 5 ∨ a.flags = 6 ∨ a.flags = 7 := by omega
      rcases this with e | e | e | e | e | e | e | e <;> rw [e] <;> decide
    rw [hf]
    have e1 : (a.ledger < 1 ∨ 4294967295 < a.ledger) ↔ (a.ledger ≤ 0 ∨ 4294967296 ≤ a.ledger) := by omega
    have e2 : (a.code < 1 ∨ 65535 < a.code) ↔ (a.code ≤ 0 ∨ 65536 ≤ a.code) := by omega
    simp only [e1, e2, decide_eq_true_eq]

theorem chain5n (p q r s t : Bool) : (p = false) ∨ (p = true ∧ q = false) ∨ (p = true ∧ q = true ∧ r = false) ∨ (p = true ∧ q = true ∧ r = true ∧ s = false) ∨ (p = true ∧ q = true ∧ r = true ∧ s = true ∧ t = false) ∨ (p = true ∧ q = true ∧ r = true ∧ s = true ∧ t = true) := chain5 p q r s t

set_option maxHeartbeats 6400000 in
theorem refCheck_any (w : World) (a : Acc) (ho : a.ok) :
    Calls Tryd.prog 10 #[a.val] w fun e w' => e = .returned (.int .i64 a.refCheck) ∧ Fr (fun _ => False) w w' := by
  have he := eqm_Num
  have hcg : ∀ v, a.refCheck = v → Ending.returned (Value.int .i64 v) = Ending.returned (.int .i64 a.refCheck) := fun v h => by rw [h]
  have Hcg := Lib.hid hcg
  clear hcg
  have Hsh := Lib.hid (show ∀ W, Calls Tryd.prog 25 #[.agg #[.int .u64 a.id.hi, .int .u64 a.id.lo]] W fun e w' => e = .returned (.string (strOfNums (showL (a.id.lo + 18446744073709551616 * a.id.hi)))) ∧ Fr (fun _ => False) W w' from fun W => show_any W a.id.hi a.id.lo ho.id.hi0 ho.id.hi1 ho.id.lo0 ho.id.lo1)
  have hsi := show_id ho.id
  obtain ⟨L, hL⟩ : ∃ L, showL (a.id.lo + 18446744073709551616 * a.id.hi) = L := ⟨_, rfl⟩
  rw [hL] at hsi Hsh
  have hb0 := Lib.hid (heap_alloc_new w (.cells #[.int .u64 a.id.hi, .int .u64 a.id.lo, .int .u64 a.dp.hi, .int .u64 a.dp.lo, .int .u64 a.dq.hi, .int .u64 a.dq.lo, .int .u64 a.cp.hi, .int .u64 a.cp.lo, .int .u64 a.cq.hi, .int .u64 a.cq.lo, .int .i64 a.ledger, .int .i64 a.code, .int .i64 a.flags, .int .i64 a.stamp] 26))
  have hb1 := Lib.hid (heap_new1 w (.cells #[.int .u64 a.id.hi, .int .u64 a.id.lo, .int .u64 a.dp.hi, .int .u64 a.dp.lo, .int .u64 a.dq.hi, .int .u64 a.dq.lo, .int .u64 a.cp.hi, .int .u64 a.cp.lo, .int .u64 a.cq.hi, .int .u64 a.cq.lo, .int .i64 a.ledger, .int .i64 a.code, .int .i64 a.flags, .int .i64 a.stamp] 26) (.cells #[.int .u64 0, .int .u64 0] 24))
  clear hL ho
  unfold Acc.val
  rcases (show a.flags < 0 ∨ (¬ a.flags < 0 ∧ 7 < a.flags) ∨ (¬ a.flags < 0 ∧ ¬ 7 < a.flags) from by omega) with f0 | ⟨f0, f1⟩ | ⟨f0, f1⟩
  · have hv := Lib.hid (show a.refCheck = 3 from by simp [Acc.refCheck, f0])
    go_enter Tryd.func10, Tryd.ntmps10
    go_wp2_with fail
    go_ret
    exact ⟨Hcg.out _ hv.out, by repeat (first | (with_reducible exact Fr.refl _ _) | (with_reducible refine Fr.drew ?_) | (with_reducible refine Fr.drewN ?_ _) | (with_reducible refine Fr.alloc ?_ _) | (with_reducible refine Fr.set1 ?_ _) | (with_reducible refine Fr.setNew ?_ (by omega) _))⟩
  · have hv := Lib.hid (show a.refCheck = 3 from by simp [Acc.refCheck, f1])
    go_enter Tryd.func10, Tryd.ntmps10
    go_wp2_with fail
    go_ret
    exact ⟨Hcg.out _ hv.out, by repeat (first | (with_reducible exact Fr.refl _ _) | (with_reducible refine Fr.drew ?_) | (with_reducible refine Fr.drewN ?_ _) | (with_reducible refine Fr.alloc ?_ _) | (with_reducible refine Fr.set1 ?_ _) | (with_reducible refine Fr.setNew ?_ (by omega) _))⟩
  have hfl := Lib.hid (show ¬ (a.flags < 0 ∨ 7 < a.flags) from by omega)
  cases hz : (a.id.hi == 0 && a.id.lo == 0)
  case true =>
    have hv := Lib.hid (show a.refCheck = 4 from by simp only [Acc.refCheck, if_neg hfl.out, Nm.zero, hz, if_pos])
    go_enter Tryd.func10, Tryd.ntmps10
    go_wp2_with fail
    go_ret
    exact ⟨Hcg.out _ hv.out, by repeat (first | (with_reducible exact Fr.refl _ _) | (with_reducible refine Fr.drew ?_) | (with_reducible refine Fr.drewN ?_ _) | (with_reducible refine Fr.alloc ?_ _) | (with_reducible refine Fr.set1 ?_ _) | (with_reducible refine Fr.setNew ?_ (by omega) _))⟩
  cases hm : a.id.most
  case true =>
    rw [hm] at hsi
    have hv := Lib.hid (show a.refCheck = 5 from by simp only [Acc.refCheck, if_neg hfl.out, Nm.zero, hz, hm, if_pos]; rfl)
    clear hm
    go_enter Tryd.func10, Tryd.ntmps10
    go_wp2_with (go_at_call 25; go_must (refine (Hsh.out _).mono ?_; rintro e w1 ⟨rfl, f1⟩; have F1 := Lib.hid f1; clear f1))
    go_ret
    exact ⟨Hcg.out _ hv.out, by have f1 := F1.out; exact Fr.then_ (by repeat (first | (with_reducible exact Fr.refl _ _) | (with_reducible refine Fr.drew ?_) | (with_reducible refine Fr.drewN ?_ _) | (with_reducible refine Fr.alloc ?_ _) | (with_reducible refine Fr.set1 ?_ _) | (with_reducible refine Fr.setNew ?_ (by omega) _))) f1 (fun _ h => h.elim)⟩
  rw [hm] at hsi
  have Hm := Lib.hid hm
  have Hf7 := Lib.hid (show 0 ≤ a.flags ∧ a.flags ≤ 7 from by omega)
  clear hm
  rcases (show (a.flags / 2 % 2 == 1) = false ∨ ((a.flags / 2 % 2 == 1) = true ∧ (a.flags / 4 % 2 == 1) = true) ∨ ((a.flags / 2 % 2 == 1) = true ∧ (a.flags / 4 % 2 == 1) = false) from by cases (a.flags / 2 % 2 == 1) <;> cases (a.flags / 4 % 2 == 1) <;> simp) with hq | ⟨hq, hr⟩ | ⟨hq, hr⟩
  rotate_left
  · have hv := Lib.hid (show a.refCheck = 6 from by simp only [Acc.refCheck, if_neg hfl.out, Nm.zero, hz, Hm.out, hq, hr]; rfl)
    go_enter Tryd.func10, Tryd.ntmps10
    go_wp2_with (first | (go_at_call 25; go_must (refine (Hsh.out _).mono ?_; rintro e w1 ⟨rfl, f1⟩; have ba : w1.heap[w.heap.size]? = some (.cells #[.int .u64 a.id.hi, .int .u64 a.id.lo, .int .u64 a.dp.hi, .int .u64 a.dp.lo, .int .u64 a.dq.hi, .int .u64 a.dq.lo, .int .u64 a.cp.hi, .int .u64 a.cp.lo, .int .u64 a.cq.hi, .int .u64 a.cq.lo, .int .i64 a.ledger, .int .i64 a.code, .int .i64 a.flags, .int .i64 a.stamp] 26 (0, 0)) := f1.blk (by repeat (first | (with_reducible refine blk_drew ?_) | (with_reducible refine blk_drewN ?_ _) | (with_reducible refine blk_alloc ?_ _) | (with_reducible refine blk_far2 ?_ (by omega) _)); exact hb0.out) (fun h => h); have a0 := blk_cell ba 0 rfl; have a1 := blk_cell ba 1 rfl; have a2 := blk_cell ba 2 rfl; have a3 := blk_cell ba 3 rfl; have a4 := blk_cell ba 4 rfl; have a5 := blk_cell ba 5 rfl; have a6 := blk_cell ba 6 rfl; have a7 := blk_cell ba 7 rfl; have a8 := blk_cell ba 8 rfl; have a9 := blk_cell ba 9 rfl; have a10 := blk_cell ba 10 rfl; have a11 := blk_cell ba 11 rfl; have a12 := blk_cell ba 12 rfl; have a13 := blk_cell ba 13 rfl; have bz : w1.heap[w.heap.size + 1]? = some (.cells #[.int .u64 0, .int .u64 0] 24 (0, 0)) := f1.blk (by first | (with_reducible exact hb1.out) | (with_reducible exact blk_alloc hb1.out _)) (fun h => h); have z0 := blk_cell bz 0 rfl; have z1 := blk_cell bz 1 rfl; have F1 := Lib.hid f1; clear f1 ba bz)) | (go_at_call 26; first | (with_reducible refine (bit_two _ a.flags Hf7.out).mono ?_; rintro e w2 ⟨rfl, rfl⟩) | (with_reducible refine (bit_four _ a.flags Hf7.out).mono ?_; rintro e w2 ⟨rfl, rfl⟩)))
    go_ret
    exact ⟨Hcg.out _ hv.out, by have f1 := F1.out; exact Fr.then_ (by repeat (first | (with_reducible exact Fr.refl _ _) | (with_reducible refine Fr.drew ?_) | (with_reducible refine Fr.drewN ?_ _) | (with_reducible refine Fr.alloc ?_ _) | (with_reducible refine Fr.set1 ?_ _) | (with_reducible refine Fr.setNew ?_ (by omega) _))) f1 (fun _ h => h.elim)⟩
  rotate_left
  all_goals
    have Hq := Lib.hid (show (a.flags / 2 % 2 == 1 && a.flags / 4 % 2 == 1) = false from by simp only [*, Bool.and_false, Bool.false_and])
    rcases chain5 (a.dp.hi == 0 && a.dp.lo == 0) (a.dq.hi == 0 && a.dq.lo == 0) (a.cp.hi == 0 && a.cp.lo == 0) (a.cq.hi == 0 && a.cq.lo == 0) (a.stamp == 0) with g1 | ⟨g1, g2⟩ | ⟨g1, g2, g3⟩ | ⟨g1, g2, g3, g4⟩ | ⟨g1, g2, g3, g4, g5⟩ | ⟨g1, g2, g3, g4, g5⟩
    · have hv := Lib.hid (show a.refCheck = 7 from by
        have hfr : a.fresh = false := by simp only [Acc.fresh, Nm.zero, g1, Bool.true_and, Bool.false_and]
        simp only [Acc.refCheck, if_neg hfl.out, Nm.zero, hz, Hm.out, Hq.out, hfr]; rfl)
      go_enter Tryd.func10, Tryd.ntmps10
      go_wp2_with (first | (go_at_call 25; go_must (refine (Hsh.out _).mono ?_; rintro e w1 ⟨rfl, f1⟩; have ba : w1.heap[w.heap.size]? = some (.cells #[.int .u64 a.id.hi, .int .u64 a.id.lo, .int .u64 a.dp.hi, .int .u64 a.dp.lo, .int .u64 a.dq.hi, .int .u64 a.dq.lo, .int .u64 a.cp.hi, .int .u64 a.cp.lo, .int .u64 a.cq.hi, .int .u64 a.cq.lo, .int .i64 a.ledger, .int .i64 a.code, .int .i64 a.flags, .int .i64 a.stamp] 26 (0, 0)) := f1.blk (by repeat (first | (with_reducible refine blk_drew ?_) | (with_reducible refine blk_drewN ?_ _) | (with_reducible refine blk_alloc ?_ _) | (with_reducible refine blk_far2 ?_ (by omega) _)); exact hb0.out) (fun h => h); have a0 := blk_cell ba 0 rfl; have a1 := blk_cell ba 1 rfl; have a2 := blk_cell ba 2 rfl; have a3 := blk_cell ba 3 rfl; have a4 := blk_cell ba 4 rfl; have a5 := blk_cell ba 5 rfl; have a6 := blk_cell ba 6 rfl; have a7 := blk_cell ba 7 rfl; have a8 := blk_cell ba 8 rfl; have a9 := blk_cell ba 9 rfl; have a10 := blk_cell ba 10 rfl; have a11 := blk_cell ba 11 rfl; have a12 := blk_cell ba 12 rfl; have a13 := blk_cell ba 13 rfl; have bz : w1.heap[w.heap.size + 1]? = some (.cells #[.int .u64 0, .int .u64 0] 24 (0, 0)) := f1.blk (by first | (with_reducible exact hb1.out) | (with_reducible exact blk_alloc hb1.out _)) (fun h => h); have z0 := blk_cell bz 0 rfl; have z1 := blk_cell bz 1 rfl; have F1 := Lib.hid f1; clear f1 ba bz)) | (go_at_call 26; first | (with_reducible refine (bit_two _ a.flags Hf7.out).mono ?_; rintro e w2 ⟨rfl, rfl⟩) | (with_reducible refine (bit_four _ a.flags Hf7.out).mono ?_; rintro e w2 ⟨rfl, rfl⟩)))
      go_ret
      exact ⟨Hcg.out _ hv.out, by have f1 := F1.out; exact Fr.then_ (by repeat (first | (with_reducible exact Fr.refl _ _) | (with_reducible refine Fr.drew ?_) | (with_reducible refine Fr.drewN ?_ _) | (with_reducible refine Fr.alloc ?_ _) | (with_reducible refine Fr.set1 ?_ _) | (with_reducible refine Fr.setNew ?_ (by omega) _))) f1 (fun _ h => h.elim)⟩
    · have hv := Lib.hid (show a.refCheck = 7 from by
        have hfr : a.fresh = false := by simp only [Acc.fresh, Nm.zero, g1, g2, Bool.true_and, Bool.false_and]
        simp only [Acc.refCheck, if_neg hfl.out, Nm.zero, hz, Hm.out, Hq.out, hfr]; rfl)
      go_enter Tryd.func10, Tryd.ntmps10
      go_wp2_with (first | (go_at_call 25; go_must (refine (Hsh.out _).mono ?_; rintro e w1 ⟨rfl, f1⟩; have ba : w1.heap[w.heap.size]? = some (.cells #[.int .u64 a.id.hi, .int .u64 a.id.lo, .int .u64 a.dp.hi, .int .u64 a.dp.lo, .int .u64 a.dq.hi, .int .u64 a.dq.lo, .int .u64 a.cp.hi, .int .u64 a.cp.lo, .int .u64 a.cq.hi, .int .u64 a.cq.lo, .int .i64 a.ledger, .int .i64 a.code, .int .i64 a.flags, .int .i64 a.stamp] 26 (0, 0)) := f1.blk (by repeat (first | (with_reducible refine blk_drew ?_) | (with_reducible refine blk_drewN ?_ _) | (with_reducible refine blk_alloc ?_ _) | (with_reducible refine blk_far2 ?_ (by omega) _)); exact hb0.out) (fun h => h); have a0 := blk_cell ba 0 rfl; have a1 := blk_cell ba 1 rfl; have a2 := blk_cell ba 2 rfl; have a3 := blk_cell ba 3 rfl; have a4 := blk_cell ba 4 rfl; have a5 := blk_cell ba 5 rfl; have a6 := blk_cell ba 6 rfl; have a7 := blk_cell ba 7 rfl; have a8 := blk_cell ba 8 rfl; have a9 := blk_cell ba 9 rfl; have a10 := blk_cell ba 10 rfl; have a11 := blk_cell ba 11 rfl; have a12 := blk_cell ba 12 rfl; have a13 := blk_cell ba 13 rfl; have bz : w1.heap[w.heap.size + 1]? = some (.cells #[.int .u64 0, .int .u64 0] 24 (0, 0)) := f1.blk (by first | (with_reducible exact hb1.out) | (with_reducible exact blk_alloc hb1.out _)) (fun h => h); have z0 := blk_cell bz 0 rfl; have z1 := blk_cell bz 1 rfl; have F1 := Lib.hid f1; clear f1 ba bz)) | (go_at_call 26; first | (with_reducible refine (bit_two _ a.flags Hf7.out).mono ?_; rintro e w2 ⟨rfl, rfl⟩) | (with_reducible refine (bit_four _ a.flags Hf7.out).mono ?_; rintro e w2 ⟨rfl, rfl⟩)))
      go_ret
      exact ⟨Hcg.out _ hv.out, by have f1 := F1.out; exact Fr.then_ (by repeat (first | (with_reducible exact Fr.refl _ _) | (with_reducible refine Fr.drew ?_) | (with_reducible refine Fr.drewN ?_ _) | (with_reducible refine Fr.alloc ?_ _) | (with_reducible refine Fr.set1 ?_ _) | (with_reducible refine Fr.setNew ?_ (by omega) _))) f1 (fun _ h => h.elim)⟩
    · have hv := Lib.hid (show a.refCheck = 7 from by
        have hfr : a.fresh = false := by simp only [Acc.fresh, Nm.zero, g1, g2, g3, Bool.true_and, Bool.false_and]
        simp only [Acc.refCheck, if_neg hfl.out, Nm.zero, hz, Hm.out, Hq.out, hfr]; rfl)
      go_enter Tryd.func10, Tryd.ntmps10
      go_wp2_with (first | (go_at_call 25; go_must (refine (Hsh.out _).mono ?_; rintro e w1 ⟨rfl, f1⟩; have ba : w1.heap[w.heap.size]? = some (.cells #[.int .u64 a.id.hi, .int .u64 a.id.lo, .int .u64 a.dp.hi, .int .u64 a.dp.lo, .int .u64 a.dq.hi, .int .u64 a.dq.lo, .int .u64 a.cp.hi, .int .u64 a.cp.lo, .int .u64 a.cq.hi, .int .u64 a.cq.lo, .int .i64 a.ledger, .int .i64 a.code, .int .i64 a.flags, .int .i64 a.stamp] 26 (0, 0)) := f1.blk (by repeat (first | (with_reducible refine blk_drew ?_) | (with_reducible refine blk_drewN ?_ _) | (with_reducible refine blk_alloc ?_ _) | (with_reducible refine blk_far2 ?_ (by omega) _)); exact hb0.out) (fun h => h); have a0 := blk_cell ba 0 rfl; have a1 := blk_cell ba 1 rfl; have a2 := blk_cell ba 2 rfl; have a3 := blk_cell ba 3 rfl; have a4 := blk_cell ba 4 rfl; have a5 := blk_cell ba 5 rfl; have a6 := blk_cell ba 6 rfl; have a7 := blk_cell ba 7 rfl; have a8 := blk_cell ba 8 rfl; have a9 := blk_cell ba 9 rfl; have a10 := blk_cell ba 10 rfl; have a11 := blk_cell ba 11 rfl; have a12 := blk_cell ba 12 rfl; have a13 := blk_cell ba 13 rfl; have bz : w1.heap[w.heap.size + 1]? = some (.cells #[.int .u64 0, .int .u64 0] 24 (0, 0)) := f1.blk (by first | (with_reducible exact hb1.out) | (with_reducible exact blk_alloc hb1.out _)) (fun h => h); have z0 := blk_cell bz 0 rfl; have z1 := blk_cell bz 1 rfl; have F1 := Lib.hid f1; clear f1 ba bz)) | (go_at_call 26; first | (with_reducible refine (bit_two _ a.flags Hf7.out).mono ?_; rintro e w2 ⟨rfl, rfl⟩) | (with_reducible refine (bit_four _ a.flags Hf7.out).mono ?_; rintro e w2 ⟨rfl, rfl⟩)))
      go_ret
      exact ⟨Hcg.out _ hv.out, by have f1 := F1.out; exact Fr.then_ (by repeat (first | (with_reducible exact Fr.refl _ _) | (with_reducible refine Fr.drew ?_) | (with_reducible refine Fr.drewN ?_ _) | (with_reducible refine Fr.alloc ?_ _) | (with_reducible refine Fr.set1 ?_ _) | (with_reducible refine Fr.setNew ?_ (by omega) _))) f1 (fun _ h => h.elim)⟩
    · have hv := Lib.hid (show a.refCheck = 7 from by
        have hfr : a.fresh = false := by simp only [Acc.fresh, Nm.zero, g1, g2, g3, g4, Bool.true_and, Bool.false_and]
        simp only [Acc.refCheck, if_neg hfl.out, Nm.zero, hz, Hm.out, Hq.out, hfr]; rfl)
      go_enter Tryd.func10, Tryd.ntmps10
      go_wp2_with (first | (go_at_call 25; go_must (refine (Hsh.out _).mono ?_; rintro e w1 ⟨rfl, f1⟩; have ba : w1.heap[w.heap.size]? = some (.cells #[.int .u64 a.id.hi, .int .u64 a.id.lo, .int .u64 a.dp.hi, .int .u64 a.dp.lo, .int .u64 a.dq.hi, .int .u64 a.dq.lo, .int .u64 a.cp.hi, .int .u64 a.cp.lo, .int .u64 a.cq.hi, .int .u64 a.cq.lo, .int .i64 a.ledger, .int .i64 a.code, .int .i64 a.flags, .int .i64 a.stamp] 26 (0, 0)) := f1.blk (by repeat (first | (with_reducible refine blk_drew ?_) | (with_reducible refine blk_drewN ?_ _) | (with_reducible refine blk_alloc ?_ _) | (with_reducible refine blk_far2 ?_ (by omega) _)); exact hb0.out) (fun h => h); have a0 := blk_cell ba 0 rfl; have a1 := blk_cell ba 1 rfl; have a2 := blk_cell ba 2 rfl; have a3 := blk_cell ba 3 rfl; have a4 := blk_cell ba 4 rfl; have a5 := blk_cell ba 5 rfl; have a6 := blk_cell ba 6 rfl; have a7 := blk_cell ba 7 rfl; have a8 := blk_cell ba 8 rfl; have a9 := blk_cell ba 9 rfl; have a10 := blk_cell ba 10 rfl; have a11 := blk_cell ba 11 rfl; have a12 := blk_cell ba 12 rfl; have a13 := blk_cell ba 13 rfl; have bz : w1.heap[w.heap.size + 1]? = some (.cells #[.int .u64 0, .int .u64 0] 24 (0, 0)) := f1.blk (by first | (with_reducible exact hb1.out) | (with_reducible exact blk_alloc hb1.out _)) (fun h => h); have z0 := blk_cell bz 0 rfl; have z1 := blk_cell bz 1 rfl; have F1 := Lib.hid f1; clear f1 ba bz)) | (go_at_call 26; first | (with_reducible refine (bit_two _ a.flags Hf7.out).mono ?_; rintro e w2 ⟨rfl, rfl⟩) | (with_reducible refine (bit_four _ a.flags Hf7.out).mono ?_; rintro e w2 ⟨rfl, rfl⟩)))
      go_ret
      exact ⟨Hcg.out _ hv.out, by have f1 := F1.out; exact Fr.then_ (by repeat (first | (with_reducible exact Fr.refl _ _) | (with_reducible refine Fr.drew ?_) | (with_reducible refine Fr.drewN ?_ _) | (with_reducible refine Fr.alloc ?_ _) | (with_reducible refine Fr.set1 ?_ _) | (with_reducible refine Fr.setNew ?_ (by omega) _))) f1 (fun _ h => h.elim)⟩
    · have hv := Lib.hid (show a.refCheck = 7 from by
        have hfr : a.fresh = false := by simp only [Acc.fresh, Nm.zero, g1, g2, g3, g4, g5, Bool.true_and, Bool.false_and]
        simp only [Acc.refCheck, if_neg hfl.out, Nm.zero, hz, Hm.out, Hq.out, hfr]; rfl)
      go_enter Tryd.func10, Tryd.ntmps10
      go_wp2_with (first | (go_at_call 25; go_must (refine (Hsh.out _).mono ?_; rintro e w1 ⟨rfl, f1⟩; have ba : w1.heap[w.heap.size]? = some (.cells #[.int .u64 a.id.hi, .int .u64 a.id.lo, .int .u64 a.dp.hi, .int .u64 a.dp.lo, .int .u64 a.dq.hi, .int .u64 a.dq.lo, .int .u64 a.cp.hi, .int .u64 a.cp.lo, .int .u64 a.cq.hi, .int .u64 a.cq.lo, .int .i64 a.ledger, .int .i64 a.code, .int .i64 a.flags, .int .i64 a.stamp] 26 (0, 0)) := f1.blk (by repeat (first | (with_reducible refine blk_drew ?_) | (with_reducible refine blk_drewN ?_ _) | (with_reducible refine blk_alloc ?_ _) | (with_reducible refine blk_far2 ?_ (by omega) _)); exact hb0.out) (fun h => h); have a0 := blk_cell ba 0 rfl; have a1 := blk_cell ba 1 rfl; have a2 := blk_cell ba 2 rfl; have a3 := blk_cell ba 3 rfl; have a4 := blk_cell ba 4 rfl; have a5 := blk_cell ba 5 rfl; have a6 := blk_cell ba 6 rfl; have a7 := blk_cell ba 7 rfl; have a8 := blk_cell ba 8 rfl; have a9 := blk_cell ba 9 rfl; have a10 := blk_cell ba 10 rfl; have a11 := blk_cell ba 11 rfl; have a12 := blk_cell ba 12 rfl; have a13 := blk_cell ba 13 rfl; have bz : w1.heap[w.heap.size + 1]? = some (.cells #[.int .u64 0, .int .u64 0] 24 (0, 0)) := f1.blk (by first | (with_reducible exact hb1.out) | (with_reducible exact blk_alloc hb1.out _)) (fun h => h); have z0 := blk_cell bz 0 rfl; have z1 := blk_cell bz 1 rfl; have F1 := Lib.hid f1; clear f1 ba bz)) | (go_at_call 26; first | (with_reducible refine (bit_two _ a.flags Hf7.out).mono ?_; rintro e w2 ⟨rfl, rfl⟩) | (with_reducible refine (bit_four _ a.flags Hf7.out).mono ?_; rintro e w2 ⟨rfl, rfl⟩)))
      go_ret
      exact ⟨Hcg.out _ hv.out, by have f1 := F1.out; exact Fr.then_ (by repeat (first | (with_reducible exact Fr.refl _ _) | (with_reducible refine Fr.drew ?_) | (with_reducible refine Fr.drewN ?_ _) | (with_reducible refine Fr.alloc ?_ _) | (with_reducible refine Fr.set1 ?_ _) | (with_reducible refine Fr.setNew ?_ (by omega) _))) f1 (fun _ h => h.elim)⟩
    have hfr : a.fresh = true := by simp only [Acc.fresh, Nm.zero, g1, g2, g3, g4, g5, Bool.true_and]
    have Hfr := Lib.hid hfr
    clear hfr
    rcases (show a.ledger ≤ 0 ∨ (¬ a.ledger ≤ 0 ∧ 4294967296 ≤ a.ledger) ∨ (¬ a.ledger ≤ 0 ∧ ¬ 4294967296 ≤ a.ledger ∧ a.code ≤ 0) ∨ (¬ a.ledger ≤ 0 ∧ ¬ 4294967296 ≤ a.ledger ∧ ¬ a.code ≤ 0 ∧ 65536 ≤ a.code) ∨ (¬ a.ledger ≤ 0 ∧ ¬ 4294967296 ≤ a.ledger ∧ ¬ a.code ≤ 0 ∧ ¬ 65536 ≤ a.code) from by omega) with k1 | ⟨k1, k2⟩ | ⟨k1, k2, k3⟩ | ⟨k1, k2, k3, k4⟩ | ⟨k1, k2, k3, k4⟩
    · have hv := Lib.hid (show a.refCheck = 8 from by
        simp only [Acc.refCheck, if_neg hfl.out, Nm.zero, hz, Hm.out, Hq.out, Hfr.out]; simp [k1])
      go_enter Tryd.func10, Tryd.ntmps10
      go_wp2_with (first | (go_at_call 25; go_must (refine (Hsh.out _).mono ?_; rintro e w1 ⟨rfl, f1⟩; have ba : w1.heap[w.heap.size]? = some (.cells #[.int .u64 a.id.hi, .int .u64 a.id.lo, .int .u64 a.dp.hi, .int .u64 a.dp.lo, .int .u64 a.dq.hi, .int .u64 a.dq.lo, .int .u64 a.cp.hi, .int .u64 a.cp.lo, .int .u64 a.cq.hi, .int .u64 a.cq.lo, .int .i64 a.ledger, .int .i64 a.code, .int .i64 a.flags, .int .i64 a.stamp] 26 (0, 0)) := f1.blk (by repeat (first | (with_reducible refine blk_drew ?_) | (with_reducible refine blk_drewN ?_ _) | (with_reducible refine blk_alloc ?_ _) | (with_reducible refine blk_far2 ?_ (by omega) _)); exact hb0.out) (fun h => h); have a0 := blk_cell ba 0 rfl; have a1 := blk_cell ba 1 rfl; have a2 := blk_cell ba 2 rfl; have a3 := blk_cell ba 3 rfl; have a4 := blk_cell ba 4 rfl; have a5 := blk_cell ba 5 rfl; have a6 := blk_cell ba 6 rfl; have a7 := blk_cell ba 7 rfl; have a8 := blk_cell ba 8 rfl; have a9 := blk_cell ba 9 rfl; have a10 := blk_cell ba 10 rfl; have a11 := blk_cell ba 11 rfl; have a12 := blk_cell ba 12 rfl; have a13 := blk_cell ba 13 rfl; have bz : w1.heap[w.heap.size + 1]? = some (.cells #[.int .u64 0, .int .u64 0] 24 (0, 0)) := f1.blk (by first | (with_reducible exact hb1.out) | (with_reducible exact blk_alloc hb1.out _)) (fun h => h); have z0 := blk_cell bz 0 rfl; have z1 := blk_cell bz 1 rfl; have F1 := Lib.hid f1; clear f1 ba bz)) | (go_at_call 26; first | (with_reducible refine (bit_two _ a.flags Hf7.out).mono ?_; rintro e w2 ⟨rfl, rfl⟩) | (with_reducible refine (bit_four _ a.flags Hf7.out).mono ?_; rintro e w2 ⟨rfl, rfl⟩)))
      go_ret
      exact ⟨Hcg.out _ hv.out, by have f1 := F1.out; exact Fr.then_ (by repeat (first | (with_reducible exact Fr.refl _ _) | (with_reducible refine Fr.drew ?_) | (with_reducible refine Fr.drewN ?_ _) | (with_reducible refine Fr.alloc ?_ _) | (with_reducible refine Fr.set1 ?_ _) | (with_reducible refine Fr.setNew ?_ (by omega) _))) f1 (fun _ h => h.elim)⟩
    · have hv := Lib.hid (show a.refCheck = 8 from by
        simp only [Acc.refCheck, if_neg hfl.out, Nm.zero, hz, Hm.out, Hq.out, Hfr.out]; simp [k1, k2])
      go_enter Tryd.func10, Tryd.ntmps10
      go_wp2_with (first | (go_at_call 25; go_must (refine (Hsh.out _).mono ?_; rintro e w1 ⟨rfl, f1⟩; have ba : w1.heap[w.heap.size]? = some (.cells #[.int .u64 a.id.hi, .int .u64 a.id.lo, .int .u64 a.dp.hi, .int .u64 a.dp.lo, .int .u64 a.dq.hi, .int .u64 a.dq.lo, .int .u64 a.cp.hi, .int .u64 a.cp.lo, .int .u64 a.cq.hi, .int .u64 a.cq.lo, .int .i64 a.ledger, .int .i64 a.code, .int .i64 a.flags, .int .i64 a.stamp] 26 (0, 0)) := f1.blk (by repeat (first | (with_reducible refine blk_drew ?_) | (with_reducible refine blk_drewN ?_ _) | (with_reducible refine blk_alloc ?_ _) | (with_reducible refine blk_far2 ?_ (by omega) _)); exact hb0.out) (fun h => h); have a0 := blk_cell ba 0 rfl; have a1 := blk_cell ba 1 rfl; have a2 := blk_cell ba 2 rfl; have a3 := blk_cell ba 3 rfl; have a4 := blk_cell ba 4 rfl; have a5 := blk_cell ba 5 rfl; have a6 := blk_cell ba 6 rfl; have a7 := blk_cell ba 7 rfl; have a8 := blk_cell ba 8 rfl; have a9 := blk_cell ba 9 rfl; have a10 := blk_cell ba 10 rfl; have a11 := blk_cell ba 11 rfl; have a12 := blk_cell ba 12 rfl; have a13 := blk_cell ba 13 rfl; have bz : w1.heap[w.heap.size + 1]? = some (.cells #[.int .u64 0, .int .u64 0] 24 (0, 0)) := f1.blk (by first | (with_reducible exact hb1.out) | (with_reducible exact blk_alloc hb1.out _)) (fun h => h); have z0 := blk_cell bz 0 rfl; have z1 := blk_cell bz 1 rfl; have F1 := Lib.hid f1; clear f1 ba bz)) | (go_at_call 26; first | (with_reducible refine (bit_two _ a.flags Hf7.out).mono ?_; rintro e w2 ⟨rfl, rfl⟩) | (with_reducible refine (bit_four _ a.flags Hf7.out).mono ?_; rintro e w2 ⟨rfl, rfl⟩)))
      go_ret
      exact ⟨Hcg.out _ hv.out, by have f1 := F1.out; exact Fr.then_ (by repeat (first | (with_reducible exact Fr.refl _ _) | (with_reducible refine Fr.drew ?_) | (with_reducible refine Fr.drewN ?_ _) | (with_reducible refine Fr.alloc ?_ _) | (with_reducible refine Fr.set1 ?_ _) | (with_reducible refine Fr.setNew ?_ (by omega) _))) f1 (fun _ h => h.elim)⟩
    · have hv := Lib.hid (show a.refCheck = 9 from by
        simp only [Acc.refCheck, if_neg hfl.out, Nm.zero, hz, Hm.out, Hq.out, Hfr.out]; simp [k1, k2, k3])
      go_enter Tryd.func10, Tryd.ntmps10
      go_wp2_with (first | (go_at_call 25; go_must (refine (Hsh.out _).mono ?_; rintro e w1 ⟨rfl, f1⟩; have ba : w1.heap[w.heap.size]? = some (.cells #[.int .u64 a.id.hi, .int .u64 a.id.lo, .int .u64 a.dp.hi, .int .u64 a.dp.lo, .int .u64 a.dq.hi, .int .u64 a.dq.lo, .int .u64 a.cp.hi, .int .u64 a.cp.lo, .int .u64 a.cq.hi, .int .u64 a.cq.lo, .int .i64 a.ledger, .int .i64 a.code, .int .i64 a.flags, .int .i64 a.stamp] 26 (0, 0)) := f1.blk (by repeat (first | (with_reducible refine blk_drew ?_) | (with_reducible refine blk_drewN ?_ _) | (with_reducible refine blk_alloc ?_ _) | (with_reducible refine blk_far2 ?_ (by omega) _)); exact hb0.out) (fun h => h); have a0 := blk_cell ba 0 rfl; have a1 := blk_cell ba 1 rfl; have a2 := blk_cell ba 2 rfl; have a3 := blk_cell ba 3 rfl; have a4 := blk_cell ba 4 rfl; have a5 := blk_cell ba 5 rfl; have a6 := blk_cell ba 6 rfl; have a7 := blk_cell ba 7 rfl; have a8 := blk_cell ba 8 rfl; have a9 := blk_cell ba 9 rfl; have a10 := blk_cell ba 10 rfl; have a11 := blk_cell ba 11 rfl; have a12 := blk_cell ba 12 rfl; have a13 := blk_cell ba 13 rfl; have bz : w1.heap[w.heap.size + 1]? = some (.cells #[.int .u64 0, .int .u64 0] 24 (0, 0)) := f1.blk (by first | (with_reducible exact hb1.out) | (with_reducible exact blk_alloc hb1.out _)) (fun h => h); have z0 := blk_cell bz 0 rfl; have z1 := blk_cell bz 1 rfl; have F1 := Lib.hid f1; clear f1 ba bz)) | (go_at_call 26; first | (with_reducible refine (bit_two _ a.flags Hf7.out).mono ?_; rintro e w2 ⟨rfl, rfl⟩) | (with_reducible refine (bit_four _ a.flags Hf7.out).mono ?_; rintro e w2 ⟨rfl, rfl⟩)))
      go_ret
      exact ⟨Hcg.out _ hv.out, by have f1 := F1.out; exact Fr.then_ (by repeat (first | (with_reducible exact Fr.refl _ _) | (with_reducible refine Fr.drew ?_) | (with_reducible refine Fr.drewN ?_ _) | (with_reducible refine Fr.alloc ?_ _) | (with_reducible refine Fr.set1 ?_ _) | (with_reducible refine Fr.setNew ?_ (by omega) _))) f1 (fun _ h => h.elim)⟩
    · have hv := Lib.hid (show a.refCheck = 9 from by
        simp only [Acc.refCheck, if_neg hfl.out, Nm.zero, hz, Hm.out, Hq.out, Hfr.out]; simp [k1, k2, k3, k4])
      go_enter Tryd.func10, Tryd.ntmps10
      go_wp2_with (first | (go_at_call 25; go_must (refine (Hsh.out _).mono ?_; rintro e w1 ⟨rfl, f1⟩; have ba : w1.heap[w.heap.size]? = some (.cells #[.int .u64 a.id.hi, .int .u64 a.id.lo, .int .u64 a.dp.hi, .int .u64 a.dp.lo, .int .u64 a.dq.hi, .int .u64 a.dq.lo, .int .u64 a.cp.hi, .int .u64 a.cp.lo, .int .u64 a.cq.hi, .int .u64 a.cq.lo, .int .i64 a.ledger, .int .i64 a.code, .int .i64 a.flags, .int .i64 a.stamp] 26 (0, 0)) := f1.blk (by repeat (first | (with_reducible refine blk_drew ?_) | (with_reducible refine blk_drewN ?_ _) | (with_reducible refine blk_alloc ?_ _) | (with_reducible refine blk_far2 ?_ (by omega) _)); exact hb0.out) (fun h => h); have a0 := blk_cell ba 0 rfl; have a1 := blk_cell ba 1 rfl; have a2 := blk_cell ba 2 rfl; have a3 := blk_cell ba 3 rfl; have a4 := blk_cell ba 4 rfl; have a5 := blk_cell ba 5 rfl; have a6 := blk_cell ba 6 rfl; have a7 := blk_cell ba 7 rfl; have a8 := blk_cell ba 8 rfl; have a9 := blk_cell ba 9 rfl; have a10 := blk_cell ba 10 rfl; have a11 := blk_cell ba 11 rfl; have a12 := blk_cell ba 12 rfl; have a13 := blk_cell ba 13 rfl; have bz : w1.heap[w.heap.size + 1]? = some (.cells #[.int .u64 0, .int .u64 0] 24 (0, 0)) := f1.blk (by first | (with_reducible exact hb1.out) | (with_reducible exact blk_alloc hb1.out _)) (fun h => h); have z0 := blk_cell bz 0 rfl; have z1 := blk_cell bz 1 rfl; have F1 := Lib.hid f1; clear f1 ba bz)) | (go_at_call 26; first | (with_reducible refine (bit_two _ a.flags Hf7.out).mono ?_; rintro e w2 ⟨rfl, rfl⟩) | (with_reducible refine (bit_four _ a.flags Hf7.out).mono ?_; rintro e w2 ⟨rfl, rfl⟩)))
      go_ret
      exact ⟨Hcg.out _ hv.out, by have f1 := F1.out; exact Fr.then_ (by repeat (first | (with_reducible exact Fr.refl _ _) | (with_reducible refine Fr.drew ?_) | (with_reducible refine Fr.drewN ?_ _) | (with_reducible refine Fr.alloc ?_ _) | (with_reducible refine Fr.set1 ?_ _) | (with_reducible refine Fr.setNew ?_ (by omega) _))) f1 (fun _ h => h.elim)⟩
    · have hv := Lib.hid (show a.refCheck = 0 from by
        simp only [Acc.refCheck, if_neg hfl.out, Nm.zero, hz, Hm.out, Hq.out, Hfr.out]; simp [k1, k2, k3, k4])
      go_enter Tryd.func10, Tryd.ntmps10
      go_wp2_with (first | (go_at_call 25; go_must (refine (Hsh.out _).mono ?_; rintro e w1 ⟨rfl, f1⟩; have ba : w1.heap[w.heap.size]? = some (.cells #[.int .u64 a.id.hi, .int .u64 a.id.lo, .int .u64 a.dp.hi, .int .u64 a.dp.lo, .int .u64 a.dq.hi, .int .u64 a.dq.lo, .int .u64 a.cp.hi, .int .u64 a.cp.lo, .int .u64 a.cq.hi, .int .u64 a.cq.lo, .int .i64 a.ledger, .int .i64 a.code, .int .i64 a.flags, .int .i64 a.stamp] 26 (0, 0)) := f1.blk (by repeat (first | (with_reducible refine blk_drew ?_) | (with_reducible refine blk_drewN ?_ _) | (with_reducible refine blk_alloc ?_ _) | (with_reducible refine blk_far2 ?_ (by omega) _)); exact hb0.out) (fun h => h); have a0 := blk_cell ba 0 rfl; have a1 := blk_cell ba 1 rfl; have a2 := blk_cell ba 2 rfl; have a3 := blk_cell ba 3 rfl; have a4 := blk_cell ba 4 rfl; have a5 := blk_cell ba 5 rfl; have a6 := blk_cell ba 6 rfl; have a7 := blk_cell ba 7 rfl; have a8 := blk_cell ba 8 rfl; have a9 := blk_cell ba 9 rfl; have a10 := blk_cell ba 10 rfl; have a11 := blk_cell ba 11 rfl; have a12 := blk_cell ba 12 rfl; have a13 := blk_cell ba 13 rfl; have bz : w1.heap[w.heap.size + 1]? = some (.cells #[.int .u64 0, .int .u64 0] 24 (0, 0)) := f1.blk (by first | (with_reducible exact hb1.out) | (with_reducible exact blk_alloc hb1.out _)) (fun h => h); have z0 := blk_cell bz 0 rfl; have z1 := blk_cell bz 1 rfl; have F1 := Lib.hid f1; clear f1 ba bz)) | (go_at_call 26; first | (with_reducible refine (bit_two _ a.flags Hf7.out).mono ?_; rintro e w2 ⟨rfl, rfl⟩) | (with_reducible refine (bit_four _ a.flags Hf7.out).mono ?_; rintro e w2 ⟨rfl, rfl⟩)))
      go_ret
      exact ⟨Hcg.out _ hv.out, by have f1 := F1.out; exact Fr.then_ (by repeat (first | (with_reducible exact Fr.refl _ _) | (with_reducible refine Fr.drew ?_) | (with_reducible refine Fr.drewN ?_ _) | (with_reducible refine Fr.alloc ?_ _) | (with_reducible refine Fr.set1 ?_ _) | (with_reducible refine Fr.setNew ?_ (by omega) _))) f1 (fun _ h => h.elim)⟩
end Go.Proofs.YtpmebmkifdgjcaaDoor
