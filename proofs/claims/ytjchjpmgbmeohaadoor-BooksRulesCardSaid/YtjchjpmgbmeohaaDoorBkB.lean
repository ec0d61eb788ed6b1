/- wide.Compare, Less, Sub; the document's Plus. -/
import Derived.Test.YtjchjpmgbmeohaaDoorBkA
set_option linter.unusedSimpArgs false
set_option linter.unusedVariables false
namespace Go.Proofs.YtjchjpmgbmeohaaDoor
open Go.RowKit

def ncmp (a b : Nm) : Int := if a.v = b.v then 0 else if a.v < b.v then -1 else 1
theorem ncmp_less (a b : Nm) : decide (ncmp a b < 0) = nless a b := by
  unfold ncmp nless
  by_cases h : a.v = b.v
  · rw [if_pos h, decide_eq_false (by omega), decide_eq_false (by omega)]
  · rw [if_neg h]
    by_cases h2 : a.v < b.v
    · rw [if_pos h2, decide_eq_true (by omega), decide_eq_true h2]
    · rw [if_neg h2, decide_eq_false (by omega), decide_eq_false h2]
set_option maxRecDepth 4000 in
set_option maxHeartbeats 1600000 in
theorem cmp_any (w : World) (a b : Nm) (ha : a.ok) (hb : b.ok) :
    Calls Tryd.prog 90 #[.agg #[.int .u64 a.hi, .int .u64 a.lo], .agg #[.int .u64 b.hi, .int .u64 b.lo]] w fun e w' => e = .returned (.int .i64 (ncmp a b)) ∧ Fr (fun _ => False) w w' := by
  obtain ⟨a1, a2, a3, a4⟩ := ha
  obtain ⟨b1, b2, b3, b4⟩ := hb
  have he := eqm_Num
  obtain ⟨r, hr⟩ : ∃ r, ncmp a b = r := ⟨_, rfl⟩
  rw [hr]
  unfold ncmp Nm.v at hr
  have HA := Lib.hid (show 0 ≤ a.lo ∧ a.lo < 18446744073709551616 ∧ 0 ≤ b.lo ∧ b.lo < 18446744073709551616 from ⟨a3, a4, b3, b4⟩)
  clear a1 a2 a3 a4 b1 b2 b3 b4
  by_cases h1 : a.hi = b.hi
  · have q1 : (a.hi == b.hi) = true := by simpa using h1
    have n1 : ¬ a.hi < b.hi := by omega
    by_cases h2 : a.lo = b.lo
    · have q2 : (a.lo == b.lo) = true := by simpa using h2
      obtain rfl : r = 0 := by rw [if_pos (by omega)] at hr; exact hr.symm
      clear hr h1 h2
      go_enter Tryd.func90, Tryd.ntmps90
      go_wp2_with fail
      go_ret
      exact ⟨rfl, by repeat (first | (with_reducible exact Fr.refl _ _) | (with_reducible refine Fr.drew ?_) | (with_reducible refine Fr.drewN ?_ _) | (with_reducible refine Fr.alloc ?_ _) | (with_reducible refine Fr.set1 ?_ _) | (with_reducible refine Fr.setNew ?_ (by omega) _))⟩
    · have q2 : (a.lo == b.lo) = false := by simpa using h2
      by_cases h3 : a.lo < b.lo
      · obtain rfl : r = -1 := by rw [if_neg (by omega), if_pos (by omega)] at hr; exact hr.symm
        clear hr h1 h2
        go_enter Tryd.func90, Tryd.ntmps90
        go_wp2_with fail
        go_ret
        exact ⟨rfl, by repeat (first | (with_reducible exact Fr.refl _ _) | (with_reducible refine Fr.drew ?_) | (with_reducible refine Fr.drewN ?_ _) | (with_reducible refine Fr.alloc ?_ _) | (with_reducible refine Fr.set1 ?_ _) | (with_reducible refine Fr.setNew ?_ (by omega) _))⟩
      · obtain rfl : r = 1 := by rw [if_neg (by omega), if_neg (by omega)] at hr; exact hr.symm
        clear hr h1 h2
        go_enter Tryd.func90, Tryd.ntmps90
        go_wp2_with fail
        go_ret
        exact ⟨rfl, by repeat (first | (with_reducible exact Fr.refl _ _) | (with_reducible refine Fr.drew ?_) | (with_reducible refine Fr.drewN ?_ _) | (with_reducible refine Fr.alloc ?_ _) | (with_reducible refine Fr.set1 ?_ _) | (with_reducible refine Fr.setNew ?_ (by omega) _))⟩
  · have q1 : (a.hi == b.hi) = false := by simpa using h1
    have hl := HA.out
    by_cases h3 : a.hi < b.hi
    · obtain rfl : r = -1 := by rw [if_neg (by omega), if_pos (by omega)] at hr; exact hr.symm
      clear hr h1 hl
      cases q2 : (a.lo == b.lo)
      all_goals
        go_enter Tryd.func90, Tryd.ntmps90
        go_wp2_with fail
        go_ret
        exact ⟨rfl, by repeat (first | (with_reducible exact Fr.refl _ _) | (with_reducible refine Fr.drew ?_) | (with_reducible refine Fr.drewN ?_ _) | (with_reducible refine Fr.alloc ?_ _) | (with_reducible refine Fr.set1 ?_ _) | (with_reducible refine Fr.setNew ?_ (by omega) _))⟩
    · obtain rfl : r = 1 := by rw [if_neg (by omega), if_neg (by omega)] at hr; exact hr.symm
      clear hr h1 hl
      cases q2 : (a.lo == b.lo)
      all_goals
        go_enter Tryd.func90, Tryd.ntmps90
        go_wp2_with fail
        go_ret
        exact ⟨rfl, by repeat (first | (with_reducible exact Fr.refl _ _) | (with_reducible refine Fr.drew ?_) | (with_reducible refine Fr.drewN ?_ _) | (with_reducible refine Fr.alloc ?_ _) | (with_reducible refine Fr.set1 ?_ _) | (with_reducible refine Fr.setNew ?_ (by omega) _))⟩
set_option maxHeartbeats 1600000 in
theorem nless_any (w : World) (a b : Nm) (ha : a.ok) (hb : b.ok) :
    Calls Tryd.prog 43 #[.agg #[.int .u64 a.hi, .int .u64 a.lo], .agg #[.int .u64 b.hi, .int .u64 b.lo]] w fun e w' => e = .returned (.bool (nless a b)) ∧ Fr (fun _ => False) w w' := by
  have H := Lib.hid (fun W => cmp_any W a b ha hb)
  have HL := Lib.hid (ncmp_less a b)
  obtain ⟨r, hr⟩ : ∃ r, ncmp a b = r := ⟨_, rfl⟩
  rw [hr] at H HL
  have FA := Lib.hid (((Fr.refl (fun _ => False) w).alloc (.cells #[.int .u64 a.hi, .int .u64 a.lo] 24)).alloc (.cells #[.int .u64 b.hi, .int .u64 b.lo] 24))
  obtain ⟨q, hq⟩ : ∃ q, nless a b = q := ⟨_, rfl⟩
  rw [hq] at HL ⊢
  clear hr hq ha hb
  go_enter Tryd.func43, Tryd.ntmps43
  go_wp2_with fail
  refine (H.out _).mono ?_
  rintro e w2 ⟨rfl, f2⟩
  have F2 := Lib.hid (FA.out.then_ f2 (fun _ h => h.elim))
  clear f2
  go_wp2_with fail
  go_ret
  refine ⟨?_, F2.out⟩
  rw [← HL.out]
  rfl
set_option maxRecDepth 4000 in
set_option maxHeartbeats 1600000 in
theorem nsub_any (w : World) (a b : Nm) (ha : a.ok) (hb : b.ok) :
    Calls Tryd.prog 48 #[.agg #[.int .u64 a.hi, .int .u64 a.lo], .agg #[.int .u64 b.hi, .int .u64 b.lo]] w fun e w' => e = .returned (.tuple #[.agg #[.int .u64 (nsub a b).hi, .int .u64 (nsub a b).lo], .bool (!nless a b)]) ∧ Fr (fun _ => False) w w' := by
  have HL := Lib.hid (fun W => nless_any W a b ha hb)
  have Bz := Lib.hid (blk2 w (.cells #[.int .u64 a.hi, .int .u64 a.lo] 24) (.cells #[.int .u64 b.hi, .int .u64 b.lo] 24) (.cells #[.int .u64 0, .int .u64 0] 24))
  have FA := Lib.hid ((((Fr.refl (fun _ => False) w).alloc (.cells #[.int .u64 a.hi, .int .u64 a.lo] 24)).alloc (.cells #[.int .u64 b.hi, .int .u64 b.lo] 24)).alloc (.cells #[.int .u64 0, .int .u64 0] 24))
  have Ba := Lib.hid (blk_alloc (blk_alloc (heap_alloc_new w (.cells #[.int .u64 a.hi, .int .u64 a.lo] 24)) (.cells #[.int .u64 b.hi, .int .u64 b.lo] 24)) (.cells #[.int .u64 0, .int .u64 0] 24))
  have Bb := Lib.hid (show (((w.alloc (.cells #[.int .u64 a.hi, .int .u64 a.lo] 24)).alloc (.cells #[.int .u64 b.hi, .int .u64 b.lo] 24)).alloc (.cells #[.int .u64 0, .int .u64 0] 24)).heap[w.heap.size + 1]? = some (.cells #[.int .u64 b.hi, .int .u64 b.lo] 24 (0, 0)) from by
    have h := blk_alloc (heap_alloc_new (w.alloc (.cells #[.int .u64 a.hi, .int .u64 a.lo] 24)) (.cells #[.int .u64 b.hi, .int .u64 b.lo] 24)) (.cells #[.int .u64 0, .int .u64 0] 24)
    simpa using h)
  obtain ⟨q, hq⟩ : ∃ q, nless a b = q := ⟨_, rfl⟩
  rw [hq] at HL
  rw [hq]
  unfold nless at hq
  cases q
  · have hlt : ¬ a.v < b.v := of_decide_eq_false hq
    obtain ⟨a1, a2, a3, a4⟩ := ha
    obtain ⟨b1, b2, b3, b4⟩ := hb
    have h1 := fun W => Tryd.sub64 a.lo b.lo 0 a3 b3 (by omega) (by omega) W
    obtain ⟨lo, hlo⟩ : ∃ x : Int, (((a.lo.toNat + 18446744073709551616 - b.lo.toNat - (0 : Int).toNat) % 18446744073709551616 : Nat) : Int) = x := ⟨_, rfl⟩
    obtain ⟨c, hc⟩ : ∃ x : Int, ((if a.lo.toNat < b.lo.toNat + (0 : Int).toNat then 1 else 0 : Nat) : Int) = x := ⟨_, rfl⟩
    rw [hlo, hc] at h1
    have hc0 : (c = 0 ∧ b.lo ≤ a.lo) ∨ (c = 1 ∧ a.lo < b.lo) := by
      rw [← hc]
      split
      · right; simp only [Int.toNat_zero, Nat.add_zero] at *; constructor
        · rfl
        · omega
      · left; simp only [Int.toNat_zero, Nat.add_zero] at *; constructor
        · rfl
        · omega
    have h2 := fun W => Tryd.sub64 a.hi b.hi c a1 b1 (by omega) (by omega) W
    obtain ⟨hi, hhi⟩ : ∃ x : Int, (((a.hi.toNat + 18446744073709551616 - b.hi.toNat - c.toNat) % 18446744073709551616 : Nat) : Int) = x := ⟨_, rfl⟩
    obtain ⟨d, hd⟩ : ∃ x : Int, ((if a.hi.toNat < b.hi.toNat + c.toNat then 1 else 0 : Nat) : Int) = x := ⟨_, rfl⟩
    rw [hhi, hd] at h2
    have hn : nsub a b = ⟨hi, lo⟩ := by
      unfold nsub
      rw [if_neg hlt]
      unfold Nm.v at hlt ⊢
      simp only [nof, Nm.mk.injEq]
      simp only [Int.toNat_zero] at hlo
      omega
    rw [hn]
    have H1 := Lib.hid h1
    have H2 := Lib.hid h2
    clear hlo hc hhi hd hn hq hlt hc0 a1 a2 a3 a4 b1 b2 b3 b4 h1 h2
    go_enter Tryd.func48, Tryd.ntmps48
    go_wp2_with fail
    refine (HL.out _).mono ?_
    rintro e w2 ⟨rfl, f2⟩
    have F2 := Lib.hid (FA.out.then_ f2 (fun _ h => h.elim))
    have Ba2 := f2.blk Ba.out (fun h => h)
    have Bb2 := f2.blk Bb.out (fun h => h)
    have Bz2 := Lib.hid (f2.blk Bz.out (fun h => h))
    have x0 := blk_cell Ba2 0 rfl; have x1 := blk_cell Ba2 1 rfl; have y0 := blk_cell Bb2 0 rfl; have y1 := blk_cell Bb2 1 rfl
    have h1 := H1.out
    have h2 := H2.out
    clear f2 Ba2 Bb2
    go_wp2_with (first | ((refine wpList_store_row rfl 24 (.tmp 4) (.tmp 33) rfl (w.heap.size + 1 + 1) #[.int .u64 hi, .int .u64 lo] rfl rfl Bz2.out rfl rfl (by simp [Value.oneCell']) ?_); intro w9 hb9 f9; have HB9 := Lib.hid hb9; have F9 := Lib.hid f9; clear hb9 f9) | fail)
    refine bodyPost_ret (results_cell2 (p := 4) (q := 5) rfl _ _ (w.heap.size + 1 + 1) 24 _ (0, 0) _ rfl HB9.out Tryd.underlying24 rfl rfl) rfl ?_
    exact ⟨rfl, F2.out.then_ F9.out (fun k hk => .inr (by omega))⟩
  · have hlt : a.v < b.v := of_decide_eq_true hq
    have hn : nsub a b = ⟨0, 0⟩ := if_pos hlt
    rw [hn]
    clear hn hq hlt ha hb
    go_enter Tryd.func48, Tryd.ntmps48
    go_wp2_with fail
    refine (HL.out _).mono ?_
    rintro e w2 ⟨rfl, f2⟩
    have F2 := Lib.hid (FA.out.then_ f2 (fun _ h => h.elim))
    have Bz2 := Lib.hid (f2.blk Bz.out (fun h => h))
    clear f2
    go_wp2_with (first | ((refine wpList_store_row rfl 24 (.tmp 4) (.tmp 13) rfl (w.heap.size + 1 + 1) #[.int .u64 0, .int .u64 0] rfl rfl Bz2.out rfl rfl (by simp [Value.oneCell']) ?_); intro w9 hb9 f9; have HB9 := Lib.hid hb9; have F9 := Lib.hid f9; clear hb9 f9) | fail)
    refine bodyPost_ret (results_cell2 (p := 4) (q := 5) rfl _ _ (w.heap.size + 1 + 1) 24 _ (0, 0) _ rfl HB9.out Tryd.underlying24 rfl rfl) rfl ?_
    exact ⟨rfl, F2.out.then_ F9.out (fun k hk => .inr (by omega))⟩
end Go.Proofs.YtjchjpmgbmeohaaDoor
