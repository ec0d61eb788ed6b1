/- Law 14: same, edit, alive. -/
import Derived.Test.YtlfbgndaojcgdaaUndoC
import Derived.Test.YtlfbgndaojcgdaaRow
namespace Go.Proofs.Ytlfbgndaojcgdaa
open Go.RowKit

set_option maxHeartbeats 1600000 in
theorem same_any (w : World) (S1 S2 : Nat → Prop) (v1 v2 : Value) (xs ys : List Int) (h1 : Own w S1 v1 xs) (h2 : Own w S2 v2 ys) (hn : xs.length ≤ 1000000) :
    Calls Try.prog 14 #[v1, v2] w fun e w' => e = .returned (.bool (xs == ys)) ∧ Fr (fun _ => False) w w' := by
  have hcg : ∀ b, (xs == ys) = b → Ending.returned (Value.bool b) = Ending.returned (.bool (xs == ys)) := fun b h => by rw [h]
  have Hcg := Lib.hid hcg
  clear hcg
  have O1 := Lib.hid h1.1
  have O2 := Lib.hid h2.1
  obtain ⟨a1, cp1, rfl, -, -⟩ := own_form h1.1
  obtain ⟨a2, cp2, rfl, -, -⟩ := own_form h2.1
  clear h1 h2
  by_cases hl : (xs.length : Int) = ys.length
  rotate_left
  · have hv := Lib.hid (show (xs == ys) = false from by rw [beq_eq_false_iff_ne]; rintro rfl; exact hl rfl)
    have hl2 : ((xs.length : Int) != ys.length) = true := by simpa using hl
    go_enter Try.func14, Try.ntmps14
    go_wp2_with fail
    go_ret
    exact ⟨Hcg.out _ hv.out, by repeat (first | (with_reducible exact Fr.refl _ _) | (with_reducible refine Fr.drew ?_) | (with_reducible refine Fr.drewN ?_ _) | (with_reducible refine Fr.alloc ?_ _) | (with_reducible refine Fr.set1 ?_ _) | (with_reducible refine Fr.setNew ?_ (by omega) _))⟩
  have Hl := Lib.hid (show xs.length = ys.length from by omega)
  obtain ⟨n, hxn⟩ : ∃ n, xs.length = n := ⟨_, rfl⟩
  have hyn : ys.length = n := by rw [← Hl.out, hxn]
  have HXn := Lib.hid hxn
  have HYn := Lib.hid hyn
  have o1 := O1.out
  have o2 := O2.out
  rw [hxn] at o1 hn ⊢
  rw [hyn] at o2 ⊢
  have O1 := Lib.hid o1
  have O2 := Lib.hid o2
  clear hl hxn hyn o1 o2 Hl
  go_enter Try.func14, Try.ntmps14
  go_wp2_with fail
  go_loopw [13] (fun i wr => ∃ k : Nat, k ≤ n ∧ i = .int .i64 k ∧ xs.take k = ys.take k ∧ Fr (fun _ => False) w wr) (fun i _ => ((n : Int) - intOf i).toNat)
  case atStart => exact ⟨0, by omega, rfl, by simp, by repeat (first | (with_reducible exact Fr.refl _ _) | (with_reducible refine Fr.drew ?_) | (with_reducible refine Fr.drewN ?_ _) | (with_reducible refine Fr.alloc ?_ _) | (with_reducible refine Fr.set1 ?_ _) | (with_reducible refine Fr.setNew ?_ (by omega) _))⟩
  case round =>
    obtain ⟨k, hk, rfl, ht, hf⟩ := hrel
    have HT := Lib.hid ht
    have HF := Lib.hid hf
    clear ht hf
    by_cases hlt : (k : Int) < n
    · obtain ⟨g1, c1, e1⟩ := own_some O1.out (by omega)
      obtain ⟨g2, c2, e2⟩ := own_some O2.out (by omega)
      simp only [Value.slice.injEq] at e1 e2
      obtain ⟨rfl, -, rfl⟩ := e1
      obtain ⟨rfl, -, rfl⟩ := e2
      have hx : k < xs.length := by rw [HXn.out]; omega
      have hy : k < ys.length := by rw [HYn.out]; omega
      obtain ⟨x, hxe⟩ : ∃ x, xs[k] = x := ⟨_, rfl⟩
      obtain ⟨y, hye⟩ : ∃ y, ys[k] = y := ⟨_, rfl⟩
      have ca : wr.cell? ⟨g1, k, none⟩ = some (.int .i64 x) := by
        rw [(own_fr O1.out HF.out (fun _ _ h => h)).cellAt k (by omega), ← hxe]; simp [ints, hx]
      have cb : wr.cell? ⟨g2, k, none⟩ = some (.int .i64 y) := by
        rw [(own_fr O2.out HF.out (fun _ _ h => h)).cellAt k (by omega), ← hye]; simp [ints, hy]
      have HX := Lib.hid (show xs.take (k + 1) = xs.take k ++ [x] from by rw [List.take_succ_eq_append_getElem hx, hxe])
      have HY := Lib.hid (show ys.take (k + 1) = ys.take k ++ [y] from by rw [List.take_succ_eq_append_getElem hy, hye])
      clear hxe hye hx hy
      by_cases hq : x = y
      · have hq2 : (x == y) = true := by simpa using hq
        have HQ := Lib.hid hq
        have q1 : x ≤ y := by omega
        have q2 : y ≤ x := by omega
        clear hq
        go_wp2_with fail
        go_region
        all_goals
          go_wp2_with fail
          go_roundw
          case rel => exact ⟨k + 1, by omega, by go_num, by rw [HX.out, HY.out, HT.out, HQ.out], by (repeat (first | (with_reducible exact Fr.refl _ _) | (with_reducible refine Fr.drew ?_) | (with_reducible refine Fr.drewN ?_ _) | (with_reducible refine Fr.alloc ?_ _) | (with_reducible refine Fr.set1 ?_ _) | (with_reducible refine Fr.setNew ?_ (by omega) _))) <;> exact HF.out⟩
          case measure => simp [intOf]; omega
      · have hv := Lib.hid (show (xs == ys) = false from by
          rw [beq_eq_false_iff_ne]
          rintro rfl
          have h := HX.out.symm.trans HY.out
          simp at h
          exact hq h)
        have hq2 : (x != y) = true := by simpa using hq
        clear hq
        go_wp2_with fail
        go_region
        all_goals
          go_wp2_with fail
          go_ret
          exact ⟨Hcg.out _ hv.out, by (repeat (first | (with_reducible exact Fr.refl _ _) | (with_reducible refine Fr.drew ?_) | (with_reducible refine Fr.drewN ?_ _) | (with_reducible refine Fr.alloc ?_ _) | (with_reducible refine Fr.set1 ?_ _) | (with_reducible refine Fr.setNew ?_ (by omega) _))) <;> exact HF.out⟩
    · have hv := Lib.hid (show (xs == ys) = true from by
        have h := HT.out
        rw [List.take_of_length_le (by rw [HXn.out]; omega), List.take_of_length_le (by rw [HYn.out]; omega)] at h
        simpa using h)
      go_wp2_with fail
      go_ret
      exact ⟨Hcg.out _ hv.out, by (repeat (first | (with_reducible exact Fr.refl _ _) | (with_reducible refine Fr.drew ?_) | (with_reducible refine Fr.drewN ?_ _) | (with_reducible refine Fr.alloc ?_ _) | (with_reducible refine Fr.set1 ?_ _) | (with_reducible refine Fr.setNew ?_ (by omega) _))) <;> exact HF.out⟩
end Go.Proofs.Ytlfbgndaojcgdaa
