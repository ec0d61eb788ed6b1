/- same: pairs and two rows; what a nil list answers. -/
import Derived.Test.YtjegnhcpepkpoaaOrdI
namespace Go.Proofs.Ytjegnhcpepkpoaa
open Go.RowKit

set_option maxRecDepth 4000 in
set_option maxHeartbeats 3200000 in
theorem same_any (w : World) (v v1 v2 : Value) (T : List Pr) (n : Nat) (hn : T.length = n) (h : w.ownsRow 0 44 2 v n (prs T)) (h1 : w.ownsRow 0 3 1 v1 n (ints (T.map (·.1)))) (h2 : w.ownsRow 0 3 1 v2 n (ints (T.map (·.2)))) (hb : n ≤ 1000) :
    Calls Try.prog 11 #[v, v1, v2] w fun e w' => e = .returned (.bool true) ∧ Fr (fun _ => False) w w' := by
  obtain ⟨a, c, rfl, -, -⟩ := own_form h
  obtain ⟨a1, c1, rfl, -, -⟩ := own_form h1
  obtain ⟨a2, c2, rfl, -, -⟩ := own_form h2
  have H := Lib.hid h
  have H1 := Lib.hid h1
  have H2 := Lib.hid h2
  have HN := Lib.hid hn
  clear h h1 h2 hn
  go_enter Try.func11, Try.ntmps11
  go_wp2_with fail
  go_loopw [16] (fun i wr => ∃ j : Nat, j ≤ n ∧ i = .int .i64 j ∧ Fr (fun _ => False) w wr) (fun i _ => ((n : Int) - intOf i).toNat)
  case atStart => exact ⟨0, by omega, rfl, Fr.refl _ _⟩
  case round =>
    obtain ⟨j, hj, rfl, hf⟩ := hrel
    have HF := Lib.hid hf
    by_cases hjm : j < n
    · have hjI : (j : Int) < n := by omega
      have hjl : j < T.length := by rw [HN.out]; exact hjm
      obtain ⟨g, cc, e0⟩ := own_some H.out (by omega)
      simp only [Value.slice.injEq] at e0
      obtain ⟨rfl, -, rfl⟩ := e0
      obtain ⟨g1, cc1, e1⟩ := own_some H1.out (by omega)
      simp only [Value.slice.injEq] at e1
      obtain ⟨rfl, -, rfl⟩ := e1
      obtain ⟨g2, cc2, e2⟩ := own_some H2.out (by omega)
      simp only [Value.slice.injEq] at e2
      obtain ⟨rfl, -, rfl⟩ := e2
      obtain ⟨p0, p1⟩ := own_pair (own_fr H.out hf (fun _ _ h => h)) HN.out hjl
      obtain ⟨x, hx⟩ : ∃ x, T[j].1 = x := ⟨_, rfl⟩
      obtain ⟨y, hy⟩ : ∃ y, T[j].2 = y := ⟨_, rfl⟩
      have hfa := hf.alloc (.cells #[.int .i64 x, .int .i64 y] 44)
      have s1 := own_int (own_fr H1.out hfa (fun _ _ h => h)) (i := j) (by simpa using hjl) (by simpa using HN.out)
      have s2 := own_int (own_fr H2.out hfa (fun _ _ h => h)) (i := j) (by simpa using hjl) (by simpa using HN.out)
      rw [List.getElem_map, hx] at s1
      rw [List.getElem_map, hy] at s2
      rw [hx] at p0
      rw [hy] at p1
      have w1 : IntKind.i64.wrap ((j : Int) + 1) = j + 1 := IntWalk.i64_in _ (by omega)
      clear hf hx hy hfa
      go_wp2_with fail
      go_quiet (fail)
      go_wp2_with fail
      go_roundw
      case rel => exact ⟨j + 1, by omega, by go_num, by (repeat (first | (with_reducible exact Fr.refl _ _) | (with_reducible refine Fr.drew ?_) | (with_reducible refine Fr.drewN ?_ _) | (with_reducible refine Fr.alloc ?_ _) | (with_reducible refine Fr.set1 ?_ _) | (with_reducible refine Fr.setNew ?_ (by omega) _))) <;> exact HF.out⟩
      case measure => simp [intOf]; omega
    · have hjI : ¬ (j : Int) < n := by omega
      clear hf
      go_wp2_with fail
      go_ret
      exact ⟨rfl, HF.out⟩

theorem none_put (w : World) (s a : Int) : Calls Try.prog 14 #[.pointer none, .int .i64 s, .int .i64 a] w fun e w' => e = .returned (.bool false) ∧ w' = w := by
  go_enter Try.func14, Try.ntmps14
  go_wp2_with fail
  go_ret
  exact ⟨rfl, rfl⟩
theorem none_drop (w : World) (s : Int) : Calls Try.prog 15 #[.pointer none, .int .i64 s] w fun e w' => e = .returned (.bool false) ∧ w' = w := by
  go_enter Try.func15, Try.ntmps15
  go_wp2_with fail
  go_ret
  exact ⟨rfl, rfl⟩
theorem none_range (w : World) (s a : Int) (b : Bool) : Calls Try.prog 12 #[.pointer none, .int .i64 s, .int .i64 a, .bool b] w fun e w' => e = .returned (.slice none 0 0) ∧ w' = w := by
  go_enter Try.func12, Try.ntmps12
  go_wp2_with fail
  go_ret
  exact ⟨rfl, rfl⟩
theorem none_len (w : World) : Calls Try.prog 9 #[.pointer none] w fun e w' => e = .returned (.int .i64 0) ∧ w' = w := by
  go_enter Try.func9, Try.ntmps9
  go_wp2_with fail
  go_ret
  exact ⟨rfl, rfl⟩
theorem none_last (w : World) : Calls Try.prog 13 #[.pointer none] w fun e w' => e = .returned (.int .i64 0) ∧ w' = w := by
  go_enter Try.func13, Try.ntmps13
  go_wp2_with (go_at_call 9; go_must (refine (none_len _).mono ?_); rintro e w2 ⟨rfl, rfl⟩)
  go_ret
  exact ⟨rfl, rfl⟩
end Go.Proofs.Ytjegnhcpepkpoaa
