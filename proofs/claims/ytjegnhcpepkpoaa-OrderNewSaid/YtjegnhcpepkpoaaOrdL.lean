/- Ranges one behind the other (plain). -/
import Derived.Test.YtjegnhcpepkpoaaOrdV
namespace Go.Proofs.Ytjegnhcpepkpoaa
open Go.RowKit

theorem range_open {ps : List Pr} (hR : Ris ps) (a : Int) : rangeL ps a 0 = ps.filter (fun p => decide (a ≤ p.1)) := by
  have e : rangeL ps a 0 = ps.drop (low ps a) := by
    rw [rangeL, hiP, if_pos rfl, List.take_of_length_le (by rw [List.length_drop]; exact Nat.le_refl _)]
  rw [e]
  induction ps with
  | nil => rfl
  | cons p ps ih =>
    have hr := List.pairwise_cons.1 hR
    by_cases h1 : p.1 < a
    · have e1 : low (p :: ps) a = low ps a + 1 := by simp only [low, if_pos h1]
      rw [e1, List.drop_succ_cons, List.filter_cons_of_neg (by simp; omega)]
      refine ih hr.2 ?_
      rw [rangeL, hiP, if_pos rfl, List.take_of_length_le (by rw [List.length_drop]; exact Nat.le_refl _)]
    · have e1 : low (p :: ps) a = 0 := by simp only [low, if_neg h1]
      rw [e1, List.drop_zero]
      symm
      rw [List.filter_eq_self]
      intro q hq
      rcases List.mem_cons.1 hq with rfl | hq
      · simp; omega
      · have := hr.1 q hq
        simp
        omega
theorem filter_parts {ps : List Pr} (hR : Ris ps) {a m : Int} (ham : a ≤ m) (P : Pr → Bool) :
    ps.filter (inP a m) ++ ps.filter (fun p => decide (m + 1 ≤ p.1) && P p) = ps.filter (fun p => decide (a ≤ p.1) && (decide (p.1 ≤ m) || P p)) := by
  induction ps with
  | nil => rfl
  | cons p ps ih =>
    have hr := List.pairwise_cons.1 hR
    have ih := ih hr.2
    by_cases h1 : p.1 ≤ m
    · have h2 : ¬ m + 1 ≤ p.1 := by omega
      rw [List.filter_cons_of_neg (p := fun p : Pr => decide (m + 1 ≤ p.1) && P p) (by simp [h2])]
      by_cases h3 : a ≤ p.1
      · rw [List.filter_cons_of_pos (by simp [inP, h1, h3]), List.filter_cons_of_pos (by simp [h1, h3]), List.cons_append, ih]
      · rw [List.filter_cons_of_neg (by simp [inP, h3]), List.filter_cons_of_neg (by simp [h3]), ih]
    · have e1 : (p :: ps).filter (inP a m) = [] := by
        rw [List.filter_eq_nil_iff]
        intro q hq
        rcases List.mem_cons.1 hq with rfl | hq
        · simp [inP]; omega
        · have := hr.1 q hq
          simp [inP]
          omega
      rw [e1, List.nil_append]
      apply List.filter_congr
      intro q hq
      have hq1 : m < q.1 := by
        rcases List.mem_cons.1 hq with rfl | hq
        · omega
        · have := hr.1 q hq; omega
      have h4 : m + 1 ≤ q.1 := by omega
      have h5 : a ≤ q.1 := by omega
      have h6 : ¬ q.1 ≤ m := by omega
      simp [h4, h5, h6]
/-- Two ranges, one behind the other, are the whole one. -/
theorem range_parts {ps : List Pr} (hR : Ris ps) {a m b : Int} (hm : m ≠ 0) (hm1 : m + 1 ≠ 0) (ham : a ≤ m) (hb : b = 0 ∨ m < b) : rangeL ps a m ++ rangeL ps (m + 1) b = rangeL ps a b := by
  rw [range_filter hR a hm]
  by_cases h0 : b = 0
  · subst h0
    rw [range_open hR, range_open hR]
    have h := filter_parts hR ham (fun _ => true)
    simp only [Bool.and_true, Bool.or_true] at h
    exact h
  · rw [range_filter hR (m + 1) h0, range_filter hR a h0]
    have h := filter_parts hR ham (fun p => decide (p.1 ≤ b))
    have e : (fun p : Pr => decide (a ≤ p.1) && (decide (p.1 ≤ m) || decide (p.1 ≤ b))) = inP a b := by
      funext p
      have : m < b := by rcases hb with hb | hb; exact absurd hb h0; exact hb
      simp only [inP]
      by_cases h1 : p.1 ≤ m
      · have h2 : p.1 ≤ b := by omega
        simp [h1, h2]
      · simp [h1]
    rw [e] at h
    exact h
end Go.Proofs.Ytjegnhcpepkpoaa
