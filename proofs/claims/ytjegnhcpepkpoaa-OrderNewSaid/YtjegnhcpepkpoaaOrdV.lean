/- Law 12: alive; ranges as filters (plain). -/
import Derived.Test.YtjegnhcpepkpoaaOrdW
import Derived.Test.YtjegnhcpepkpoaaEqPair
namespace Go.Proofs.Ytjegnhcpepkpoaa
open Go.RowKit

theorem new_o (w : World) : IsO (w.alloc (.cells #[.slice none 0 0] 27)) (fun k => k = w.heap.size) w.heap.size [] :=
  ⟨.slice none 0 0, heap_alloc_new w _, World.ownsRow_nil _ _ _ _, rfl, fun k hk => by simp [Value.ownBlock] at hk, fun k hk => by obtain rfl : k = w.heap.size := hk; simp⟩
theorem new_m (w : World) : IsM (w.alloc (.cells #[.slice none 0 0, .slice none 0 0] 31)) (fun k => k = w.heap.size) w.heap.size [] [] :=
  ⟨.slice none 0 0, .slice none 0 0, heap_alloc_new w _, World.ownsRow_nil _ _ _ _, World.ownsRow_nil _ _ _ _, rfl, fun k hk => by simp [Value.ownBlock] at hk, fun k hk => by simp [Value.ownBlock] at hk, fun k hk => by simp [Value.ownBlock] at hk, fun k hk => by obtain rfl : k = w.heap.size := hk; simp⟩

theorem low_zero {ps : List Pr} {s : Int} (h : ∀ p ∈ ps, ¬ p.1 < s) : low ps s = 0 := by
  cases ps with
  | nil => rfl
  | cons p ps => simp only [low, if_neg (h p (List.mem_cons_self ..))]
theorem hiP_low {ps : List Pr} (hR : Ris ps) {b : Int} (hb : b ≠ 0) : hiP ps b = low ps (b + 1) := by
  rw [hiP, if_neg hb]
  induction ps with
  | nil => rfl
  | cons p ps ih =>
    have hr := List.pairwise_cons.1 hR
    have ih := ih hr.2
    by_cases h1 : p.1 < b
    · have e : low (p :: ps) b = low ps b + 1 := by simp only [low, if_pos h1]
      have e2 : low (p :: ps) (b + 1) = low ps (b + 1) + 1 := by simp only [low, if_pos (show p.1 < b + 1 by omega)]
      rw [e, e2, ← ih, List.map_cons, List.getElem?_cons_succ]
      split <;> rfl
    · have e : low (p :: ps) b = 0 := by simp only [low, if_neg h1]
      rw [e, List.map_cons, List.getElem?_cons_zero]
      by_cases h2 : p.1 = b
      · have e2 : low (p :: ps) (b + 1) = low ps (b + 1) + 1 := by simp only [low, if_pos (show p.1 < b + 1 by omega)]
        rw [if_pos (by rw [h2]), e2, low_zero (fun q hq => by have := hr.1 q hq; omega)]
      · have e2 : low (p :: ps) (b + 1) = 0 := by simp only [low, if_neg (show ¬ p.1 < b + 1 by omega)]
        rw [if_neg (by simpa using h2), e2]
def inP (a b : Int) (p : Pr) : Bool := decide (a ≤ p.1) && decide (p.1 ≤ b)
theorem range_filter {ps : List Pr} (hR : Ris ps) (a : Int) {b : Int} (hb : b ≠ 0) : rangeL ps a b = ps.filter (inP a b) := by
  rw [rangeL, hiP_low hR hb]
  induction ps with
  | nil => rfl
  | cons p ps ih =>
    have hr := List.pairwise_cons.1 hR
    have ih := ih hr.2
    by_cases h1 : p.1 < a
    · have e : low (p :: ps) a = low ps a + 1 := by simp only [low, if_pos h1]
      have e3 : inP a b p = false := by simp [inP]; omega
      rw [e, List.drop_succ_cons, List.filter_cons_of_neg (by simp [e3])]
      by_cases h2 : p.1 < b + 1
      · have e2 : low (p :: ps) (b + 1) = low ps (b + 1) + 1 := by simp only [low, if_pos h2]
        rw [e2, show low ps (b + 1) + 1 - (low ps a + 1) = low ps (b + 1) - low ps a by omega]
        exact ih
      · have e2 : low (p :: ps) (b + 1) = 0 := by simp only [low, if_neg h2]
        rw [e2, Nat.zero_sub, List.take_zero]
        symm
        rw [List.filter_eq_nil_iff]
        intro q hq
        have := hr.1 q hq
        simp [inP]
        omega
    · have e : low (p :: ps) a = 0 := by simp only [low, if_neg h1]
      rw [e, List.drop_zero, Nat.sub_zero]
      have ez : low ps a = 0 := low_zero (fun q hq => by have := hr.1 q hq; omega)
      rw [ez, List.drop_zero, Nat.sub_zero] at ih
      by_cases h2 : p.1 < b + 1
      · have e2 : low (p :: ps) (b + 1) = low ps (b + 1) + 1 := by simp only [low, if_pos h2]
        have e3 : inP a b p = true := by simp [inP]; omega
        rw [e2, List.take_succ_cons, List.filter_cons_of_pos e3, ih]
      · have e2 : low (p :: ps) (b + 1) = 0 := by simp only [low, if_neg h2]
        rw [e2, List.take_zero]
        symm
        rw [List.filter_eq_nil_iff]
        intro q hq
        rcases List.mem_cons.1 hq with rfl | hq
        · simp [inP]; omega
        · have := hr.1 q hq
          simp [inP]
          omega
theorem range_all {ps : List Pr} {a : Int} (h : ∀ p ∈ ps, ¬ p.1 < a) : rangeL ps a 0 = ps := by
  rw [rangeL, low_zero h, List.drop_zero, hiP, if_pos rfl, Nat.sub_zero, List.take_length]

set_option maxRecDepth 4000 in
set_option maxHeartbeats 3200000 in
theorem alive12_any (w : World) :
    Calls Try.prog 7 #[] w fun e w' => e = .returned (.bool true) ∧ Fr (fun _ => False) w w' := by
  have r1 : putL [] 5 1 = [(5, 1)] := by decide
  have r2 : putL [(5, 1)] 3 2 = [(3, 2), (5, 1)] := by decide
  have r3 : rangeL [(3, 2), (5, 1)] 0 0 = [(3, 2), (5, 1)] := by decide
  have O0 := Lib.hid (new_o w)
  have F0 := Lib.hid ((Fr.refl (fun _ => False) w).alloc (.cells #[.slice none 0 0] 27))
  go_enter Try.func7, Try.ntmps7
  go_wp2_with fail
  have P1 := put_any _ _ _ [] 5 1 O0.out (by simp) List.Pairwise.nil
  rw [show (!decide (low [] 5 < ([] : List Pr).length ∧ (([] : List Pr).map (·.1))[low [] 5]? = some 5)) = true from by decide] at P1
  refine P1.mono ?_
  clear P1
  rintro e w1 ⟨rfl, S1, o1, f1, g1⟩
  rw [r1] at o1
  have O1 := Lib.hid o1
  have F1 := Lib.hid (F0.out.then_ f1 (fun k hk => .inr (by have hk : k = w.heap.size := hk; omega)))
  have G1 := Lib.hid (show ∀ k, S1 k → w.heap.size ≤ k from fun k hk => by rcases g1 k hk with h | h; (have h : k = w.heap.size := h; omega); (have := F0.out.size; omega))
  clear o1 f1 g1 r1
  go_wp2_with fail
  have P2 := put_any _ _ _ [(5, 1)] 3 2 O1.out (by simp) (List.pairwise_singleton _ _)
  rw [show (!decide (low [(5, 1)] 3 < ([(5, 1)] : List Pr).length ∧ (([(5, 1)] : List Pr).map (·.1))[low [(5, 1)] 3]? = some 3)) = true from by decide] at P2
  refine P2.mono ?_
  clear P2
  rintro e w2 ⟨rfl, S2, o2, f2, g2⟩
  rw [r2] at o2
  have O2 := Lib.hid o2
  have F2 := Lib.hid (F1.out.then_ f2 (fun k hk => .inr (G1.out k hk)))
  clear o2 f2 g2 r2
  go_wp2_with fail
  refine (range_up _ _ _ [(3, 2), (5, 1)] 0 0 O2.out (by simp) (by unfold Ris; decide)).mono ?_
  rintro e w3 ⟨v, rfl, ov, f3⟩
  rw [r3] at ov
  obtain ⟨g, cap, rfl⟩ := own_some ov.1 (by simp)
  obtain ⟨p0, p1⟩ := own_pair (i := 0) ov.1 rfl (by simp)
  have O3 := Lib.hid (IsO.fr (S2 := fun _ => False) O2.out f3 (fun _ _ h => h))
  have F3 := Lib.hid (F2.out.then_ f3 (fun _ h => h.elim))
  clear ov f3 r3
  have he := eqm_Pair
  have hq0 : w3.cell? ⟨g, 0, none⟩ = some (.int .i64 3) := p0
  have hq1 : w3.cell? ⟨g, 1, none⟩ = some (.int .i64 2) := p1
  clear p0 p1
  have HLs := Lib.hid (olast_any _ _ _ [(3, 2), (5, 1)] O3.out (by simp))
  go_wp2_with (go_at_call 13; go_must (refine HLs.out.mono ?_); rintro e w4 ⟨rfl, f4⟩; have F4 := Lib.hid f4; clear f4)
  go_ret
  exact ⟨rfl, F3.out.then_ F4.out (fun _ h => h.elim)⟩
end Go.Proofs.Ytjegnhcpepkpoaa
