/- A flag, whatever comes. -/
import Derived.Test.YtfmcimngogibkaaWrD
import Derived.Test.YtfmcimngogibkaaWhole
set_option linter.unusedSimpArgs false
set_option linter.unusedVariables false
namespace Go.Proofs.Ytfmcimngogibkaa
open Go.RowKit

def flV (s : RS) : Bool := le (rdV s 1) == 1
def flS (s : RS) : RS := ((rdS s 1).1, (rdS s 1).2 || decide (1 < le (rdV s 1)))
theorem rFlag_tot (w : World) (g : Nat) (s : RS) (h : IsR w g s.1 s.2) (hB : Bytes s.1) :
    Calls Try.prog 43 #[.pointer (some ⟨g, 0, none⟩)] w fun e w' => e = .returned (.bool (flV s)) ∧ IsR w' g (flS s).1 (flS s).2 ∧ Fr (fun k => k = g) w w' := by
  obtain ⟨l, t⟩ := s
  by_cases hn : t = true ∨ l = []
  · have e1 : rdV (l, t) 1 = [] := by rw [rdV, if_pos]; rcases hn with h | h; exact .inl h; exact .inr (by simp [h])
    have e2 : rdS (l, t) 1 = (l, true) := by rw [rdS, if_pos]; rcases hn with h | h; exact .inl h; exact .inr (by simp [h])
    have h3 := rFlag_no w g l t h hn
    simp only [flV, flS, e1, e2, le]
    exact h3
  · obtain ⟨ht, hl⟩ := not_or.1 hn
    have ht : t = false := by simpa using ht
    subst ht
    cases l with
    | nil => exact absurd rfl hl
    | cons c l =>
      have e1 : rdV (c :: l, false) 1 = [c] := by rw [rdV_good (by simp)]; rfl
      have e2 : rdS (c :: l, false) 1 = (l, false) := by rw [rdS_good (by simp)]; rfl
      have h3 := rFlag_any w g c l h (hB c (List.mem_cons_self ..)) (fun x hx => hB x (List.mem_cons_of_mem _ hx))
      simp only [flV, flS, e1, e2, le, Int.mul_zero, Int.add_zero, Bool.false_or]
      exact h3
theorem flS_bytes {s : RS} (h : Bytes s.1) : Bytes (flS s).1 := rdS_bytes 1 h
end Go.Proofs.Ytfmcimngogibkaa
