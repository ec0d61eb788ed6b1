/- Rows of cells from an address on; rows of structs. No program in sight. -/
import Derived.Test.YtjchjpmgbmeohaaDoorBase
import Derived.Deep.Slices
set_option linter.unusedSimpArgs false
set_option linter.unusedVariables false
namespace Go.Proofs.YtjchjpmgbmeohaaDoor
open Go.RowKit

/-- A row of cells from an address on. -/
def Row (w : World) (a : Option Addr) (xs : List Value) : Prop := ∀ j u, xs[j]? = some u → ∃ b off, a = some ⟨b, off, none⟩ ∧ w.cell? ⟨b, off + j, none⟩ = some u
theorem Row.fr {w w' : World} {a : Option Addr} {xs : List Value} {S : Nat → Prop} (h : Row w a xs) (hf : Fr S w w') (hn : ∀ b, a = some b → ¬ S b.block) : Row w' a xs := fun j u hu => by
  obtain ⟨b, off, rfl, hc⟩ := h j u hu
  exact ⟨b, off, rfl, hf.cell (p := ⟨b, off + j, none⟩) hc (hn ⟨b, off, none⟩ rfl)⟩

theorem flat_get {α : Type} {f : α → List Value} {n : Nat} (hf : ∀ x, (f x).length = n) (l : List α) (i : Nat) (hi : i < l.length) (j : Nat) (hj : j < n) : (l.flatMap f)[i * n + j]? = (f l[i])[j]? := by
  induction l generalizing i with
  | nil => simp at hi
  | cons x r ih =>
    cases i with
    | zero => rw [List.flatMap_cons, List.getElem?_append_left (by rw [hf]; omega)]; simp
    | succ i =>
      have e0 : n ≤ (i + 1) * n + j := by rw [Nat.succ_mul]; omega
      rw [List.flatMap_cons, List.getElem?_append_right (by rw [hf]; exact e0), hf, show (i + 1) * n + j - n = i * n + j by rw [Nat.succ_mul]; omega, ih i (by simpa using hi)]
      simp


theorem flat_len {α : Type} {f : α → List Value} {n : Nat} (hf : ∀ x, (f x).length = n) (l : List α) : (l.flatMap f).length = l.length * n := by
  induction l with
  | nil => simp
  | cons x r ih => rw [List.flatMap_cons, List.length_append, ih, hf, List.length_cons, Nat.succ_mul]; omega

/-- A row of structs out of each one's cells. -/
theorem rows_of {α : Type} {f : α → List Value} {k len : Nat} {w : World} {ad : Addr} {Q : α → Prop} (hk : 0 < k) (hf : ∀ x, (f x).length = k)
    (h : ∀ i, i < len → ∃ x, Q x ∧ ∀ j u, (f x)[j]? = some u → ∃ b off, ad = ⟨b, off, none⟩ ∧ w.cell? ⟨b, off + (i * k + j), none⟩ = some u) : ∃ l : List α, l.length = len ∧ (∀ x ∈ l, Q x) ∧ Row w (some ad) (l.flatMap f) := by
  have hl : ∃ l : List α, l.length = len ∧ ∀ i (hi : i < l.length), Q l[i] ∧ ∀ j u, (f l[i])[j]? = some u → ∃ b off, ad = ⟨b, off, none⟩ ∧ w.cell? ⟨b, off + (i * k + j), none⟩ = some u := by
    induction len with
    | zero => exact ⟨[], rfl, fun i hi => by simp at hi⟩
    | succ n ih =>
      obtain ⟨l, e, hx⟩ := ih (fun i hi => h i (by omega))
      obtain ⟨x, hq, hc⟩ := h n (by omega)
      refine ⟨l ++ [x], by simp [e], fun i hi => ?_⟩
      by_cases hin : i < l.length
      · rw [List.getElem_append_left hin]
        exact hx i hin
      · have e2 : i = l.length := by simp at hi; omega
        subst e2
        rw [List.getElem_append_right (Nat.le_refl _)]
        simp only [Nat.sub_self, List.getElem_cons_zero]
        rw [e]
        exact ⟨hq, hc⟩
  obtain ⟨l, e, hx⟩ := hl
  refine ⟨l, e, fun x hm => ?_, fun J u hu => ?_⟩
  · obtain ⟨i, hi, rfl⟩ := List.getElem_of_mem hm
    exact (hx i hi).1
  · have hJ : J < l.length * k := by
      have := (List.getElem?_eq_some_iff.1 hu).1
      rwa [flat_len hf] at this
    have hi : J / k < l.length := (Nat.div_lt_iff_lt_mul hk).2 hJ
    have hj : J % k < k := Nat.mod_lt _ hk
    have eJ : J / k * k + J % k = J := Nat.div_add_mod' J k
    have := flat_get (f := f) hf l (J / k) hi (J % k) hj
    rw [eJ, hu] at this
    obtain ⟨b, off, e1, hc⟩ := (hx _ hi).2 (J % k) u this.symm
    exact ⟨b, off, by rw [e1], by rw [eJ] at hc; exact hc⟩
end Go.Proofs.YtjchjpmgbmeohaaDoor
