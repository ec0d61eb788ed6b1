/- The document's Range: choosing the next one (plain). -/
import Derived.Test.YtjegnhcpepkpoaaOrdG
namespace Go.Proofs.Ytjegnhcpepkpoaa
open Go.RowKit

theorem nodup_inj {l : List Int} (hn : l.Nodup) {i k : Nat} (hi : i < l.length) (hk : k < l.length) (h : l[i] = l[k]) : i = k := by
  rcases Nat.lt_trichotomy i k with h1 | h1 | h1
  · exact absurd h (List.pairwise_iff_getElem.1 hn i k hi hk h1)
  · exact h1
  · exact absurd h.symm (List.pairwise_iff_getElem.1 hn k i hk hi h1)
/-- Is x ahead of y? -/
def bef (fl : Bool) (x y : Int) : Bool := if fl = true then decide (y < x) else decide (x < y)
theorem bef_irrefl (fl : Bool) (x : Int) : bef fl x x = false := by cases fl <;> simp [bef]
theorem bef_trans {fl : Bool} {x y z : Int} (h : bef fl x y = true) (h2 : bef fl y z = true) : bef fl x z = true := by
  cases fl <;> simp [bef] at h h2 ⊢ <;> omega
def inR (fm t2 x : Int) : Prop := fm ≤ x ∧ (t2 = 0 ∨ x ≤ t2)
def Cand (ss : List Int) (D : List Bool) (fm t2 : Int) (i : Nat) : Prop := ∃ h : i < ss.length, D[i]? = some false ∧ inR fm t2 ss[i]
/-- The first one of those ahead of j that may be chosen. -/
def Best (ss : List Int) (D : List Bool) (fm t2 : Int) (fl : Bool) (j : Nat) : Option Nat → Prop
  | none => ∀ i, i < j → ¬ Cand ss D fm t2 i
  | some b => b < j ∧ Cand ss D fm t2 b ∧ ∀ i x y, i < j → Cand ss D fm t2 i → ss[i]? = some x → ss[b]? = some y → bef fl x y = false
section
variable {ss : List Int} {D : List Bool} {fm t2 : Int} {fl : Bool} {j : Nat}
theorem best_zero : Best ss D fm t2 fl 0 none := fun i h => by omega
theorem best_skip {b : Option Nat} (h : Best ss D fm t2 fl j b) (hc : ¬ Cand ss D fm t2 j) : Best ss D fm t2 fl (j + 1) b := by
  cases b with
  | none =>
    intro i hi
    by_cases e : i = j
    · subst e; exact hc
    · exact h i (by omega)
  | some b =>
    obtain ⟨h1, h2, h3⟩ := h
    refine ⟨by omega, h2, fun i x y hi hci hx hy => ?_⟩
    by_cases e : i = j
    · subst e; exact absurd hci hc
    · exact h3 i x y (by omega) hci hx hy
theorem best_first (h : Best ss D fm t2 fl j none) (hc : Cand ss D fm t2 j) : Best ss D fm t2 fl (j + 1) (some j) := by
  refine ⟨by omega, hc, fun i x y hi hci hx hy => ?_⟩
  by_cases e : i = j
  · subst e; rw [hx] at hy; cases hy; exact bef_irrefl fl x
  · exact absurd hci (h i (by omega))
theorem best_take {b : Nat} (h : Best ss D fm t2 fl j (some b)) (hc : Cand ss D fm t2 j) {x y : Int} (hx : ss[j]? = some x) (hy : ss[b]? = some y) (hb : bef fl x y = true) : Best ss D fm t2 fl (j + 1) (some j) := by
  obtain ⟨h1, h2, h3⟩ := h
  refine ⟨by omega, hc, fun i u v hi hci hu hv => ?_⟩
  rw [hx] at hv
  cases hv
  by_cases e : i = j
  · subst e; rw [hx] at hu; cases hu; exact bef_irrefl fl x
  · have h4 := h3 i u y (by omega) hci hu hy
    cases hq : bef fl u x with
    | false => rfl
    | true => rw [bef_trans hq hb] at h4; cases h4
theorem best_keep {b : Nat} (h : Best ss D fm t2 fl j (some b)) {x y : Int} (hx : ss[j]? = some x) (hy : ss[b]? = some y) (hb : bef fl x y = false) : Best ss D fm t2 fl (j + 1) (some b) := by
  obtain ⟨h1, h2, h3⟩ := h
  refine ⟨by omega, h2, fun i u v hi hci hu hv => ?_⟩
  by_cases e : i = j
  · subst e
    rw [hx] at hu; rw [hy] at hv; cases hu; cases hv
    exact hb
  · exact h3 i u v (by omega) hci hu hv
end
/-- What is done. -/
def dn (ss : List Int) (T : List Pr) (k : Nat) : List Bool := ss.map fun x => decide (x ∈ (T.take k).map (·.1))
section
variable {ss aa : List Int} {T : List Pr} {fm t2 : Int} {fl : Bool} {k : Nat}
theorem dn_zero : dn ss T 0 = List.replicate ss.length false := by
  rw [dn, List.take_zero]
  simp [List.map_const']
theorem dn_get {i : Nat} (h : i < ss.length) : (dn ss T k)[i]? = some (decide (ss[i] ∈ (T.take k).map (·.1))) := by
  rw [dn, List.getElem?_map, List.getElem?_eq_getElem h]; rfl
theorem not_done (hp : T.Pairwise (fun p q => bef fl p.1 q.1 = true)) {j : Nat} (hj : j < T.length) (hkj : k ≤ j) : ¬ T[j].1 ∈ (T.take k).map (·.1) := by
  intro hm
  obtain ⟨p, hpm, he⟩ := List.mem_map.1 hm
  obtain ⟨i, hi, rfl⟩ := List.getElem_of_mem hpm
  rw [List.length_take] at hi
  rw [List.getElem_take] at he
  have := List.pairwise_iff_getElem.1 hp i j (by omega) hj (by omega)
  rw [he, bef_irrefl] at this
  cases this
theorem done_lt {j : Nat} (hj : j < T.length) (hkj : j < k) : T[j].1 ∈ (T.take k).map (·.1) :=
  List.mem_map.2 ⟨T[j], by
    have h : j < (T.take k).length := by rw [List.length_take]; omega
    have e : (T.take k)[j] = T[j] := List.getElem_take
    rw [← e]
    exact List.getElem_mem h, rfl⟩
theorem zip_ex (hsa : ss.length = aa.length) {p : Pr} (h : p ∈ ss.zip aa) : ∃ i, ∃ (h1 : i < ss.length) (h2 : i < aa.length), ss[i] = p.1 ∧ aa[i] = p.2 := by
  obtain ⟨i, hi, he⟩ := List.getElem_of_mem h
  rw [List.length_zip] at hi
  refine ⟨i, by omega, by omega, ?_, ?_⟩
  · rw [← he, List.getElem_zip]
  · rw [← he, List.getElem_zip]
theorem pick_none (hsa : ss.length = aa.length) (hp : T.Pairwise (fun p q => bef fl p.1 q.1 = true)) (hT : ∀ p, p ∈ T ↔ p ∈ ss.zip aa ∧ inR fm t2 p.1) (hk : k ≤ T.length) (h : Best ss (dn ss T k) fm t2 fl ss.length none) : k = T.length := by
  apply Decidable.byContradiction
  intro hne
  have hkl : k < T.length := by omega
  obtain ⟨hz, hr⟩ := (hT T[k]).1 (List.getElem_mem hkl)
  obtain ⟨i, h1, h2, e1, e2⟩ := zip_ex hsa hz
  refine h i h1 ⟨h1, ?_, by rw [e1]; exact hr⟩
  rw [dn_get h1, e1, decide_eq_false (not_done hp hkl (Nat.le_refl _))]
theorem pick_some (hsa : ss.length = aa.length) (hp : T.Pairwise (fun p q => bef fl p.1 q.1 = true)) (hT : ∀ p, p ∈ T ↔ p ∈ ss.zip aa ∧ inR fm t2 p.1) {b : Nat} (h : Best ss (dn ss T k) fm t2 fl ss.length (some b)) :
    ∃ (hb : b < ss.length) (hb2 : b < aa.length) (hk : k < T.length), T[k] = (ss[b], aa[b]) := by
  obtain ⟨h1, ⟨hb, hd, hr⟩, h3⟩ := h
  have hb2 : b < aa.length := by omega
  rw [dn_get hb] at hd
  have hd2 : ¬ ss[b] ∈ (T.take k).map (·.1) := by simpa using hd
  have hz : (ss[b], aa[b]) ∈ ss.zip aa := by
    have hl : b < (ss.zip aa).length := by rw [List.length_zip]; omega
    have e : (ss.zip aa)[b] = (ss[b], aa[b]) := List.getElem_zip
    rw [← e]
    exact List.getElem_mem hl
  obtain ⟨j, hj, he⟩ := List.getElem_of_mem ((hT (ss[b], aa[b])).2 ⟨hz, hr⟩)
  have hkj : k ≤ j := by
    apply Decidable.byContradiction
    intro hc
    apply hd2
    have := done_lt (T := T) (k := k) hj (by omega)
    rwa [he] at this
  refine ⟨hb, hb2, by omega, ?_⟩
  by_cases e : k = j
  · subst e; exact he
  · have hkl : k < T.length := by omega
    obtain ⟨hz2, hr2⟩ := (hT T[k]).1 (List.getElem_mem hkl)
    obtain ⟨i, g1, g2, e1, e2⟩ := zip_ex hsa hz2
    have h4 := h3 i ss[i] ss[b] g1 ⟨g1, by rw [dn_get g1, e1, decide_eq_false (not_done hp hkl (Nat.le_refl _))], by rw [e1]; exact hr2⟩ (List.getElem?_eq_getElem g1) (List.getElem?_eq_getElem hb)
    have h5 := List.pairwise_iff_getElem.1 hp k j hkl hj (by omega)
    rw [he] at h5
    rw [e1] at h4
    rw [h4] at h5
    cases h5
theorem dn_succ (hnd : ss.Nodup) {b : Nat} (hb : b < ss.length) (hk : k < T.length) (he : T[k].1 = ss[b]) : dn ss T (k + 1) = (dn ss T k).set b true := by
  apply List.ext_getElem
  · simp [dn]
  · intro i h1 h2
    have hi : i < ss.length := by simpa [dn] using h1
    rw [List.getElem_set]
    simp only [dn, List.getElem_map]
    have em : (ss[i] ∈ (T.take (k + 1)).map (·.1)) ↔ (ss[i] ∈ (T.take k).map (·.1) ∨ ss[i] = ss[b]) := by
      rw [List.take_succ_eq_append_getElem hk, List.map_append, List.mem_append, List.map_cons, List.map_nil, List.mem_singleton, he]
    by_cases e : b = i
    · subst e
      rw [if_pos rfl, decide_eq_true (em.2 (.inr rfl))]
    · have hne : ss[i] ≠ ss[b] := fun h => e (nodup_inj hnd hi hb h).symm
      rw [if_neg e]
      apply decide_eq_decide.2
      rw [em]
      exact ⟨fun h => h.elim id (fun h => absurd h hne), .inl⟩
end
end Go.Proofs.Ytjegnhcpepkpoaa
