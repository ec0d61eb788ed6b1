/- The list and the document's one hold the same pairs (plain). -/
import Derived.Test.YtjegnhcpepkpoaaOrdB
import Derived.Test.YtjegnhcpepkpoaaOrdL
namespace Go.Proofs.Ytjegnhcpepkpoaa
open Go.RowKit

section
variable {α : Type} {f : α → Int} {l : List α}
theorem key_eq (hn : (l.map f).Nodup) {i k : Nat} (hi : i < l.length) (hk : k < l.length) (h : f l[i] = f l[k]) : i = k := by
  have hi2 : i < (l.map f).length := by simpa using hi
  have hk2 : k < (l.map f).length := by simpa using hk
  have e : (l.map f)[i] = (l.map f)[k] := by simpa using h
  exact nodup_inj hn hi2 hk2 e
theorem set_mem (hn : (l.map f).Nodup) {k : Nat} (hk : k < l.length) {x p : α} : p ∈ l.set k x ↔ (p ∈ l ∧ f p ≠ f l[k]) ∨ p = x := by
  constructor
  · intro h
    obtain ⟨j, hj, he⟩ := List.getElem_of_mem h
    have hjl : j < l.length := by simpa using hj
    rw [List.getElem_set] at he
    split at he
    · exact .inr he.symm
    · rename_i hne
      refine .inl ⟨he ▸ List.getElem_mem hjl, fun hc => hne ?_⟩
      rw [← he] at hc
      exact (key_eq hn hjl hk hc).symm
  · rintro (⟨h, hne⟩ | rfl)
    · obtain ⟨j, hj, he⟩ := List.getElem_of_mem h
      have hjk : k ≠ j := fun e => hne (by subst e; rw [he])
      refine List.mem_iff_getElem.2 ⟨j, by simpa using hj, ?_⟩
      rw [List.getElem_set, if_neg hjk, he]
    · exact List.mem_set hk _
theorem cut_mem (hn : (l.map f).Nodup) {k : Nat} (hk : k < l.length) {p : α} : p ∈ l.take k ++ l.drop (k + 1) ↔ p ∈ l ∧ f p ≠ f l[k] := by
  rw [List.mem_append]
  constructor
  · rintro (h | h)
    · obtain ⟨j, hj, he⟩ := List.getElem_of_mem h
      have hj2 : j < k ∧ j < l.length := by rw [List.length_take] at hj; omega
      rw [List.getElem_take] at he
      refine ⟨he ▸ List.getElem_mem hj2.2, fun hc => ?_⟩
      rw [← he] at hc
      have := key_eq hn hj2.2 hk hc
      omega
    · obtain ⟨j, hj, he⟩ := List.getElem_of_mem h
      have hj2 : k + 1 + j < l.length := by rw [List.length_drop] at hj; omega
      rw [List.getElem_drop] at he
      refine ⟨he ▸ List.getElem_mem hj2, fun hc => ?_⟩
      rw [← he] at hc
      have := key_eq hn hj2 hk hc
      omega
  · rintro ⟨h, hne⟩
    obtain ⟨j, hj, he⟩ := List.getElem_of_mem h
    by_cases hjk : j < k
    · refine .inl (List.mem_iff_getElem.2 ⟨j, by rw [List.length_take]; omega, by rw [List.getElem_take]; exact he⟩)
    · have hjne : j ≠ k := fun e => hne (by subst e; rw [he])
      refine .inr (List.mem_iff_getElem.2 ⟨j - (k + 1), by rw [List.length_drop]; omega, ?_⟩)
      rw [List.getElem_drop]
      have : k + 1 + (j - (k + 1)) = j := by omega
      simp only [this]
      exact he
end
theorem ris_nodup {ps : List Pr} (h : Ris ps) : (ps.map (·.1)).Nodup := by
  refine List.pairwise_map.2 (List.Pairwise.imp (fun {p q} hpq => ?_) h)
  exact fun e => by have : p.1 < q.1 := hpq; omega
/-- Is a stamp there? -/
theorem in_low {ps : List Pr} (hR : Ris ps) (s : Int) : (low ps s < ps.length ∧ (ps.map (·.1))[low ps s]? = some s) ↔ s ∈ ps.map (·.1) := by
  constructor
  · rintro ⟨_, h⟩; exact List.mem_of_getElem? h
  · intro h
    obtain ⟨p, hp, rfl⟩ := List.mem_map.1 h
    obtain ⟨j, hj, rfl⟩ := List.getElem_of_mem hp
    have h1 : low ps ps[j].1 ≤ j := by
      apply Decidable.byContradiction
      intro hc
      have := low_lo (s := ps[j].1) hj (by omega)
      omega
    have h2 : low ps ps[j].1 < ps.length := by omega
    refine ⟨h2, ?_⟩
    have h3 := low_hi hR h2 (Nat.le_refl _)
    have e : ps[low ps ps[j].1].1 = ps[j].1 := by
      by_cases hq : low ps ps[j].1 = j
      · simp only [hq]
      · have := List.pairwise_iff_getElem.1 hR _ j h2 hj (by omega)
        omega
    rw [List.getElem?_map, List.getElem?_eq_getElem h2]
    simp [e]
theorem putL_mem {ps : List Pr} (hR : Ris ps) (s a : Int) (p : Pr) : p ∈ putL ps s a ↔ (p ∈ ps ∧ p.1 ≠ s) ∨ p = (s, a) := by
  unfold putL
  split
  · rename_i h
    obtain ⟨hk, hg⟩ := h
    rw [List.getElem?_map, List.getElem?_eq_getElem hk] at hg
    simp only [Option.map_some, Option.some.injEq] at hg
    rw [set_mem (ris_nodup hR) hk, hg]
  · rename_i h
    rw [in_low hR] at h
    have e : ps.take (low ps s) ++ ps.drop (low ps s) = ps := List.take_append_drop _ _
    constructor
    · intro hm
      rcases List.mem_append.1 hm with hm | hm
      · have hm := List.mem_of_mem_take hm
        exact .inl ⟨hm, fun hc => h (List.mem_map.2 ⟨p, hm, hc⟩)⟩
      · rcases List.mem_cons.1 hm with hm | hm
        · exact .inr hm
        · have hm := List.mem_of_mem_drop hm
          exact .inl ⟨hm, fun hc => h (List.mem_map.2 ⟨p, hm, hc⟩)⟩
    · rintro (⟨hm, _⟩ | rfl)
      · rw [← e] at hm
        rcases List.mem_append.1 hm with hm | hm
        · exact List.mem_append.2 (.inl hm)
        · exact List.mem_append.2 (.inr (List.mem_cons_of_mem _ hm))
      · exact List.mem_append.2 (.inr (List.mem_cons_self ..))
theorem dropL_mem {ps : List Pr} (hR : Ris ps) (s : Int) (p : Pr) : p ∈ dropL ps s ↔ p ∈ ps ∧ p.1 ≠ s := by
  unfold dropL
  split
  · rename_i h
    obtain ⟨hk, hg⟩ := h
    rw [List.getElem?_map, List.getElem?_eq_getElem hk] at hg
    simp only [Option.map_some, Option.some.injEq] at hg
    rw [cut_mem (ris_nodup hR) hk, hg]
  · rename_i h
    rw [in_low hR] at h
    exact ⟨fun hm => ⟨hm, fun hc => h (List.mem_map.2 ⟨p, hm, hc⟩)⟩, fun hm => hm.1⟩

/-- Both hold the same. -/
def Both (ps : List Pr) (ss aa : List Int) : Prop := ss.length = aa.length ∧ ss.Nodup ∧ ∀ p, p ∈ ss.zip aa ↔ p ∈ ps
theorem firstI_le (ss : List Int) (s : Int) : firstI ss s ≤ ss.length := by
  induction ss with
  | nil => simp [firstI]
  | cons x xs ih =>
    simp only [firstI, List.length_cons]
    split <;> omega
theorem firstI_get {ss : List Int} {s : Int} (h : firstI ss s < ss.length) : ss[firstI ss s] = s := by
  induction ss with
  | nil => simp at h
  | cons x xs ih =>
    by_cases e : x = s
    · simp [firstI, e]
    · have e1 : firstI (x :: xs) s = firstI xs s + 1 := by simp only [firstI, if_neg e]
      simp only [e1, List.length_cons] at h
      simp only [e1, List.getElem_cons_succ]
      exact ih (by omega)
theorem in_first (ss : List Int) (s : Int) : firstI ss s < ss.length ↔ s ∈ ss := by
  constructor
  · intro h
    have := firstI_get h
    exact this ▸ List.getElem_mem h
  · intro h
    induction ss with
    | nil => simp at h
    | cons x xs ih =>
      by_cases e : x = s
      · simp [firstI, e]
      · simp only [firstI, if_neg e, List.length_cons]
        rcases List.mem_cons.1 h with h | h
        · exact absurd h.symm e
        · have := ih h; omega
section
variable {ps : List Pr} {ss aa : List Int}
theorem Both.keys (h : Both ps ss aa) : (ss.zip aa).map (·.1) = ss := List.map_fst_zip (Nat.le_of_eq h.1)
theorem Both.mem (h : Both ps ss aa) (s : Int) : s ∈ ss ↔ s ∈ ps.map (·.1) := by
  have e := h.keys
  constructor
  · intro hm
    rw [← e] at hm
    obtain ⟨p, hp, rfl⟩ := List.mem_map.1 hm
    exact List.mem_map.2 ⟨p, (h.2.2 p).1 hp, rfl⟩
  · intro hm
    obtain ⟨p, hp, rfl⟩ := List.mem_map.1 hm
    rw [← e]
    exact List.mem_map.2 ⟨p, (h.2.2 p).2 hp, rfl⟩
theorem Both.ans (h : Both ps ss aa) (hR : Ris ps) (s : Int) : decide (firstI ss s < ss.length) = decide (low ps s < ps.length ∧ (ps.map (·.1))[low ps s]? = some s) := by
  apply decide_eq_decide.2
  rw [in_low hR, in_first]
  exact h.mem s
theorem Both.len (h : Both ps ss aa) (hR : Ris ps) : ps.length = ss.length := by
  have hz : (ss.zip aa).Nodup := by
    have h1 : ((ss.zip aa).map (·.1)).Nodup := by rw [h.keys]; exact h.2.1
    exact List.Pairwise.imp (fun hne e => hne (congrArg _ e)) (List.pairwise_map.1 h1)
  have hp : ps.Nodup := List.Pairwise.imp (fun {p q} hpq e => by subst e; exact absurd hpq (Int.lt_irrefl _)) hR
  have := ((List.perm_ext_iff_of_nodup hz hp).2 h.2.2).length_eq
  rw [← this, List.length_zip, h.1, Nat.min_self]
theorem Both.put (h : Both ps ss aa) (hR : Ris ps) (s a : Int) : Both (putL ps s a) (mputS ss s) (mputA ss aa s a) := by
  have hnk : ((ss.zip aa).map (·.1)).Nodup := by rw [h.keys]; exact h.2.1
  unfold mputS mputA
  by_cases hlt : firstI ss s < ss.length
  · rw [if_pos hlt, if_pos hlt]
    refine ⟨by simpa using h.1, h.2.1, fun p => ?_⟩
    have hlz : firstI ss s < (ss.zip aa).length := by rw [List.length_zip, ← h.1, Nat.min_self]; exact hlt
    have e : ss.zip (aa.set (firstI ss s) a) = (ss.zip aa).set (firstI ss s) (s, a) := by
      apply List.ext_getElem
      · simp
      · intro i h1 h2
        rw [List.getElem_zip, List.getElem_set, List.getElem_set, List.getElem_zip]
        by_cases hi : firstI ss s = i
        · rw [if_pos hi, if_pos hi]
          have := firstI_get hlt
          simp only [hi] at this
          rw [this]
        · rw [if_neg hi, if_neg hi]
    rw [e, set_mem hnk hlz, putL_mem hR, h.2.2 p, List.getElem_zip, firstI_get hlt]
  · rw [if_neg hlt, if_neg hlt]
    rw [in_first] at hlt
    refine ⟨by simpa using h.1, ?_, fun p => ?_⟩
    · rw [List.nodup_append]
      refine ⟨h.2.1, by simp, fun x hx y hy hxy => ?_⟩
      rw [List.mem_singleton] at hy
      subst hy
      subst hxy
      exact hlt hx
    · rw [List.zip_append h.1, List.mem_append, putL_mem hR, h.2.2 p]
      simp only [List.zip_cons_cons, List.zip_nil_right, List.mem_singleton]
      constructor
      · rintro (hm | hm)
        · exact .inl ⟨hm, fun hc => hlt ((h.mem s).2 (List.mem_map.2 ⟨p, hm, hc⟩))⟩
        · exact .inr hm
      · rintro (⟨hm, _⟩ | hm)
        · exact .inl hm
        · exact .inr hm
theorem cutI_zip (hl : ss.length = aa.length) (i : Nat) : (cutI ss i).zip (cutI aa i) = (ss.zip aa).take i ++ (ss.zip aa).drop (i + 1) := by
  unfold cutI
  rw [List.zip_append (by rw [List.length_take, List.length_take, hl])]
  simp only [List.zip, List.take_zipWith, List.drop_zipWith]
theorem Both.drop (h : Both ps ss aa) (hR : Ris ps) {s : Int} (hlt : firstI ss s < ss.length) : Both (dropL ps s) (cutI ss (firstI ss s)) (cutI aa (firstI ss s)) := by
  have hnk : ((ss.zip aa).map (·.1)).Nodup := by rw [h.keys]; exact h.2.1
  have hlz : firstI ss s < (ss.zip aa).length := by rw [List.length_zip, ← h.1, Nat.min_self]; exact hlt
  refine ⟨by rw [cutI_len hlt, cutI_len (by rw [← h.1]; exact hlt), h.1], ?_, fun p => ?_⟩
  · refine List.Pairwise.sublist ?_ h.2.1
    have e : ss.take (firstI ss s) ++ ss.drop (firstI ss s) = ss := List.take_append_drop _ _
    conv => rhs; rw [← e]
    refine List.Sublist.append (List.Sublist.refl _) ?_
    rw [← List.drop_drop]
    exact List.drop_sublist _ _
  · rw [cutI_zip h.1, cut_mem hnk hlz, dropL_mem hR, h.2.2 p, List.getElem_zip, firstI_get hlt]
theorem Both.drop_no (h : Both ps ss aa) (hR : Ris ps) {s : Int} (hlt : ¬ firstI ss s < ss.length) : Both (dropL ps s) ss aa := by
  rw [in_first] at hlt
  refine ⟨h.1, h.2.1, fun p => ?_⟩
  rw [dropL_mem hR, h.2.2 p]
  exact ⟨fun hm => ⟨hm, fun hc => hlt ((h.mem s).2 (List.mem_map.2 ⟨p, hm, hc⟩))⟩, fun hm => hm.1⟩
theorem both_nil : Both [] [] [] := ⟨rfl, List.Pairwise.nil, fun _ => by simp⟩
theorem range_mem (hR : Ris ps) (a b : Int) (p : Pr) : p ∈ rangeL ps a b ↔ p ∈ ps ∧ inR a b p.1 := by
  by_cases hb : b = 0
  · subst hb
    rw [range_open hR, List.mem_filter]
    simp [inR]
  · rw [range_filter hR a hb, List.mem_filter]
    simp [inR, inP, hb]
theorem range_ris (hR : Ris ps) (a b : Int) : Ris (rangeL ps a b) := by
  unfold rangeL
  exact List.Pairwise.sublist ((List.take_sublist _ _).trans (List.drop_sublist _ _)) hR
theorem ris_bef (hR : Ris ps) : ps.Pairwise (fun p q => bef false p.1 q.1 = true) := List.Pairwise.imp (fun {p q} h => by simpa [bef] using h) hR
theorem ris_bef_rev (hR : Ris ps) : ps.reverse.Pairwise (fun p q => bef true p.1 q.1 = true) := by
  rw [List.pairwise_reverse]
  exact List.Pairwise.imp (fun {p q} h => by simpa [bef] using h) hR
end
end Go.Proofs.Ytjegnhcpepkpoaa
