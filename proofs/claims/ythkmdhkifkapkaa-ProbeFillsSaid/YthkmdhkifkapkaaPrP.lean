/- The table and the document's: what both hold. -/
import Derived.Test.YthkmdhkifkapkaaPrM
import Derived.Test.YthkmdhkifkapkaaPrN
set_option linter.unusedSimpArgs false
set_option linter.unusedVariables false
namespace Go.Proofs.Ythkmdhkifkapkaa
open Go.RowKit

structure Both (ps : List PC) (ss : List Nm) (aa : List Int) : Prop where
  len : ss.length = aa.length
  uniq : ∀ (i j : Nat) (x : Nm), ss[i]? = some x → ss[j]? = some x → i = j
  has : ∀ x a, Has ps x a ↔ ∃ i : Nat, ss[i]? = some x ∧ aa[i]? = some a
  num : cnt 1 ps = ss.length
theorem both_nil : Both empty8 [] [] := ⟨rfl, fun i j x h => by simp at h, fun x a => ⟨fun h => (empty8_has x a h).elim, fun ⟨i, h, _⟩ => by simp at h⟩, empty8_cnt 1 (by decide)⟩
theorem Both.isin {ps : List PC} {ss : List Nm} {aa : List Int} (h : Both ps ss aa) (x : Nm) : IsIn ps x ↔ firstN ss x < ss.length := by
  rw [isin_iff, firstN_mem]
  constructor
  · rintro ⟨a, ha⟩
    obtain ⟨i, hi, _⟩ := (h.has x a).1 ha
    exact List.mem_of_getElem? hi
  · intro hm
    obtain ⟨i, hi, rfl⟩ := List.getElem_of_mem hm
    have hi2 : i < aa.length := by rw [← h.len]; exact hi
    exact ⟨aa[i], (h.has _ _).2 ⟨i, List.getElem?_eq_getElem hi, List.getElem?_eq_getElem hi2⟩⟩
theorem firstN_some {ss : List Nm} {x : Nm} (h : firstN ss x < ss.length) : ss[firstN ss x]? = some x := by rw [List.getElem?_eq_getElem h, firstN_get h]
def ddropS (ss : List Nm) (x : Nm) : List Nm := if firstN ss x < ss.length then cutL ss (firstN ss x) else ss
def ddropA (ss : List Nm) (aa : List Int) (x : Nm) : List Int := if firstN ss x < ss.length then cutL aa (firstN ss x) else aa
theorem Both.put {ps ps' : List PC} {ss : List Nm} {aa : List Int} {x : Nm} {a : Int} {b : Bool} (h : Both ps ss aa) (hb : b = true ↔ ¬ IsIn ps x) (hh : ∀ y c, Has ps' y c ↔ (Has ps y c ∧ y ≠ x) ∨ (y = x ∧ c = a)) (hc : cnt 1 ps' = cnt 1 ps + (if b = true then 1 else 0)) : Both ps' (dputS ss x) (dputA ss aa x a) := by
  unfold dputS dputA
  rw [h.isin] at hb
  by_cases hlt : firstN ss x < ss.length
  · have hbf : b = false := by cases b with
      | false => rfl
      | true => exact (hb.1 rfl hlt).elim
    subst hbf
    rw [if_neg (by decide)] at hc
    rw [if_pos hlt, if_pos hlt]
    have hx := firstN_some hlt
    obtain ⟨i, hi⟩ : ∃ i, firstN ss x = i := ⟨_, rfl⟩
    rw [hi] at hx hlt ⊢
    have hia : i < aa.length := by rw [← h.len]; exact hlt
    refine ⟨by rw [List.length_set]; exact h.len, h.uniq, fun y c => ?_, by rw [hc, h.num]; rfl⟩
    rw [hh, h.has]
    constructor
    · rintro (⟨⟨j, h1, h2⟩, hne⟩ | ⟨rfl, rfl⟩)
      · refine ⟨j, h1, ?_⟩
        rw [List.getElem?_set_ne (fun e => hne (by rw [e, h1] at hx; exact Option.some.inj hx))]
        exact h2
      · exact ⟨i, hx, List.getElem?_set_self hia⟩
    · rintro ⟨j, h1, h2⟩
      by_cases e : i = j
      · subst e
        rw [List.getElem?_set_self hia] at h2
        rw [hx] at h1
        exact .inr ⟨(Option.some.inj h1).symm, (Option.some.inj h2).symm⟩
      · rw [List.getElem?_set_ne e] at h2
        exact .inl ⟨⟨j, h1, h2⟩, fun e2 => e (h.uniq i j x hx (e2 ▸ h1))⟩
  · have hbt : b = true := hb.2 hlt
    subst hbt
    rw [if_pos rfl] at hc
    rw [if_neg hlt, if_neg hlt]
    have hno : x ∉ ss := fun hm => hlt (firstN_mem.2 hm)
    have hnj : ∀ (j : Nat), ss[j]? ≠ some x := fun j e => hno (List.mem_of_getElem? e)
    have g1 : ∀ (j : Nat) (y : Nm), (ss ++ [x])[j]? = some y ↔ (ss[j]? = some y ∧ j < ss.length) ∨ (j = ss.length ∧ y = x) := fun j y => by
      by_cases hj : j < ss.length
      · rw [List.getElem?_append_left hj]
        exact ⟨fun e => .inl ⟨e, hj⟩, fun e => e.elim (·.1) (fun e => by omega)⟩
      · rw [List.getElem?_append_right (by omega)]
        constructor
        · intro e
          by_cases e0 : j - ss.length = 0
          · rw [e0] at e
            simp only [List.getElem?_cons_zero, Option.some.injEq] at e
            exact .inr ⟨by omega, e.symm⟩
          · obtain ⟨m, hm⟩ : ∃ m, j - ss.length = m + 1 := ⟨j - ss.length - 1, by omega⟩
            rw [hm] at e
            simp at e
        · rintro (⟨_, e⟩ | ⟨rfl, rfl⟩)
          · exact (hj e).elim
          · simp
    have g2 : ∀ (j : Nat) (c : Int), (aa ++ [a])[j]? = some c ↔ (aa[j]? = some c ∧ j < ss.length) ∨ (j = ss.length ∧ c = a) := fun j y => by
      rw [h.len]
      by_cases hj : j < aa.length
      · rw [List.getElem?_append_left hj]
        exact ⟨fun e => .inl ⟨e, hj⟩, fun e => e.elim (·.1) (fun e => by omega)⟩
      · rw [List.getElem?_append_right (by omega)]
        constructor
        · intro e
          by_cases e0 : j - aa.length = 0
          · rw [e0] at e
            simp only [List.getElem?_cons_zero, Option.some.injEq] at e
            exact .inr ⟨by omega, e.symm⟩
          · obtain ⟨m, hm⟩ : ∃ m, j - aa.length = m + 1 := ⟨j - aa.length - 1, by omega⟩
            rw [hm] at e
            simp at e
        · rintro (⟨_, e⟩ | ⟨rfl, rfl⟩)
          · exact (hj e).elim
          · simp
    refine ⟨by simp [h.len], fun i j y hi hj => ?_, fun y c => ?_, by rw [hc, h.num]; simp⟩
    · rw [g1] at hi hj
      rcases hi with ⟨hi, _⟩ | ⟨hi, rfl⟩ <;> rcases hj with ⟨hj, _⟩ | ⟨hj, e⟩
      · exact h.uniq i j y hi hj
      · exact (hnj i (e ▸ hi)).elim
      · exact (hnj j hj).elim
      · omega
    · rw [hh, h.has]
      constructor
      · rintro (⟨⟨j, h1, h2⟩, hne⟩ | ⟨rfl, rfl⟩)
        · have hj := (List.getElem?_eq_some_iff.1 h1).1
          exact ⟨j, (g1 j y).2 (.inl ⟨h1, hj⟩), (g2 j c).2 (.inl ⟨h2, hj⟩)⟩
        · exact ⟨ss.length, (g1 _ _).2 (.inr ⟨rfl, rfl⟩), (g2 _ _).2 (.inr ⟨rfl, rfl⟩)⟩
      · rintro ⟨j, h1, h2⟩
        rw [g1] at h1
        rw [g2] at h2
        rcases h1 with ⟨h1, hj⟩ | ⟨hj, rfl⟩
        · rcases h2 with ⟨h2, _⟩ | ⟨h2, _⟩
          · exact .inl ⟨⟨j, h1, h2⟩, fun e => hnj j (e ▸ h1)⟩
          · omega
        · rcases h2 with ⟨_, h2⟩ | ⟨_, h2⟩
          · omega
          · exact .inr ⟨rfl, h2⟩
theorem cutL_get {α : Type} {xs : List α} {i : Nat} (hi : i < xs.length) (j : Nat) : (cutL xs i)[j]? = if j < i then xs[j]? else xs[j + 1]? := by
  unfold cutL
  by_cases hj : j < i
  · rw [if_pos hj, List.getElem?_append_left (by rw [List.length_take]; omega), List.getElem?_take_of_lt hj]
  · rw [if_neg hj, List.getElem?_append_right (by rw [List.length_take]; omega), List.length_take, List.getElem?_drop]
    congr 1
    omega
theorem Both.drop {ps ps' : List PC} {ss : List Nm} {aa : List Int} {x : Nm} {b : Bool} (h : Both ps ss aa) (hb : b = true ↔ IsIn ps x) (hh : ∀ y c, Has ps' y c ↔ Has ps y c ∧ y ≠ x) (hc : cnt 1 ps' + (if b = true then 1 else 0) = cnt 1 ps) : Both ps' (ddropS ss x) (ddropA ss aa x) := by
  unfold ddropS ddropA
  rw [h.isin] at hb
  by_cases hlt : firstN ss x < ss.length
  · have hbt : b = true := hb.2 hlt
    subst hbt
    rw [if_pos rfl] at hc
    rw [if_pos hlt, if_pos hlt]
    have hx := firstN_some hlt
    obtain ⟨i, hi⟩ : ∃ i, firstN ss x = i := ⟨_, rfl⟩
    rw [hi] at hx hlt ⊢
    have hia : i < aa.length := by rw [← h.len]; exact hlt
    have old : ∀ (j : Nat) (y : Nm), (cutL ss i)[j]? = some y → ∃ k : Nat, k ≠ i ∧ ss[k]? = some y ∧ (j = if k < i then k else k - 1) ∧ (cutL aa i)[j]? = aa[k]? := fun j y hj => by
      rw [cutL_get hlt] at hj
      rw [cutL_get hia]
      by_cases e : j < i
      · rw [if_pos e] at hj ⊢
        exact ⟨j, by omega, hj, by rw [if_pos e], rfl⟩
      · rw [if_neg e] at hj ⊢
        exact ⟨j + 1, by omega, hj, by rw [if_neg (by omega)]; omega, rfl⟩
    refine ⟨by rw [cutL_len hlt, cutL_len hia, h.len], fun j k y hj hk => ?_, fun y c => ?_, by rw [cutL_len hlt]; have := h.num; omega⟩
    · obtain ⟨j2, _, hj2, ej, _⟩ := old j y hj
      obtain ⟨k2, _, hk2, ek, _⟩ := old k y hk
      rw [ej, ek, h.uniq j2 k2 y hj2 hk2]
    · rw [hh, h.has]
      constructor
      · rintro ⟨⟨j, h1, h2⟩, hne⟩
        have hji : j ≠ i := fun e => hne (by rw [e, hx] at h1; exact (Option.some.inj h1).symm)
        by_cases e : j < i
        · exact ⟨j, by rw [cutL_get hlt, if_pos e]; exact h1, by rw [cutL_get hia, if_pos e]; exact h2⟩
        · exact ⟨j - 1, by rw [cutL_get hlt, if_neg (by omega), show j - 1 + 1 = j by omega]; exact h1, by rw [cutL_get hia, if_neg (by omega), show j - 1 + 1 = j by omega]; exact h2⟩
      · rintro ⟨j, h1, h2⟩
        obtain ⟨k, hki, hk, _, hka⟩ := old j y h1
        rw [hka] at h2
        exact ⟨⟨k, hk, h2⟩, fun e => hki (h.uniq k i x (e ▸ hk) hx)⟩
  · have hbf : b = false := by cases b with
      | false => rfl
      | true => exact (hlt (hb.1 rfl)).elim
    subst hbf
    rw [if_neg (by decide)] at hc
    rw [if_neg hlt, if_neg hlt]
    have hno : x ∉ ss := fun hm => hlt (firstN_mem.2 hm)
    refine ⟨h.len, h.uniq, fun y c => ?_, by have := h.num; omega⟩
    rw [hh, h.has]
    exact ⟨fun h => h.1, fun ⟨j, h1, h2⟩ => ⟨⟨j, h1, h2⟩, fun e => hno (e ▸ List.mem_of_getElem? h1)⟩⟩
/-- What Get tells. -/
theorem Both.get {ps : List PC} {ss : List Nm} {aa : List Int} {x : Nm} {a : Int} {b : Bool} (h : Both ps ss aa) (hg : (b = true ∧ Has ps x a) ∨ (b = false ∧ a = 0 ∧ ¬ IsIn ps x)) : b = decide (firstN ss x < ss.length) ∧ a = aa.getD (firstN ss x) 0 := by
  rcases hg with ⟨rfl, hg⟩ | ⟨rfl, rfl, hg⟩
  · have hlt := (h.isin x).1 (has_in hg)
    obtain ⟨j, h1, h2⟩ := (h.has x a).1 hg
    have e := h.uniq _ _ x (firstN_some hlt) h1
    rw [e] at hlt ⊢
    exact ⟨(decide_eq_true hlt).symm, by rw [List.getD_eq_getElem?_getD, h2]; rfl⟩
  · have hlt : ¬ firstN ss x < ss.length := fun e => hg ((h.isin x).2 e)
    exact ⟨(decide_eq_false hlt).symm, by rw [List.getD_eq_getElem?_getD, List.getElem?_eq_none (by have := h.len; omega)]; rfl⟩
/-! Calls on a table whose contents are told by the document's. -/
def PutB (S : Nat → Prop) (T : Nat) (ss : List Nm) (aa : List Int) (x : Nm) (a : Int) (w : World) (e : Ending) (w' : World) : Prop :=
  e = .returned (.bool (!decide (firstN ss x < ss.length))) ∧ ∃ (S' : Nat → Prop) (ps' : List PC), IsT w' S' T ps' ∧ Both ps' (dputS ss x) (dputA ss aa x a) ∧ Fr S w w' ∧ ∀ k, S' k → S k ∨ w.heap.size ≤ k
theorem put_both (w : World) (S : Nat → Prop) (T : Nat) (ps : List PC) (ss : List Nm) (aa : List Int) (x : Nm) (a : Int) (h : IsT w S T ps) (hB : Both ps ss aa) (hu : ss.length ≤ 1000) :
    Calls Try.prog 8 #[.pointer (some ⟨T, 0, none⟩), .agg #[.int .u64 x.hi, .int .u64 x.lo], .int .i64 a] w (PutB S T ss aa x a w) := by
  refine (put_any w S T ps x a h (by rw [hB.num]; omega)).mono ?_
  rintro e w2 ⟨b, ps', rfl, hb, ht, hh, hc, f⟩
  refine ⟨?_, _, ps', ht, hB.put hb hh hc, f, fun k hk => hk.imp id (fun h => h.1)⟩
  rw [hB.isin] at hb
  congr 2
  by_cases hlt : firstN ss x < ss.length
  · rw [decide_eq_true hlt]
    cases b with
    | false => rfl
    | true => exact (hb.1 rfl hlt).elim
  · rw [decide_eq_false hlt]
    exact hb.2 hlt
def DropB (S : Nat → Prop) (T : Nat) (ss : List Nm) (aa : List Int) (x : Nm) (w : World) (e : Ending) (w' : World) : Prop :=
  e = .returned (.bool (decide (firstN ss x < ss.length))) ∧ ∃ ps', IsT w' S T ps' ∧ Both ps' (ddropS ss x) (ddropA ss aa x) ∧ Fr S w w'
theorem drop_both (w : World) (S : Nat → Prop) (T : Nat) (ps : List PC) (ss : List Nm) (aa : List Int) (x : Nm) (h : IsT w S T ps) (hB : Both ps ss aa) :
    Calls Try.prog 9 #[.pointer (some ⟨T, 0, none⟩), .agg #[.int .u64 x.hi, .int .u64 x.lo]] w (DropB S T ss aa x w) := by
  refine (drop_any w S T ps x h).mono ?_
  rintro e w2 ⟨b, ps', rfl, hb, ht, hh, hc, -, f⟩
  refine ⟨?_, ps', ht, hB.drop hb hh hc, f⟩
  rw [hB.isin] at hb
  congr 2
  by_cases hlt : firstN ss x < ss.length
  · rw [decide_eq_true hlt]
    exact hb.2 hlt
  · rw [decide_eq_false hlt]
    cases b with
    | false => rfl
    | true => exact (hlt (hb.1 rfl)).elim
def GetB (ss : List Nm) (aa : List Int) (x : Nm) (w : World) (e : Ending) (w' : World) : Prop :=
  e = .returned (.tuple #[.int .i64 (aa.getD (firstN ss x) 0), .bool (decide (firstN ss x < ss.length))]) ∧ Fr (fun _ => False) w w'
theorem get_both (w : World) (S : Nat → Prop) (T : Nat) (ps : List PC) (ss : List Nm) (aa : List Int) (x : Nm) (h : IsT w S T ps) (hB : Both ps ss aa) :
    Calls Try.prog 10 #[.pointer (some ⟨T, 0, none⟩), .agg #[.int .u64 x.hi, .int .u64 x.lo]] w (GetB ss aa x w) := by
  refine (get_any w S T ps x h).mono ?_
  rintro e w2 ⟨a, b, rfl, hg, f⟩
  obtain ⟨rfl, rfl⟩ := hB.get hg
  exact ⟨rfl, f⟩
def DDropB (S : Nat → Prop) (M : Nat) (ss : List Nm) (aa : List Int) (x : Nm) (w : World) (e : Ending) (w' : World) : Prop :=
  e = .returned (.bool (decide (firstN ss x < ss.length))) ∧ ∃ S', IsD w' S' M (ddropS ss x) (ddropA ss aa x) ∧ Fr S w w' ∧ ∀ k, S' k → S k ∨ w.heap.size ≤ k
theorem ddrop_both (w : World) (S : Nat → Prop) (M : Nat) (ss : List Nm) (aa : List Int) (x : Nm) (h : IsD w S M ss aa) (hsa : ss.length = aa.length) (hn : ss.length ≤ 1000) :
    Calls Try.prog 17 #[.pointer (some ⟨M, 0, none⟩), .agg #[.int .u64 x.hi, .int .u64 x.lo]] w (DDropB S M ss aa x w) := by
  unfold DDropB ddropS ddropA
  by_cases hlt : firstN ss x < ss.length
  · refine (ddrop_any w S M ss aa x h hsa hn hlt).mono ?_
    rintro e w2 ⟨rfl, S', h1, h2, h3⟩
    rw [if_pos hlt, if_pos hlt, decide_eq_true hlt]
    exact ⟨rfl, S', h1, h2, h3⟩
  · refine (ddrop_no w S M ss aa x h hn hlt).mono ?_
    rintro e w2 ⟨rfl, f⟩
    rw [if_neg hlt, if_neg hlt, decide_eq_false hlt]
    exact ⟨rfl, S, h.fr f (fun _ _ h => h), f.mono (fun _ h => h.elim), fun k hk => .inl hk⟩
theorem dputS_len (ss : List Nm) (x : Nm) : (dputS ss x).length ≤ ss.length + 1 := by unfold dputS; split <;> simp
theorem ddropS_len (ss : List Nm) (x : Nm) : (ddropS ss x).length ≤ ss.length := by
  unfold ddropS; split
  · rename_i h; rw [cutL_len h]; omega
  · exact Nat.le_refl _
end Go.Proofs.Ythkmdhkifkapkaa
