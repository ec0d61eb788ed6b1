/- Package probe: cells that turn (plain). -/
import Derived.Test.YtjchjpmgbmeohaaDoorPrC
set_option linter.unusedSimpArgs false
set_option linter.unusedVariables false
namespace Go.Proofs.YtjchjpmgbmeohaaDoor
open Go.RowKit

/-- How many cells are of a kind. -/
def cnt (k : Int) (cs : List PC) : Nat := (cs.filter (fun c => c.kind == k)).length
theorem cnt_set {cs : List PC} {p : Nat} {c d : PC} (k : Int) (hc : cs[p]? = some c) : cnt k (cs.set p d) + (if c.kind = k then 1 else 0) = cnt k cs + (if d.kind = k then 1 else 0) := by
  induction cs generalizing p with
  | nil => simp at hc
  | cons x xs ih =>
    cases p with
    | zero =>
      simp only [List.getElem?_cons_zero, Option.some.injEq] at hc
      subst hc
      simp only [List.set_cons_zero, cnt, List.filter_cons, beq_iff_eq]
      split <;> split <;> simp <;> omega
    | succ p =>
      have hc : xs[p]? = some c := by simpa using hc
      have h := ih hc
      simp only [List.set_cons_succ, cnt, List.filter_cons, beq_iff_eq] at h ⊢
      split <;> (try simp only [List.length_cons]) <;> omega
theorem cnt_all {cs : List PC} (h : ∀ c ∈ cs, c.kind = 0 ∨ c.kind = 1 ∨ c.kind = 2) : cnt 0 cs + cnt 1 cs + cnt 2 cs = cs.length := by
  induction cs with
  | nil => rfl
  | cons x xs ih =>
    have h1 := ih (fun c hc => h c (List.mem_cons_of_mem _ hc))
    have h2 := h x (List.mem_cons_self ..)
    simp only [cnt, List.filter_cons, beq_iff_eq, List.length_cons] at h1 ⊢
    rcases h2 with e | e | e
    · simp [e]; omega
    · simp [e]; omega
    · simp [e]; omega
theorem cnt_pos {cs : List PC} {k : Int} (h : 0 < cnt k cs) : ∃ (p : Nat) (c : PC), cs[p]? = some c ∧ c.kind = k := by
  obtain ⟨c, hc⟩ := List.exists_mem_of_length_pos h
  rw [List.mem_filter] at hc
  obtain ⟨p, hp, rfl⟩ := List.getElem_of_mem hc.1
  exact ⟨p, cs[p], List.getElem?_eq_getElem hp, by simpa using hc.2⟩
theorem free_of_cnt {cs : List PC} (h : 0 < cnt 0 cs) : ∃ p, p < cs.length ∧ knd cs p = 0 := by
  obtain ⟨p, c, hc, hk⟩ := cnt_pos h
  exact ⟨p, (List.getElem?_eq_some_iff.1 hc).1, by rw [knd_at hc, hk]⟩
section
variable {hm : Nat → Nm → Nat} {cs : List PC} {p : Nat}
theorem get_set_ne {q : Nat} {d : PC} (h : p ≠ q) : (cs.set p d)[q]? = cs[q]? := List.getElem?_set_ne h
theorem knd_set {d : PC} (hp : p < cs.length) (q : Nat) : knd (cs.set p d) q = if p = q then d.kind else knd cs q := by
  by_cases e : p = q
  · subst e; rw [if_pos rfl, knd, List.getElem?_set_self hp]; rfl
  · rw [if_neg e, knd, get_set_ne e, knd]
theorem reach_set {d : PC} (hp : p < cs.length) (hd : d.kind ≠ 0) {h q : Nat} (hr : Reach cs h q) : Reach (cs.set p d) h q := by
  obtain ⟨e, he, hq, hn⟩ := hr
  refine ⟨e, by simpa using he, by simpa using hq, fun j hj => ?_⟩
  rw [List.length_set, knd_set hp]
  split
  · exact hd
  · exact hn j hj
/-- A cell is left behind. -/
theorem PInv.drop (h : PInv hm cs) {c d : PC} (hc : cs[p]? = some c) (hd : d.kind = 2) : PInv hm (cs.set p d) := by
  have hp := (List.getElem?_eq_some_iff.1 hc).1
  have hd0 : d.kind ≠ 0 := by omega
  have old : ∀ (q : Nat) (e : PC), (cs.set p d)[q]? = some e → e.kind = 1 → q ≠ p ∧ cs[q]? = some e := fun q e he hk => by
    by_cases hq : p = q
    · subst hq
      rw [List.getElem?_set_self hp] at he
      cases he
      omega
    · rw [get_set_ne hq] at he
      exact ⟨fun h => hq h.symm, he⟩
  refine ⟨by simpa using h.pow, fun e he => ?_, fun q r e f he hf hk hl hkey => ?_, fun q e he hk => ?_⟩
  · rcases List.mem_or_eq_of_mem_set he with he | rfl
    · exact h.kinds e he
    · exact .inr (.inr hd)
  · exact h.uniq q r e f (old q e he hk).2 (old r f hf hl).2 hk hl hkey
  · rw [List.length_set]
    exact reach_set hp hd0 (h.path q e (old q e he hk).2 hk)
/-- A used cell's place is written. -/
theorem PInv.again (h : PInv hm cs) {c : PC} (hc : cs[p]? = some c) (hk : c.kind = 1) (a : Int) : PInv hm (cs.set p ⟨c.key, a, 1⟩) := by
  have hp := (List.getElem?_eq_some_iff.1 hc).1
  have hd0 : (⟨c.key, a, 1⟩ : PC).kind ≠ 0 := by show (1 : Int) ≠ 0; omega
  have old : ∀ (q : Nat) (e : PC), (cs.set p ⟨c.key, a, 1⟩)[q]? = some e → e.kind = 1 → ∃ e' : PC, cs[q]? = some e' ∧ e'.kind = 1 ∧ e'.key = e.key := fun q e he hk2 => by
    by_cases hq : p = q
    · subst hq
      rw [List.getElem?_set_self hp] at he
      cases he
      exact ⟨c, hc, hk, rfl⟩
    · rw [get_set_ne hq] at he
      exact ⟨e, he, hk2, rfl⟩
  refine ⟨by simpa using h.pow, fun e he => ?_, fun q r e f he hf hk hl hkey => ?_, fun q e he hk => ?_⟩
  · rcases List.mem_or_eq_of_mem_set he with he | rfl
    · exact h.kinds e he
    · exact .inr (.inl rfl)
  · obtain ⟨e', h1, h2, h3⟩ := old q e he hk
    obtain ⟨f', g1, g2, g3⟩ := old r f hf hl
    exact h.uniq q r e' f' h1 g1 h2 g2 (by rw [h3, g3, hkey])
  · obtain ⟨e', h1, h2, h3⟩ := old q e he hk
    rw [List.length_set, ← h3]
    exact reach_set hp hd0 (h.path q e' h1 h2)
/-- A new name, where find told. -/
theorem PInv.put (h : PInv hm cs) {c : PC} (hc : cs[p]? = some c) (hk : c.kind ≠ 1) {x : Nm} (a : Int) (hno : ¬ IsIn cs x) (hr : Reach cs (hm cs.length x) p) : PInv hm (cs.set p ⟨x, a, 1⟩) := by
  have hp := (List.getElem?_eq_some_iff.1 hc).1
  have hd0 : (⟨x, a, 1⟩ : PC).kind ≠ 0 := by show (1 : Int) ≠ 0; omega
  have old : ∀ (q : Nat) (e : PC), (cs.set p ⟨x, a, 1⟩)[q]? = some e → e.kind = 1 → (q = p ∧ e.key = x) ∨ (q ≠ p ∧ cs[q]? = some e ∧ e.key ≠ x) := fun q e he hk2 => by
    by_cases hq : p = q
    · subst hq
      rw [List.getElem?_set_self hp] at he
      cases he
      exact .inl ⟨rfl, rfl⟩
    · rw [get_set_ne hq] at he
      exact .inr ⟨fun h => hq h.symm, he, fun hx => hno ⟨q, e, he, hk2, hx⟩⟩
  refine ⟨by simpa using h.pow, fun e he => ?_, fun q r e f he hf hk hl hkey => ?_, fun q e he hk => ?_⟩
  · rcases List.mem_or_eq_of_mem_set he with he | rfl
    · exact h.kinds e he
    · exact .inr (.inl rfl)
  · rcases old q e he hk with ⟨h1, h2⟩ | ⟨h1, h2, h3⟩
    · rcases old r f hf hl with ⟨g1, g2⟩ | ⟨g1, g2, g3⟩
      · rw [h1, g1]
      · exact absurd (by rw [← hkey, h2]) g3
    · rcases old r f hf hl with ⟨g1, g2⟩ | ⟨g1, g2, g3⟩
      · exact absurd (by rw [hkey, g2]) h3
      · exact h.uniq q r e f h2 g2 hk hl hkey
  · rw [List.length_set]
    rcases old q e he hk with ⟨h1, h2⟩ | ⟨h1, h2, h3⟩
    · rw [h1, h2]; exact reach_set hp hd0 hr
    · exact reach_set hp hd0 (h.path q e h2 hk)
theorem pinv_empty {n e : Nat} (hn : n = 2 ^ e) (h3 : 3 ≤ e) (h30 : e ≤ 30) : PInv hm (List.replicate n PC.zero) := by
  have z : ∀ (q : Nat) (c : PC), (List.replicate n PC.zero)[q]? = some c → c.kind = 1 → False := fun q c hc hk => by
    have := List.mem_of_getElem? hc
    rw [List.mem_replicate] at this
    rw [this.2] at hk
    exact absurd hk (by decide)
  refine ⟨⟨e, by rw [List.length_replicate, hn], h3, h30⟩, fun c hc => ?_, fun q r c d hc hd hk => (z q c hc hk).elim, fun q c hc hk => (z q c hc hk).elim⟩
  rw [List.mem_replicate] at hc
  rw [hc.2]
  exact .inl rfl
/-- A name, and its place. -/
def Has (cs : List PC) (x : Nm) (a : Int) : Prop := ∃ (p : Nat) (c : PC), cs[p]? = some c ∧ c.kind = 1 ∧ c.key = x ∧ c.at_ = a
theorem has_in {x : Nm} {a : Int} (h : Has cs x a) : IsIn cs x := by obtain ⟨p, c, h1, h2, h3, _⟩ := h; exact ⟨p, c, h1, h2, h3⟩
theorem has_one (h : PInv hm cs) {x : Nm} {a b : Int} (h1 : Has cs x a) (h2 : Has cs x b) : a = b := by
  obtain ⟨p, c, c1, c2, c3, rfl⟩ := h1
  obtain ⟨q, d, d1, d2, d3, rfl⟩ := h2
  have e := h.uniq p q c d c1 d1 c2 d2 (by rw [c3, d3])
  subst e
  rw [c1] at d1
  cases d1
  rfl
theorem has_put {c : PC} (hc : cs[p]? = some c) (hk : c.kind ≠ 1) {x : Nm} {a : Int} (hno : ¬ IsIn cs x) (y : Nm) (b : Int) : Has (cs.set p ⟨x, a, 1⟩) y b ↔ (Has cs y b) ∨ (y = x ∧ b = a) := by
  have hp := (List.getElem?_eq_some_iff.1 hc).1
  constructor
  · rintro ⟨q, d, hd, h1, h2, h3⟩
    by_cases hq : p = q
    · subst hq
      rw [List.getElem?_set_self hp] at hd
      cases hd
      exact .inr ⟨h2.symm, h3.symm⟩
    · rw [get_set_ne hq] at hd
      exact .inl ⟨q, d, hd, h1, h2, h3⟩
  · rintro (⟨q, d, hd, h1, h2, h3⟩ | ⟨rfl, rfl⟩)
    · refine ⟨q, d, ?_, h1, h2, h3⟩
      rw [get_set_ne (fun e => by subst e; rw [hc] at hd; cases hd; exact hk h1)]
      exact hd
    · exact ⟨p, _, List.getElem?_set_self hp, rfl, rfl, rfl⟩
theorem has_again (h : PInv hm cs) {c : PC} (hc : cs[p]? = some c) (hk : c.kind = 1) {a : Int} (y : Nm) (b : Int) : Has (cs.set p ⟨c.key, a, 1⟩) y b ↔ (Has cs y b ∧ y ≠ c.key) ∨ (y = c.key ∧ b = a) := by
  have hp := (List.getElem?_eq_some_iff.1 hc).1
  constructor
  · rintro ⟨q, d, hd, h1, h2, h3⟩
    by_cases hq : p = q
    · subst hq
      rw [List.getElem?_set_self hp] at hd
      cases hd
      exact .inr ⟨h2.symm, h3.symm⟩
    · rw [get_set_ne hq] at hd
      exact .inl ⟨⟨q, d, hd, h1, h2, h3⟩, fun e => hq (h.uniq p q c d hc hd hk h1 (by rw [h2, e]))⟩
  · rintro (⟨⟨q, d, hd, h1, h2, h3⟩, hne⟩ | ⟨rfl, rfl⟩)
    · refine ⟨q, d, ?_, h1, h2, h3⟩
      rw [get_set_ne (fun e => by subst e; rw [hc] at hd; cases hd; exact hne h2.symm)]
      exact hd
    · exact ⟨p, _, List.getElem?_set_self hp, rfl, rfl, rfl⟩
theorem has_drop (h : PInv hm cs) {c d : PC} (hc : cs[p]? = some c) (hk : c.kind = 1) (hd : d.kind = 2) (y : Nm) (b : Int) : Has (cs.set p d) y b ↔ Has cs y b ∧ y ≠ c.key := by
  have hp := (List.getElem?_eq_some_iff.1 hc).1
  constructor
  · rintro ⟨q, e, he, h1, h2, h3⟩
    by_cases hq : p = q
    · subst hq
      rw [List.getElem?_set_self hp] at he
      cases he
      omega
    · rw [get_set_ne hq] at he
      exact ⟨⟨q, e, he, h1, h2, h3⟩, fun ey => hq (h.uniq p q c e hc he hk h1 (by rw [h2, ey]))⟩
  · rintro ⟨⟨q, e, he, h1, h2, h3⟩, hne⟩
    refine ⟨q, e, ?_, h1, h2, h3⟩
    rw [get_set_ne (fun eq => by subst eq; rw [hc] at he; cases he; exact hne h2.symm)]
    exact he
end
end Go.Proofs.YtjchjpmgbmeohaaDoor
