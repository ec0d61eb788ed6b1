/- Package probe: a cell stored; Get; Drop. -/
import Derived.Test.YtjchjpmgbmeohaaDoorPrD
import Derived.Deep.MidRow
import Derived.Test.YtjchjpmgbmeohaaDoorWhole
import Derived.StillTailTactics
set_option linter.unusedSimpArgs false
set_option linter.unusedVariables false
namespace Go.Proofs.YtjchjpmgbmeohaaDoor
open Go.RowKit

def setL (vs : List Value) : Nat → List Value → List Value
  | _, [] => vs
  | o, u :: us => setL (vs.set o u) (o + 1) us
theorem setL_get : ∀ (us : List Value) (vs : List Value) (o j : Nat), (setL vs o us)[j]? = if j < o then vs[j]? else if j < o + us.length ∧ j < vs.length then us[j - o]? else vs[j]?
  | [], vs, o, j => by simp [setL]; intro _ _; omega
  | u :: us, vs, o, j => by
    rw [setL, setL_get us (vs.set o u) (o + 1) j, List.length_set]
    by_cases h1 : j < o
    · rw [if_pos (by omega), if_pos h1, List.getElem?_set_ne (by omega)]
    · rw [if_neg h1]
      by_cases h2 : j = o
      · subst h2
        rw [if_pos (by omega)]
        by_cases h3 : j < vs.length
        · rw [if_pos ⟨by simp, h3⟩, List.getElem?_set_self h3]; simp
        · rw [if_neg (fun h => h3 h.2), List.getElem?_eq_none (by simpa using h3), List.getElem?_eq_none (by simpa using h3)]
      · rw [if_neg (by omega), List.getElem?_set_ne (by omega)]
        by_cases h3 : j < o + (u :: us).length ∧ j < vs.length
        · rw [if_pos ⟨by simp at h3; omega, h3.2⟩, if_pos h3, show j - o = (j - (o + 1)) + 1 by omega, List.getElem?_cons_succ]
        · rw [if_neg (fun h => h3 ⟨by simp; omega, h.2⟩), if_neg h3]
theorem setL_len : ∀ (us : List Value) (vs : List Value) (o : Nat), (setL vs o us).length = vs.length
  | [], _, _ => rfl
  | u :: us, vs, o => by rw [setL, setL_len us, List.length_set]
theorem own_setCells {w : World} {et : TypeId} {sz n g cap : Nat} {vs : List Value} : ∀ (us : List Value) (o : Nat) (w : World) (vs : List Value), w.ownsRow 0 et sz (.slice (some ⟨g, 0, none⟩) n cap) n vs → (w.setCells g o us).ownsRow 0 et sz (.slice (some ⟨g, 0, none⟩) n cap) n (setL vs o us)
  | [], _, _, _, h => h
  | u :: us, o, w, vs, h => own_setCells (w := w) (vs := vs) us (o + 1) _ _ (h.stored o u).1
theorem setCells_size (b : Nat) : ∀ (vs : List Value) (o : Nat) (w : World), (w.setCells b o vs).heap.size = w.heap.size
  | [], _, _ => rfl
  | v :: vs, o, w => by rw [World.setCells, setCells_size b vs]; simp [World.setCell]
theorem pcs_set {cs : List PC} {p : Nat} (hp : p < cs.length) (d : PC) : setL (pcs cs) (p * 4) d.cells = pcs (cs.set p d) := by
  apply List.ext_getElem?
  intro j
  have hdl : d.cells.length = 4 := rfl
  rw [setL_get, hdl, pcs_len]
  by_cases hj : j < cs.length * 4
  · have hq : j / 4 < cs.length := by omega
    have hr : j % 4 < 4 := Nat.mod_lt _ (by decide)
    have ej : j = (j / 4) * 4 + j % 4 := by omega
    have e1 : (pcs (cs.set p d))[j]? = (PC.cells ((cs.set p d)[j / 4]'(by simpa using hq)))[j % 4]? := by
      have := pcs_get (cs.set p d) (i := j / 4) (by simpa using hq) (j % 4) hr
      rw [← ej] at this
      exact this
    have e2 : (pcs cs)[j]? = (PC.cells cs[j / 4])[j % 4]? := by
      have := pcs_get cs hq (j % 4) hr
      rw [← ej] at this
      exact this
    rw [e1, List.getElem_set]
    by_cases h1 : j < p * 4
    · rw [if_pos h1, if_neg (by omega), e2]
    · rw [if_neg h1]
      by_cases h2 : j < p * 4 + 4
      · rw [if_pos ⟨h2, hj⟩, if_pos (by omega), show j - p * 4 = j % 4 by omega]
      · rw [if_neg (fun h => h2 h.1), if_neg (by omega), e2]
  · have hl : (pcs (cs.set p d)).length = cs.length * 4 := by rw [pcs_len, List.length_set]
    rw [List.getElem?_eq_none (l := pcs (cs.set p d)) (by omega)]
    split
    · rw [List.getElem?_eq_none (by rw [pcs_len]; omega)]
    · rw [if_neg (fun h => hj h.2), List.getElem?_eq_none (by rw [pcs_len]; omega)]
/-- A cell of a table is stored whole: the world behind. -/
theorem isP_store {w : World} {S : Nat → Prop} {T g cap p : Nat} {cs : List PC} {u l : Int} (hb : w.heap[T]? = some (.cells #[.slice (some ⟨g, 0, none⟩) cs.length cap, .int .i64 u, .int .i64 l] 135 (0, 0))) (h : IsP w S T cs u l) (hp : p < cs.length) (d : PC) :
    w.there g (p * 4) 4 ∧ IsP (w.setCells g (p * 4) d.cells) S T (cs.set p d) u l ∧ (w.setCells g (p * 4) d.cells).heap[T]? = some (.cells #[.slice (some ⟨g, 0, none⟩) cs.length cap, .int .i64 u, .int .i64 l] 135 (0, 0)) ∧ Fr S w (w.setCells g (p * 4) d.cells) := by
  obtain ⟨v, hb2, ho, hS, hSv, hl⟩ := h
  rw [hb] at hb2
  simp only [Option.some.injEq, Obj.cells.injEq, and_true] at hb2
  have hv : v = .slice (some ⟨g, 0, none⟩) cs.length cap := by
    have h0 := congrArg (fun a : Array Value => a[0]?) hb2
    simpa using h0.symm
  subst hv
  have hg := hSv g rfl
  have hfr := setCells_fr g d.cells (p * 4) w
  have hbT := hfr.blk hb (fun h => hg.2 h.symm)
  refine ⟨fun j hj => ⟨?_, ho.frozenAt _⟩, ⟨_, hbT, ?_, hS, hSv, fun k hk => ?_⟩, hbT, hfr.mono (fun k hk => by rw [hk]; exact hg.1)⟩
  · have := ho.cellAt (p * 4 + j) (by omega)
    rw [this, List.getElem?_eq_getElem (by rw [pcs_len]; omega)]
    rfl
  · have h := own_setCells (w := w) (vs := pcs cs) d.cells (p * 4) w (pcs cs) ho
    rw [pcs_set hp] at h
    rw [List.length_set]
    exact h
  · rw [setCells_size]; exact hl k hk
/-- .. as a step of a walk. -/
theorem wpList_store_pc {P : Program} {ops : Array Oper} {rest : List Oper} {op : Oper} {a : Act} {w : World} {Q : Exit → Act → World → Prop} (hgd : op.guard = none) (x y : Operand) (ho : op.op = .store 141 x y)
    {S : Nat → Prop} {T g cap p : Nat} {cs : List PC} {u l : Int} (d : PC) (hx : a.eval x = .pointer (some ⟨g, p * 4, none⟩)) (hy : a.eval y = .agg d.cells.toArray)
    (hb : w.heap[T]? = some (.cells #[.slice (some ⟨g, 0, none⟩) cs.length cap, .int .i64 u, .int .i64 l] 135 (0, 0))) (h : IsP w S T cs u l) (hp : p < cs.length) (hi : (P.info? 141).map (·.size) = some 4)
    (k : ∀ w2, w2.heap[T]? = some (.cells #[.slice (some ⟨g, 0, none⟩) cs.length cap, .int .i64 u, .int .i64 l] 135 (0, 0)) → IsP w2 S T (cs.set p d) u l → Fr S w w2 → wpList P ops Q rest (a.put op.dst undef) w2) : wpList P ops Q (op :: rest) a w := by
  obtain ⟨h1, h2, h3, h4⟩ := isP_store hb h hp d
  exact wpList_store_mid hgd 141 x y ho g (p * 4) d.cells.toArray hx hy h1 hi (by simp [PC.cells, Value.oneCell']) (k _ h3 h2 h4)
/-- A count is stored. -/
theorem IsP.set1 {w : World} {S : Nat → Prop} {T : Nat} {cs : List PC} {u l : Int} (h : IsP w S T cs u l) (u' : Int) :
    IsP (w.setCell ⟨T, 1, none⟩ (.int .i64 u')) S T cs u' l ∧ Fr S w (w.setCell ⟨T, 1, none⟩ (.int .i64 u')) := by
  obtain ⟨v, hb, ho, hS, hSv, hl⟩ := h
  have hf := (Fr.refl (fun k => k = T) w).setCell (p := ⟨T, 1, none⟩) (.inl rfl) (.int .i64 u')
  have hb2 := blk_set hb 1 (.int .i64 u')
  exact ⟨⟨v, by simpa using hb2, own_fr ho hf (fun k hk => (hSv k hk).2), hS, hSv, fun k hk => by have := hl k hk; simpa [World.setCell] using this⟩, hf.mono (fun k hk => by rw [hk]; exact hS)⟩
theorem IsP.set2 {w : World} {S : Nat → Prop} {T : Nat} {cs : List PC} {u l : Int} (h : IsP w S T cs u l) (l' : Int) :
    IsP (w.setCell ⟨T, 2, none⟩ (.int .i64 l')) S T cs u l' ∧ Fr S w (w.setCell ⟨T, 2, none⟩ (.int .i64 l')) := by
  obtain ⟨v, hb, ho, hS, hSv, hl⟩ := h
  have hf := (Fr.refl (fun k => k = T) w).setCell (p := ⟨T, 2, none⟩) (.inl rfl) (.int .i64 l')
  have hb2 := blk_set hb 2 (.int .i64 l')
  exact ⟨⟨v, by simpa using hb2, own_fr ho hf (fun k hk => (hSv k hk).2), hS, hSv, fun k hk => by have := hl k hk; simpa [World.setCell] using this⟩, hf.mono (fun k hk => by rw [hk]; exact hS)⟩
end Go.Proofs.YtjchjpmgbmeohaaDoor
