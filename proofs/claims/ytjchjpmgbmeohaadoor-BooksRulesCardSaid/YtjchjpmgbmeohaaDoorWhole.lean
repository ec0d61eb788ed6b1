/- Whole structs stored: the world behind is a variable. No program in sight. -/
import Derived.Test.YtjchjpmgbmeohaaDoorBase
import Derived.Deep.MidRow
set_option linter.unusedSimpArgs false
set_option linter.unusedVariables false
namespace Go.Proofs.YtjchjpmgbmeohaaDoor
open Go.RowKit

theorem setCells_fr (b : Nat) : ∀ (vs : List Value) (o : Nat) (w : World), Fr (fun k => k = b) w (w.setCells b o vs)
  | [], _, w => Fr.refl _ w
  | v :: vs, o, w => ((Fr.refl (fun k => k = b) w).setCell (p := ⟨b, o, none⟩) (.inl rfl) v).then_ (setCells_fr b vs (o + 1) _) (fun _ h => .inl h)
theorem setCells_blk (g : Nat) : ∀ (vs : List Value) (W : World) (j : Nat) (c : Array Value) (t : TypeId) (f : Nat × Nat), W.heap[g]? = some (.cells c t f) → j + vs.length ≤ c.size →
    (W.setCells g j vs).heap[g]? = some (.cells (c.toList.take j ++ vs ++ c.toList.drop (j + vs.length)).toArray t f)
  | [], W, j, c, t, f, h, hl => by
    rw [World.setCells, h]
    simp
  | v :: vs, W, j, c, t, f, h, hl => by
    rw [World.setCells, setCells_blk g vs _ (j + 1) (c.setIfInBounds j v) t f (blk_set h j v) (by simp at hl ⊢; omega)]
    congr 3
    rw [Array.toList_setIfInBounds, List.take_add_one, List.take_set_of_le (Nat.le_refl _), List.getElem?_set_self (by simp at hl ⊢; omega), List.drop_set_of_lt (by omega)]
    simp [Nat.add_assoc, Nat.add_comm 1]
section
variable {P : Program}
theorem there_blk {w : World} {g o n : Nat} {c : Array Value} {t : TypeId} (h : w.heap[g]? = some (.cells c t (0, 0))) (hn : o + n ≤ c.size) : w.there g o n := fun j hj => by
  have hl : o + j < c.size := by omega
  refine ⟨?_, blk_free h _⟩
  rw [blk_cell h (o + j) (Array.getElem?_eq_getElem hl)]
  rfl
/-- A struct stored into the middle of a block. -/
theorem wpList_store_part {ops : Array Oper} {rest : List Oper} {op : Oper} {a : Act} {w : World} {Q : Exit → Act → World → Prop} (hgd : op.guard = none) (ty : TypeId) (x y : Operand) (ho : op.op = .store ty x y)
    (g o : Nat) (cells : Array Value) (hx : a.eval x = .pointer (some ⟨g, o, none⟩)) (hy : a.eval y = .agg cells) {c : Array Value} {t : TypeId} (hb : w.heap[g]? = some (.cells c t (0, 0))) (hs : o + cells.size ≤ c.size)
    (hi : (P.info? ty).map (·.size) = some cells.size) (h1 : cells.all (·.oneCell') = true)
    (h : ∀ w2, w2.heap[g]? = some (.cells (c.toList.take o ++ cells.toList ++ c.toList.drop (o + cells.size)).toArray t (0, 0)) → Fr (fun k => k = g) w w2 → wpList P ops Q rest (a.put op.dst undef) w2) : wpList P ops Q (op :: rest) a w :=
  wpList_store_mid hgd ty x y ho g o cells hx hy (there_blk hb hs) hi h1 (h _ (by have h2 := setCells_blk g cells.toList w o c t (0, 0) hb (by simpa using hs); simpa using h2) (setCells_fr g _ _ _))
/-- A whole struct stored. -/
theorem wpList_store_row {ops : Array Oper} {rest : List Oper} {op : Oper} {a : Act} {w : World} {Q : Exit → Act → World → Prop} (hgd : op.guard = none) (ty : TypeId) (x y : Operand) (ho : op.op = .store ty x y)
    (g : Nat) (cells : Array Value) (hx : a.eval x = .pointer (some ⟨g, 0, none⟩)) (hy : a.eval y = .agg cells) {c : Array Value} {t : TypeId} (hb : w.heap[g]? = some (.cells c t (0, 0))) (hs : cells.size = c.size)
    (hi : (P.info? ty).map (·.size) = some cells.size) (h1 : cells.all (·.oneCell') = true)
    (h : ∀ w2, w2.heap[g]? = some (.cells cells t (0, 0)) → Fr (fun k => k = g) w w2 → wpList P ops Q rest (a.put op.dst undef) w2) : wpList P ops Q (op :: rest) a w :=
  wpList_store_part hgd ty x y ho g 0 cells hx hy hb (by omega) hi h1 (fun w2 hb2 hf => h w2 (by
    have e : c.toList.drop (0 + cells.size) = [] := List.drop_eq_nil_of_le (by simp; omega)
    rw [e] at hb2
    simpa using hb2) hf)
/-- Two results, of which the first one is a struct's block. -/
theorem results_cell2 {fn : Func} {p q : Tmp} {ty : TypeId} (h : fn.results = #[.cell p ty, .tmp q]) (tmps : Array Value) (w : World) (g : Nat) (t : TypeId) (cs : Array Value) (fr : Nat × Nat) (d : TypeDesc)
    (hp : tmps.getD p undef = .pointer (some ⟨g, 0, none⟩)) (hg : w.heap[g]? = some (.cells cs t fr))
    (hu : P.underlying ty = some d) (hd : (match d with | .struct _ | .array _ _ => true | _ => false) = true) (hi : (P.info? ty).map (·.size) = some cs.size) :
    (results fn tmps).run P w = .ok (.tuple #[.agg cs, tmps.getD q undef]) w := by
  have hp' : tmps[p]?.getD undef = .pointer (some ⟨g, 0, none⟩) := by simpa using hp
  simp [results, h, hp', asAddr, run_loadVar_row w g t ty cs fr d hg hu hd hi]
end
end Go.Proofs.YtjchjpmgbmeohaaDoor
