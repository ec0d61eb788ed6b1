/- Law 11: names as a map's keys; what the table and the law's map hold. -/
import Derived.Test.YthkmdhkifkapkaaPrP
import Derived.DeepKeys4
import Derived.Maps.RangeWalk
import Derived.Maps.OwnSet
import Derived.Maps.Views
set_option linter.unusedSimpArgs false
set_option linter.unusedVariables false
namespace Go.Proofs.Ythkmdhkifkapkaa
open Go.RowKit

theorem Try.laidNm : laidOutB Try.prog = true := by kernel_rfl
theorem Try.rowNm : (25 : TypeId) < Try.prog.types.size := of_decide_eq_true (by kernel_rfl)
theorem Try.wideNm : (match Try.prog.underlying 25 with | some (.array _ _) | some (.struct _) => true | _ => false) = true := by rw [Try.underlying25]
theorem Try.lawNm : Go.Maps.Keyed Try.prog 25 := Go.Maps.Keyed.of_law (deep_law_laid Try.laidNm (m := 3) (by omega) Try.rowNm (by kernel_rfl) Try.wideNm)
theorem Try.keyTNm : Try.prog.keyType 25 = true := by kernel_rfl
theorem Try.cells2Nm : Try.prog.cellsOf 25 = 2 := by kernel_rfl
theorem Try.cells1Nm : Try.prog.cellsOf 23 = 1 := by kernel_rfl
def Nm.val (x : Nm) : Value := .agg #[.int .u64 x.hi, .int .u64 x.lo]
def Nm.lit (x : Nm) : Lit := .string (keyBytes [.int .u64 x.hi, .int .u64 x.lo])
def Nm.wf (x : Nm) : Prop := (Lit.int .u64 x.hi).wf = true ∧ (Lit.int .u64 x.lo).wf = true
theorem Try.lits1 (d : Nat) (v : Value) : Try.prog.keyLits (d + 1) 23 [v] = match v with
    | .int q n => if q = .u64 ∧ (Lit.int .u64 n).wf = true then some [.int .u64 n] else none
    | _ => none := by
  simp only [Program.keyLits, Try.underlying23]
  cases v <;> rfl
theorem Try.lits2 (d : Nat) (u v : Value) : Try.prog.keyLits (d + 2) 25 [u, v] = (do
    let a ← Try.prog.keyLits (d + 1) 23 [u]
    let b ← Try.prog.keyLits (d + 1) 23 [v]
    pure (a ++ b)) := by
  conv => lhs; unfold Program.keyLits
  simp only [Try.underlying25, Try.cells2Nm, Try.cells1Nm]
  cases h1 : Try.prog.keyLits (d + 1) 23 [u] <;> cases h2 : Try.prog.keyLits (d + 1) 23 [v] <;> simp [h1, h2, Try.cells1Nm]
theorem Try.sizeNm : ∃ d, Try.prog.types.size + 1 = d + 2 := by
  have h : 0 < Try.prog.types.size := Nat.lt_of_le_of_lt (Nat.zero_le _) Try.rowNm
  exact ⟨Try.prog.types.size - 1, by omega⟩
theorem key_Nm {x : Nm} (h : x.wf) : keyOf Try.prog 25 x.val = some x.lit := by
  obtain ⟨d, hd⟩ := Try.sizeNm
  have hf : x.val.formed Try.prog 25 = true := by
    simp only [Nm.val, Value.formed, Try.underlying25, Try.cells2Nm]
    rfl
  unfold keyOf
  rw [Try.underlying25]
  simp only [Try.keyTNm, hf, Bool.and_self, if_true]
  rw [hd]
  have hl := Try.lits2 d (.int .u64 x.hi) (.int .u64 x.lo)
  rw [Try.lits1, Try.lits1] at hl
  simp only [h.1, h.2, and_self, if_true] at hl
  show (Try.prog.keyLits (d + 2) 25 [.int .u64 x.hi, .int .u64 x.lo]).map _ = _
  rw [hl]
  rfl
theorem key_inv {v : Value} {l : Lit} (h : keyOf Try.prog 25 v = some l) : ∃ x : Nm, v = x.val ∧ x.wf ∧ l = x.lit := by
  obtain ⟨d, hd⟩ := Try.sizeNm
  unfold keyOf at h
  rw [Try.underlying25] at h
  simp only [Try.keyTNm, Bool.true_and] at h
  split at h
  · rename_i hf
    cases v with
    | agg cs =>
      simp only [Value.formed, Try.underlying25, Try.cells2Nm, beq_iff_eq] at hf
      obtain ⟨cs⟩ := cs
      match cs, hf with
      | [u, w], hsz =>
        clear hsz
        have h0 : (Try.prog.keyLits (Try.prog.types.size + 1) 25 [u, w]).map (fun ls => Lit.string (keyBytes ls)) = some l := h
        rw [hd, Try.lits2, Try.lits1, Try.lits1] at h0
        cases u <;> cases w <;> simp at h0
        rename_i q n q' n'
        by_cases e1 : q = .u64 ∧ (Lit.int .u64 n).wf = true
        · by_cases e2 : q' = .u64 ∧ (Lit.int .u64 n').wf = true
          · obtain ⟨rfl, w1⟩ := e1
            obtain ⟨rfl, w2⟩ := e2
            simp [w1, w2] at h0
            exact ⟨⟨n, n'⟩, rfl, ⟨w1, w2⟩, h0.symm⟩
          · rw [if_pos e1, if_neg e2] at h0
            simp at h0
        · simp [e1] at h0
    | _ => simp [Value.formed, Try.underlying25] at hf
  · cases h
theorem lit_inj {x y : Nm} (hx : x.wf) (hy : y.wf) (h : x.lit = y.lit) : x = y := by
  have h1 := key_Nm hx
  rw [h] at h1
  have h2 := Try.lawNm.inj h1 (key_Nm hy)
  cases x; cases y
  simp only [Nm.val, Value.agg.injEq, Array.mk.injEq, List.cons.injEq, Value.int.injEq, true_and, and_true] at h2
  rw [h2.1, h2.2]
theorem lit_key (x : Nm) : WideAt.IsKeyLit x.lit := trivial
theorem lit_same {x y : Nm} (hx : x.wf) (hy : y.wf) : x.lit.sameKey y.lit = true ↔ x = y :=
  ⟨fun h => lit_inj hx hy (WideAt.sameKey_eq h), fun h => by rw [h]; exact WideAt.sameKey_self (lit_key y)⟩
theorem Try.zeroInt (w : World) : (zeroValue 3).run Try.prog w = .ok (.int .i64 0) w := by kernel_rfl

abbrev Du := DataW Unit
abbrev intL (a : Int) : Du := .lit (.int .i64 a)
/-- The table and the law's map hold the same. -/
structure Agr (ps : List PC) (D : Du) : Prop where
  tidy : Go.Maps.Tidy D
  has : ∀ (x : Nm) (a : Int), x.wf → (Has ps x a ↔ Go.Maps.has D x.lit = true ∧ ∀ z, D.atKey x.lit z = intL a)
  isin : ∀ x : Nm, IsIn ps x ↔ x.wf ∧ Go.Maps.has D x.lit = true
  num : cnt 1 ps = Go.Maps.size D
theorem agr_nil : Agr empty8 (.map []) :=
  ⟨Go.Maps.tidy_empty, fun x a _ => ⟨fun h => (empty8_has x a h).elim, fun h => by simp [Go.Maps.has_eq] at h⟩, fun x => ⟨fun h => (empty8_in x h).elim, fun h => by simp [Go.Maps.has_eq] at h⟩, empty8_cnt 1 (by decide)⟩
theorem Agr.put {ps ps' : List PC} {D : Du} {x : Nm} {a : Int} {b : Bool} (h : Agr ps D) (hx : x.wf) (hb : b = true ↔ ¬ IsIn ps x) (hh : ∀ y c, Has ps' y c ↔ (Has ps y c ∧ y ≠ x) ∨ (y = x ∧ c = a)) (hc : cnt 1 ps' = cnt 1 ps + (if b = true then 1 else 0)) : Agr ps' (D.put x.lit (intL a)) := by
  have hm := h.tidy.isMap
  have ne : ∀ y : Nm, y.wf → y ≠ x → y.lit ≠ x.lit := fun y hy hn e => hn (lit_inj hy hx e)
  refine ⟨h.tidy.put (lit_key x) _, fun y c hy => ?_, fun y => ?_, ?_⟩
  · rw [hh]
    by_cases e : y = x
    · subst e
      rw [Go.Maps.has_put_same hm (lit_key y)]
      constructor
      · rintro (⟨_, h2⟩ | ⟨_, rfl⟩)
        · exact (h2 rfl).elim
        · exact ⟨rfl, fun z => Go.Maps.atKey_put_same hm (lit_key y) _ z⟩
      · rintro ⟨_, h2⟩
        have h3 := h2 (intL 0)
        rw [Go.Maps.atKey_put_same hm (lit_key y)] at h3
        simp only [intL, DataW.lit.injEq, Lit.int.injEq, true_and] at h3
        exact .inr ⟨rfl, h3.symm⟩
    · rw [Go.Maps.has_put_other (ne y hy e)]
      have h4 : (∀ z, (D.put x.lit (intL a)).atKey y.lit z = intL c) ↔ ∀ z, D.atKey y.lit z = intL c := by
        constructor <;> intro h5 z
        · rw [← Go.Maps.atKey_put_other (D := D) (ne y hy e) (intL a)]; exact h5 z
        · rw [Go.Maps.atKey_put_other (ne y hy e)]; exact h5 z
      rw [h4, ← h.has y c hy]
      exact ⟨fun h5 => h5.elim (·.1) (fun h6 => (e h6.1).elim), fun h5 => .inl ⟨h5, e⟩⟩
  · have hi : IsIn ps' y ↔ IsIn ps y ∨ y = x := by
      rw [isin_iff, isin_iff]
      constructor
      · rintro ⟨c, h2⟩
        rcases (hh y c).1 h2 with ⟨h3, _⟩ | ⟨h3, _⟩
        · exact .inl ⟨c, h3⟩
        · exact .inr h3
      · by_cases e : y = x
        · intro _; exact ⟨a, (hh y a).2 (.inr ⟨e, rfl⟩)⟩
        · rintro (⟨c, h3⟩ | h3)
          · exact ⟨c, (hh y c).2 (.inl ⟨h3, e⟩)⟩
          · exact (e h3).elim
    rw [hi, h.isin]
    by_cases e : y = x
    · subst e
      rw [Go.Maps.has_put_same hm (lit_key y)]
      exact ⟨fun _ => ⟨hx, rfl⟩, fun _ => .inr rfl⟩
    · constructor
      · rintro (⟨h2, h3⟩ | h2)
        · exact ⟨h2, by rw [Go.Maps.has_put_other (ne y h2 e)]; exact h3⟩
        · exact (e h2).elim
      · rintro ⟨h2, h3⟩
        rw [Go.Maps.has_put_other (ne y h2 e)] at h3
        exact .inl ⟨h2, h3⟩
  · rw [hc, h.num, Go.Maps.size_put h.tidy]
    by_cases e : Go.Maps.has D x.lit = true
    · have hbf : b = false := by cases b with
        | false => rfl
        | true => exact (hb.1 rfl ((h.isin x).2 ⟨hx, e⟩)).elim
      rw [if_pos e, hbf]
      rfl
    · have hbt : b = true := hb.2 (fun h2 => e ((h.isin x).1 h2).2)
      rw [if_neg e, hbt]
      rfl
/-- What is left of the table while all is dropped. -/
def Rest (ps : List PC) (left : Lit → Bool) : Prop := ∀ x : Nm, IsIn ps x ↔ x.wf ∧ left x.lit = true
theorem rest_drop {ps ps' : List PC} {left : Lit → Bool} {x : Nm} (h : Rest ps left) (hx : x.wf) (hh : ∀ y a, Has ps' y a ↔ Has ps y a ∧ y ≠ x) : Rest ps' (fun z => left z && !z.sameKey x.lit) := by
  intro y
  have hi : IsIn ps' y ↔ IsIn ps y ∧ y ≠ x := by
    rw [isin_iff, isin_iff]
    exact ⟨fun ⟨c, h2⟩ => ⟨⟨c, ((hh y c).1 h2).1⟩, ((hh y c).1 h2).2⟩, fun ⟨⟨c, h2⟩, h3⟩ => ⟨c, (hh y c).2 ⟨h2, h3⟩⟩⟩
  rw [hi, h y]
  constructor
  · rintro ⟨⟨h1, h2⟩, h3⟩
    refine ⟨h1, ?_⟩
    show (left y.lit && !y.lit.sameKey x.lit) = true
    have h4 : y.lit.sameKey x.lit = false := by
      rw [Bool.eq_false_iff]
      exact fun h5 => h3 ((lit_same h1 hx).1 h5)
    rw [h2, h4]
    rfl
  · rintro ⟨h1, h2⟩
    simp only [Bool.and_eq_true, Bool.not_eq_true'] at h2
    refine ⟨⟨h1, h2.1⟩, fun e => ?_⟩
    have h3 := (lit_same h1 hx).2 e
    rw [h3] at h2
    exact absurd h2.2 (by decide)
theorem rest_end {ps : List PC} {left : Lit → Bool} (h : Rest ps left) (hl : ∀ z, left z = false) : cnt 1 ps = 0 := by
  apply Decidable.byContradiction
  intro hc
  obtain ⟨p, c, hp, hk⟩ := cnt_pos (cs := ps) (k := 1) (by omega)
  have h2 := (h c.key).1 ⟨p, c, hp, hk, rfl⟩
  rw [hl] at h2
  exact absurd h2.2 (by decide)

/-! Maps that stay while others turn. -/
theorem map_fr {H : Type} {P : Program} {k : TypeId} {R : Value → Option (DataW H × List MemPlace)} {w w' : World} {S : Nat → Prop} {b n : Nat} {D : DataW H} (h : w.ownsMap P k R b n D) (hf : Fr S w w') (hb : ¬ S b) : w'.ownsMap P k R b n D := by
  have h1 := h.lt
  obtain ⟨es, clock, hh, r⟩ := h
  exact ⟨es, clock, (hf.block b h1 hb).trans hh, r⟩
theorem ranges_fr {H : Type} {P : Program} {k : TypeId} {R : Value → Option (DataW H × List MemPlace)} {w w' : World} {S : Nat → Prop} {b r n : Nat} {D : DataW H} {left : Lit → Bool} {c : Nat} (h : w.ranges P k R b r n D left c) (hf : Fr S w w') (hb : ¬ S b) (hr : ¬ S r) : w'.ranges P k R b r n D left c := by
  have h1 := h.owns.lt
  have h2 := h.lt
  obtain ⟨es, clock, since, seen, c0, hh, F, hs, hD, hi, rest⟩ := h
  exact ⟨es, clock, since, seen, c0, (hf.block b h1 hb).trans hh, F, hs, hD, (hf.block r h2 hr).trans hi, rest⟩
end Go.Proofs.Ythkmdhkifkapkaa
