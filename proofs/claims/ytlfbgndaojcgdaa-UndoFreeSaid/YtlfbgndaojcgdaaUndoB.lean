/- Package undo: Of, All, Back. -/
import Derived.Test.YtlfbgndaojcgdaaUndoS
import Derived.Test.YtlfbgndaojcgdaaBaseS
import Derived.Deep.LoopGhost
namespace Go.Proofs.Ytlfbgndaojcgdaa
open Go.RowKit

theorem of_any (w : World) (lg : Option Nat) :
    Calls Try.prog 10 #[.pointer (lg.map fun g => ⟨g, 0, none⟩)] w fun e w' => e = .returned (.pointer (some ⟨w.heap.size, 0, none⟩)) ∧ IsL w' (fun k => k = w.heap.size) w.heap.size lg [] ∧ Fr (fun _ => False) w w' := by
  go_enter Try.func10, Try.ntmps10
  go_wp2
  go_ret
  refine ⟨rfl, ⟨.slice none 0 0, heap_alloc_new w _, World.ownsRow_nil _ _ _ _, rfl, fun k hk => by simp [Value.ownBlock] at hk, fun k hk => ?_⟩, (Fr.refl _ w).alloc _⟩
  obtain rfl : k = w.heap.size := hk
  simp

/-- A row that is owned, as what is appended. -/
theorem src_own {P : Program} {w : World} {et tx e' : TypeId} {sz n : Nat} {v : Value} {vs : List Value} (hk : P.underlying tx = some (.slice e')) (h : w.ownsRow 0 et sz v n vs) (h1 : ∀ u ∈ vs, u.oneCell' = true) : Src P sz tx v n vs w := by
  rcases h.2 with ⟨rfl, rfl⟩ | ⟨g, cap, cur, rfl, r⟩
  · obtain rfl : vs = [] := List.eq_nil_of_length_eq_zero (by simpa using h.1)
    exact Src.ofNil w hk 0
  · exact Src.ofSlice w hk _ _ _ _ h.1 (h.cells rfl) h1
theorem ints_one (xs : List Int) : ∀ u ∈ ints xs, u.oneCell' = true := by
  intro u hu
  obtain ⟨x, _, rfl⟩ := List.mem_map.1 hu
  rfl
/-- A slice of numbers of its own. -/
def Own (w : World) (S : Nat → Prop) (v : Value) (xs : List Int) : Prop := w.ownsRow 0 3 1 v xs.length (ints xs) ∧ ∀ k, v.ownBlock = some k → S k
theorem Own.fr {w w' : World} {S S2 : Nat → Prop} {v : Value} {xs : List Int} (h : Own w S v xs) (hf : Fr S2 w w') (hn : ∀ k, S k → ¬ S2 k) : Own w' S v xs := ⟨own_fr h.1 hf (fun k hk => hn k (h.2 k hk)), h.2⟩
theorem all_any (w : World) (S : Nat → Prop) (L : Nat) (lg : Option Nat) (xs : List Int) (h : IsL w S L lg xs) (hn : xs.length ≤ 1000000) :
    Calls Try.prog 13 #[.pointer (some ⟨L, 0, none⟩)] w fun e w' => ∃ v, e = .returned v ∧ Own w' (Gro (fun _ => False) w w') v xs ∧ Fr (fun _ => False) w w' := by
  obtain ⟨i0, hi, hz0, hz1, hz2⟩ := info_parts Try.infoInt
  obtain ⟨v, hb, ho, -, -, -⟩ := h
  have c0 := blk_cell hb 0 rfl
  have HS := Lib.hid (src_own (P := Try.prog) (tx := 34) Try.underlying34 ho (ints_one xs))
  clear hb ho
  go_enter Try.func13, Try.ntmps13
  go_wp2_with (at_builtin; go_must (refine wpList_append_src w rfl (.const (.slice none 0 0)) (.tmp 8) 34 34 rfl 3 i0 (.int .i64 0) 1 8 Try.underlying34 hi hz0 hz1 hz2 rfl (by decide) (.slice none 0 0) 0 [] rfl (World.ownsRow_nil _ _ _ _) v xs.length _ rfl HS.out (by omega) (by omega) ?_; intro g2 cap2 w2 hown2 hf2 hat2; have HO := Lib.hid hown2; have HF := Lib.hid hf2; have HT := Lib.hid hat2; clear hown2 hf2 hat2))
  go_ret
  have hf : Fr (fun _ => False) w w2 := HF.out.mono (fun k hk => by simp [Value.ownBlock] at hk)
  refine ⟨_, rfl, ⟨by have h := HO.out; simpa using h, fun k hk => ?_⟩, hf⟩
  rcases HT.out k (by simpa using hk) with h | h
  · simp [Value.ownBlock] at h
  · exact .inr ⟨h, own_lt (by have h := HO.out; simpa using h : w2.ownsRow 0 3 1 _ xs.length (ints xs)) hk⟩
/-- Without a list. -/

theorem undo_le (e : Ent) (xs : List Int) : (e.undo xs).length ≤ xs.length := by
  cases e with
  | cut bl bn n => simp only [Ent.undo, List.length_take]; omega
  | put bo bl bi i old => simp [Ent.undo]
/-- One change is taken back. -/
theorem undo_any (w : World) (S G : Nat → Prop) (L g : Nat) (xs : List Int) (es : List Ent) (e : Ent) (h : St w S G L g xs (e :: es)) (hx : xs.length ≤ 1000000) :
    ∃ f cs, e.val = .func (.func f) #[] cs ∧ Calls Try.prog f cs w fun r w' => r = .returned (.tuple #[]) ∧ IsL w' S L (some g) (e.undo xs) ∧ Fr S w w' := by
  have he := (h.ents e (List.mem_cons_self ..)).1
  cases e with
  | cut bl bn n => exact ⟨_, _, rfl, undo_cut w S L _ xs bl bn n h.l he h.fits.1 hx⟩
  | put bo bl bi i old => exact ⟨_, _, rfl, undo_put w S L _ xs bo bl bi i old h.l he h.fits.1 hx⟩
end Go.Proofs.Ytlfbgndaojcgdaa
