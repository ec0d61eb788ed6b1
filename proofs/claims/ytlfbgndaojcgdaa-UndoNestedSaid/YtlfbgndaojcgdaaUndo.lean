/- Package undo: a list of numbers, its log, what would take changes back. -/
import Derived.Test.YtlfbgndaojcgdaaRw
import Derived.BigQuiet
import Derived.Lib.Hide
import Derived.Deep.DeepMust
import Derived.Deep.CutBlock
import Derived.KernelRfl
import Derived.Test.YtlfbgndaojcgdaaProg
namespace Go.Proofs.Ytlfbgndaojcgdaa
open Go.RowKit

theorem Try.infoInt : (Try.prog.info? 3).map (fun i => (i.zero, i.size, i.bytes)) = some (some (.int .i64 0), 1, 8) := by kernel_rfl
theorem Try.infoFn : (Try.prog.info? 1).map (fun i => (i.zero, i.size, i.bytes)) = some (some .nilFunc, 1, 8) := by kernel_rfl
abbrev ints (xs : List Int) : List Value := xs.map (.int .i64)
def ptr (g : Nat) : Value := .pointer (some ⟨g, 0, none⟩)
def logv (lg : Option Nat) : Value := .pointer (lg.map fun g => ⟨g, 0, none⟩)
/-- A list of numbers. -/
def IsL (w : World) (S : Nat → Prop) (L : Nat) (lg : Option Nat) (xs : List Int) : Prop := Rw w S L 67 3 1 [.pointer (lg.map fun g => ⟨g, 0, none⟩)] xs.length (ints xs)
/-- What would take a change back: where it lies, and what it is. -/
inductive Ent where
  | cut (bl bn n : Nat)
  | put (bo bl bi i : Nat) (old : Int)
def Ent.val : Ent → Value
  | .cut bl bn _ => .func (.func 30) #[] #[.pointer (some ⟨bl, 0, none⟩), .pointer (some ⟨bn, 0, none⟩)]
  | .put bo bl bi _ _ => .func (.func 31) #[] #[.pointer (some ⟨bo, 0, none⟩), .pointer (some ⟨bl, 0, none⟩), .pointer (some ⟨bi, 0, none⟩)]
def Ent.at_ (w : World) (L : Nat) : Ent → Prop
  | .cut bl bn n => w.heap[bl]? = some (.cells #[.pointer (some ⟨L, 0, none⟩)] 28 (0, 0)) ∧ w.heap[bn]? = some (.cells #[.int .i64 n] 3 (0, 0))
  | .put bo bl bi i old => w.heap[bo]? = some (.cells #[.int .i64 old] 3 (0, 0)) ∧ w.heap[bl]? = some (.cells #[.pointer (some ⟨L, 0, none⟩)] 28 (0, 0)) ∧ w.heap[bi]? = some (.cells #[.int .i64 i] 3 (0, 0))
def Ent.has : Ent → Nat → Prop
  | .cut bl bn _, k => k = bl ∨ k = bn
  | .put bo bl bi _ _, k => k = bo ∨ k = bl ∨ k = bi
def Ent.undo : Ent → List Int → List Int
  | .cut _ _ n, xs => xs.take n
  | .put _ _ _ i old, xs => xs.set i old
def Ent.fits : Ent → List Int → Prop
  | .cut _ _ n, xs => n ≤ xs.length
  | .put _ _ _ i _, xs => i < xs.length
/-- All of them fit, one behind the other (the last one first). -/
def Fits : List Int → List Ent → Prop
  | _, [] => True
  | xs, e :: es => e.fits xs ∧ Fits (e.undo xs) es
/-- A log (what it keeps: the last one first). -/
def IsG (w : World) (G : Nat → Prop) (g : Nat) (es : List Ent) : Prop := Rw w G g 27 1 1 [] es.length (es.reverse.map Ent.val)

theorem len_any (w : World) (S : Nat → Prop) (L : Nat) (lg : Option Nat) (xs : List Int) (h : IsL w S L lg xs) :
    Calls Try.prog 16 #[.pointer (some ⟨L, 0, none⟩)] w fun e w' => e = .returned (.int .i64 xs.length) ∧ w' = w := by
  obtain ⟨v, hb, ho, -, -, -⟩ := h
  obtain ⟨a, cap, rfl, -, -⟩ := own_form ho
  have c0 := blk_cell hb 0 rfl
  clear hb ho
  go_enter Try.func16, Try.ntmps16
  go_wp2
  go_ret
  exact ⟨rfl, rfl⟩
theorem mark_any (w : World) (G : Nat → Prop) (g : Nat) (es : List Ent) (h : IsG w G g es) :
    Calls Try.prog 18 #[.pointer (some ⟨g, 0, none⟩)] w fun e w' => e = .returned (.int .i64 es.length) ∧ w' = w := by
  obtain ⟨v, hb, ho, -, -, -⟩ := h
  obtain ⟨a, cap, rfl, -, -⟩ := own_form ho
  have c0 := blk_cell hb 0 rfl
  clear hb ho
  go_enter Try.func18, Try.ntmps18
  go_wp2
  go_ret
  exact ⟨rfl, rfl⟩
theorem at_any (w : World) (S : Nat → Prop) (L : Nat) (lg : Option Nat) (xs : List Int) (i : Int) (h : IsL w S L lg xs) (hn : xs.length ≤ 1000000) :
    Calls Try.prog 28 #[.pointer (some ⟨L, 0, none⟩), .int .i64 i] w fun e w' =>
      e = .returned (if 0 ≤ i ∧ i < xs.length then .tuple #[.int .i64 (xs.getD i.toNat 0), .bool true] else .tuple #[.int .i64 0, .bool false]) ∧ w' = w := by
  have HL := Lib.hid (show ∀ W, IsL W S L lg xs → Calls Try.prog 16 #[.pointer (some ⟨L, 0, none⟩)] W fun e w' => e = .returned (.int .i64 xs.length) ∧ w' = W from fun W h => len_any W S L lg xs h)
  have H := Lib.hid h
  obtain ⟨v, hb, ho, -, -, -⟩ := h
  have c0 := blk_cell hb 0 rfl
  clear hb
  by_cases h0 : i < 0
  · have hv := Lib.hid (show ¬ (0 ≤ i ∧ i < (xs.length : Int)) from by omega)
    go_enter Try.func28, Try.ntmps28
    go_wp2_with fail
    go_ret2
    exact ⟨rfl, rfl⟩
  by_cases h1 : i < (xs.length : Int)
  · obtain ⟨g, cap, rfl⟩ := own_some ho (by omega)
    obtain ⟨k, rfl⟩ : ∃ k : Nat, i = k := ⟨i.toNat, by omega⟩
    have hk : k < xs.length := by omega
    have ca : w.cell? ⟨g, k, none⟩ = some (.int .i64 (xs.getD k 0)) := by
      rw [ho.cellAt k (by omega), List.getElem?_map, List.getElem?_eq_getElem hk]
      simp [List.getD, List.getElem?_eq_getElem hk]
    have hv := Lib.hid (show (0 ≤ (k : Int) ∧ (k : Int) < (xs.length : Int)) from by omega)
    clear ho
    go_enter Try.func28, Try.ntmps28
    go_wp2_with (go_at_call 16; refine (HL.out _ H.out).mono ?_; rintro e w2 ⟨rfl, rfl⟩)
    go_ret2
    exact ⟨rfl, rfl⟩
  · have hv := Lib.hid (show ¬ (0 ≤ i ∧ i < (xs.length : Int)) from by omega)
    go_enter Try.func28, Try.ntmps28
    go_wp2_with (go_at_call 16; refine (HL.out _ H.out).mono ?_; rintro e w2 ⟨rfl, rfl⟩)
    go_ret2
    exact ⟨rfl, rfl⟩

theorem keep_fn (w : World) (G : Nat → Prop) (g : Nat) (n : Nat) (vs : List Value) (fn : Fn) (fs cs : Array Value) (h : Rw w G g 27 1 1 [] n vs) (hn : n ≤ 1000000) :
    Calls Try.prog 29 #[.pointer (some ⟨g, 0, none⟩), .func fn fs cs] w fun r w' => r = .returned (.tuple #[]) ∧ Rw w' (Gro G w w') g 27 1 1 [] (n + 1) (vs ++ [.func fn fs cs]) ∧ Fr G w w' := by
  obtain ⟨i0, hi, hz0, hz1, hz2⟩ := info_parts Try.infoFn
  obtain ⟨v, hb, ho, hG, hS, hl⟩ := h
  have c0 := blk_cell hb 0 rfl
  have Hb := Lib.hid hb
  have Ho := Lib.hid ho
  have Hg := Lib.hid hG
  have Hs := Lib.hid hS
  have Hl := Lib.hid hl
  have Hne := Lib.hid (show ¬ v.ownBlock = some g from fun he => (Hs.out g he).2 rfl)
  have ca := blk_cell (heap_alloc_new w (.cells #[.func fn fs cs] 1)) 0 rfl
  clear hb ho hG hS hl
  go_enter Try.func29, Try.ntmps29
  go_wp2_with (at_builtin; go_must (refine wpList_append_fresh _ w rfl (.tmp 10) (.tmp 12) 25 rfl 1 i0 .nilFunc 1 8 Try.underlying25 hi hz0 hz1 hz2 rfl (by decide) v n _ rfl Ho.out #[.func fn fs cs] rfl rfl rfl (by intro x hx; simp at hx; subst hx; rfl) (by omega) (by omega) ?_; intro g2 cap2 w2 hown2 hf2 hat2; have hb' := hf2.blk (blk_alloc Hb.out _) Hne.out; have c0' := blk_cell hb' 0 rfl; have f0' := blk_free hb' 0; have HR := Lib.hid (rw_push Hb.out Hg.out Hs.out Hl.out ((Fr.refl _ w).alloc (.cells #[.func fn fs cs] 1)) hown2 hf2 hat2); clear hb' hown2 hf2 hat2))
  go_end0
  exact ⟨rfl, HR.out.1, HR.out.2⟩
/-- Keep: one more change. -/
theorem keep_any (w : World) (G : Nat → Prop) (g : Nat) (es : List Ent) (e : Ent) (h : IsG w G g es) (hn : es.length ≤ 1000000) :
    Calls Try.prog 29 #[.pointer (some ⟨g, 0, none⟩), e.val] w fun r w' => r = .returned (.tuple #[]) ∧ IsG w' (Gro G w w') g (e :: es) ∧ Fr G w w' := by
  unfold IsG at h ⊢
  rw [show (e :: es).reverse.map Ent.val = es.reverse.map Ent.val ++ [e.val] from by simp, show (e :: es).length = es.length + 1 from rfl]
  cases e <;> exact keep_fn w G g _ _ _ _ _ h hn
/-- .. without a log. -/
theorem keep_nil (w : World) (u : Value) :
    Calls Try.prog 29 #[.pointer none, u] w fun r w' => r = .returned (.tuple #[]) ∧ w' = w := by
  go_enter Try.func29, Try.ntmps29
  go_wp2
  go_end0
  exact ⟨rfl, rfl⟩

/-- What takes an Add back. -/
theorem undo_cut (w : World) (S : Nat → Prop) (L : Nat) (lg : Option Nat) (xs : List Int) (bl bn n : Nat) (h : IsL w S L lg xs) (he : Ent.at_ w L (.cut bl bn n)) (hn : n ≤ xs.length) (hx : xs.length ≤ 1000000) :
    Calls Try.prog 30 #[.pointer (some ⟨bl, 0, none⟩), .pointer (some ⟨bn, 0, none⟩)] w fun r w' => r = .returned (.tuple #[]) ∧ IsL w' S L lg (xs.take n) ∧ Fr S w w' := by
  obtain ⟨v, hb, ho, hS, hSv, hl⟩ := h
  obtain ⟨a, cap, rfl, hc, -⟩ := own_form ho
  have c0 := blk_cell hb 0 rfl
  have f0 := blk_free hb 0
  have cl := blk_cell he.1 0 rfl
  have cn := blk_cell he.2 0 rfl
  have HR := Lib.hid (rw_cut hb ho hS hSv hl rfl hn)
  have Hlen := Lib.hid (show (ints xs).take (n * 1) = ints (xs.take n) from by rw [Nat.mul_one]; simp [ints])
  have Hl2 := Lib.hid (show (xs.take n).length = n from by rw [List.length_take]; omega)
  clear hb ho hS hSv hl he
  go_enter Try.func30, Try.ntmps30
  go_wp2_with fail
  go_region
  all_goals
    go_wp2_with fail
    go_end0
    exact ⟨rfl, by have h := HR.out.1; unfold IsL; rw [Hl2.out, ← Hlen.out]; exact h.drew, HR.out.2.drew⟩
/-- What takes a Set back. -/
theorem undo_put (w : World) (S : Nat → Prop) (L : Nat) (lg : Option Nat) (xs : List Int) (bo bl bi i : Nat) (old : Int) (h : IsL w S L lg xs) (he : Ent.at_ w L (.put bo bl bi i old)) (hn : i < xs.length) (hx : xs.length ≤ 1000000) :
    Calls Try.prog 31 #[.pointer (some ⟨bo, 0, none⟩), .pointer (some ⟨bl, 0, none⟩), .pointer (some ⟨bi, 0, none⟩)] w fun r w' => r = .returned (.tuple #[]) ∧ IsL w' S L lg (xs.set i old) ∧ Fr S w w' := by
  obtain ⟨v, hb, ho, hS, hSv, hl⟩ := h
  obtain ⟨g, cap, rfl⟩ := own_some ho (by omega)
  have c0 := blk_cell hb 0 rfl
  have f0 := blk_free hb 0
  have co := blk_cell he.1 0 rfl
  have cl := blk_cell he.2.1 0 rfl
  have ci := blk_cell he.2.2 0 rfl
  have ca : w.cell? ⟨g, i, none⟩ = some (.int .i64 xs[i]) := by
    rw [ho.cellAt i (by omega)]; simp [ints, hn]
  have fa := ho.frozenAt i
  have HR := Lib.hid (rw_put (j := i) (u := .int .i64 old) hb ho hS hSv hl)
  have Hlen := Lib.hid (show (ints xs).set i (.int .i64 old) = ints (xs.set i old) from by simp [ints, List.map_set])
  have Hl2 := Lib.hid (show (xs.set i old).length = xs.length from List.length_set)
  clear hb ho hS hSv hl he
  go_enter Try.func31, Try.ntmps31
  go_wp2_with fail
  go_region
  all_goals
    go_wp2_with fail
    go_end0
    exact ⟨rfl, by have h := HR.out.1; unfold IsL; rw [Hl2.out, ← Hlen.out]; exact h.drew, HR.out.2.drew⟩

theorem ent_fr {w w' : World} {L : Nat} {S2 : Nat → Prop} {e : Ent} (h : e.at_ w L) (hf : Fr S2 w w') (hn : ∀ k, e.has k → ¬ S2 k) : e.at_ w' L := by
  cases e with
  | cut bl bn n => exact ⟨hf.blk h.1 (hn _ (.inl rfl)), hf.blk h.2 (hn _ (.inr rfl))⟩
  | put bo bl bi i old => exact ⟨hf.blk h.1 (hn _ (.inl rfl)), hf.blk h.2.1 (hn _ (.inr (.inl rfl))), hf.blk h.2.2 (hn _ (.inr (.inr rfl)))⟩
/-- A list and its log. -/
structure St (w : World) (S G : Nat → Prop) (L g : Nat) (xs : List Int) (es : List Ent) : Prop where
  l : IsL w S L (some g) xs
  g : IsG w G g es
  dis : ∀ k, S k → ¬ G k
  ents : ∀ e ∈ es, e.at_ w L ∧ ∀ k, e.has k → k < w.heap.size ∧ ¬ S k ∧ ¬ G k
  fits : Fits xs es
theorem St.fr {w w' : World} {S G S2 : Nat → Prop} {L g : Nat} {xs : List Int} {es : List Ent} (h : St w S G L g xs es) (hf : Fr S2 w w') (hn : ∀ k, k < w.heap.size → ¬ S2 k) : St w' S G L g xs es where
  l := Rw.fr h.l hf (fun k hk => hn k (Rw.lt h.l hk))
  g := Rw.fr h.g hf (fun k hk => hn k (Rw.lt h.g hk))
  dis := h.dis
  ents := fun e he => ⟨ent_fr (h.ents e he).1 hf (fun k hk => hn k ((h.ents e he).2 k hk).1), fun k hk => ⟨Nat.lt_of_lt_of_le ((h.ents e he).2 k hk).1 hf.size, ((h.ents e he).2 k hk).2⟩⟩
  fits := h.fits

theorem St.fr2 {w w' : World} {S G S2 : Nat → Prop} {L g : Nat} {xs : List Int} {es : List Ent} (h : St w S G L g xs es) (hf : Fr S2 w w') (d1 : ∀ k, S2 k → ¬ (S k ∨ G k)) (d2 : ∀ k, S2 k → ∀ e ∈ es, ¬ e.has k) : St w' S G L g xs es where
  l := Rw.fr h.l hf (fun k hk h2 => d1 k h2 (.inl hk))
  g := Rw.fr h.g hf (fun k hk h2 => d1 k h2 (.inr hk))
  dis := h.dis
  ents := fun e he => ⟨ent_fr (h.ents e he).1 hf (fun k hk h2 => d2 k h2 e he hk), fun k hk => ⟨Nat.lt_of_lt_of_le ((h.ents e he).2 k hk).1 hf.size, ((h.ents e he).2 k hk).2⟩⟩
  fits := h.fits
/-- What the list's own part of a change leaves, and then the log's. -/
theorem st_step {w w1 w2 w3 : World} {S G : Nat → Prop} {L g : Nat} {xs ys : List Int} {es : List Ent} {e : Ent} (h : St w S G L g xs es) (h1 : Fr (fun _ => False) w w1) (l2 : IsL w2 (Gro S w1 w2) L (some g) ys) (f2 : Fr S w1 w2)
    (he : e.at_ w2 L) (hb : ∀ k, e.has k → w.heap.size ≤ k ∧ k < w1.heap.size) (hu : e.undo ys = xs) (hf : e.fits ys) (g3 : IsG w3 (Gro G w2 w3) g (e :: es)) (f3 : Fr G w2 w3) :
    St w3 (Gro S w1 w2) (Gro G w2 w3) L g ys (e :: es) ∧ Fr (fun k => S k ∨ G k) w w3 ∧ (∀ k, Gro S w1 w2 k ∨ Gro G w2 w3 k → S k ∨ G k ∨ w.heap.size ≤ k) ∧ ∀ k, e.has k → w.heap.size ≤ k := by
  have s1 := h1.size
  have s2 := f2.size
  have s3 := f3.size
  have hS := fun k (hk : S k) => Rw.lt h.l hk
  have hG := fun k (hk : G k) => Rw.lt h.g hk
  have hd : ∀ k, Gro S w1 w2 k → ¬ G k := fun k hk hg => by
    rcases hk with hk | hk
    · exact h.dis k hk hg
    · have := hG k hg; omega
  have hfr : Fr (fun k => S k ∨ G k) w w3 := ((h1.mono (fun _ h => h.elim)).then_ f2 (fun k hk => .inl (.inl hk))).then_ f3 (fun k hk => .inl (.inr hk))
  refine ⟨⟨Rw.fr l2 f3 hd, g3, fun k hk hg => ?_, fun e' he' => ?_, ⟨hf, by rw [hu]; exact h.fits⟩⟩, hfr, fun k hk => ?_, fun k hk => (hb k hk).1⟩
  rotate_right
  · rcases hk with (hk | hk) | (hk | hk)
    · exact .inl hk
    · exact .inr (.inr (by omega))
    · exact .inr (.inl hk)
    · exact .inr (.inr (by omega))
  · rcases hg with hg | hg
    · exact hd k hk hg
    · have := Rw.lt l2 hk; omega
  · rcases List.mem_cons.1 he' with rfl | he'
    · refine ⟨ent_fr he f3 (fun k hk hg => ?_), fun k hk => ?_⟩
      · have := hG k hg; have := hb k hk; omega
      · have hk2 := hb k hk
        refine ⟨by omega, fun hs => ?_, fun hs => ?_⟩
        · rcases hs with hs | hs
          · have := hS k hs; omega
          · omega
        · rcases hs with hs | hs
          · have := hG k hs; omega
          · omega
    · obtain ⟨ha, hh⟩ := h.ents e' he'
      refine ⟨ent_fr ha hfr (fun k hk hs => hs.elim (hh k hk).2.1 (hh k hk).2.2), fun k hk => ?_⟩
      have h3 := hh k hk
      refine ⟨by omega, fun hs => ?_, fun hs => ?_⟩
      · rcases hs with hs | hs
        · exact h3.2.1 hs
        · omega
      · rcases hs with hs | hs
        · exact h3.2.2 hs
        · omega
end Go.Proofs.Ytlfbgndaojcgdaa
