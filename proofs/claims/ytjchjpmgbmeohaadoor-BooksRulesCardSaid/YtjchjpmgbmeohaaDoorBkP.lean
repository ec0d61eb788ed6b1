/- Books: the lists' At. -/
import Derived.Test.YtjchjpmgbmeohaaDoorBkO
import Derived.Test.YtjchjpmgbmeohaaDoorLoads
import Derived.Deep.MidRow
set_option linter.unusedSimpArgs false
set_option linter.unusedVariables false
namespace Go.Proofs.YtjchjpmgbmeohaaDoor
open Go.RowKit

/-- What stands at a place, if there is one. -/
def atZ {α : Type} (xs : List α) (i : Int) : Option α := if i < 0 then none else xs[i.toNat]?
theorem kepLen (w : World) (S : Nat → Prop) (L B : Nat) (xs : List Kp) (h : KepL w S L B xs) :
    Calls Tryd.prog 62 #[.pointer (some ⟨L, 0, none⟩)] w fun e w' => e = .returned (.int .i64 xs.length) ∧ w' = w := by
  obtain ⟨v, hb, ho, -, -, -⟩ := h
  obtain ⟨a, cap, rfl, -, -⟩ := own_form ho
  have c0 := blk_cell hb 0 rfl
  clear hb ho
  go_enter Tryd.func62, Tryd.ntmps62
  go_wp2
  go_ret
  exact ⟨rfl, rfl⟩
theorem rw_range {α : Type} {f : α → List Value} {sz : Nat} (hf : ∀ x, (f x).length = sz) {w : World} {g n cap : Nat} {et : TypeId} {xs : List α} (h : w.ownsRow 0 et sz (.slice (some ⟨g, 0, none⟩) n cap) n (xs.flatMap f)) (hn : xs.length = n) {k : Nat} (hk : k < xs.length) : w.rangeAt g (k * sz) (f xs[k]) := fun j v hv => by
  have hj : j < sz := by have := (List.getElem?_eq_some_iff.1 hv).1; rwa [hf] at this
  have hlt : k * sz + j < n * sz := by
    have : (k + 1) * sz ≤ n * sz := Nat.mul_le_mul_right _ (by omega)
    rw [Nat.succ_mul] at this
    omega
  rw [h.cellAt (k * sz + j) hlt, flat_get hf xs k hk j hj, hv]
def Acc.zero : Acc := ⟨⟨0, 0⟩, ⟨0, 0⟩, ⟨0, 0⟩, ⟨0, 0⟩, ⟨0, 0⟩, 0, 0, 0, 0⟩
set_option maxRecDepth 4000 in
set_option maxHeartbeats 3200000 in
theorem accAt (w : World) (S : Nat → Prop) (L B : Nat) (xs : List Acc) (i : Int) (h : AccL w S L B xs) (hn : xs.length ≤ 1000000) :
    Calls Tryd.prog 83 #[.pointer (some ⟨L, 0, none⟩), .int .i64 i] w fun e w' => e = .returned (.tuple #[.agg ((atZ xs i).getD Acc.zero).cells.toArray, .bool (atZ xs i).isSome]) ∧ Fr (fun _ => False) w w' := by
  have HL := Lib.hid (show ∀ W, AccL W S L B xs → Calls Tryd.prog 54 #[.pointer (some ⟨L, 0, none⟩)] W fun e w' => e = .returned (.int .i64 xs.length) ∧ w' = W from fun W h => accLen W S L B xs h)
  have H := Lib.hid h
  have HF := Lib.hid (((Fr.refl (fun _ => False) w).alloc (.cells #[.int .u64 0, .int .u64 0, .int .u64 0, .int .u64 0, .int .u64 0, .int .u64 0, .int .u64 0, .int .u64 0, .int .u64 0, .int .u64 0, .int .i64 0, .int .i64 0, .int .i64 0, .int .i64 0] 26)).alloc (.cells #[.int .u64 0, .int .u64 0, .int .u64 0, .int .u64 0, .int .u64 0, .int .u64 0, .int .u64 0, .int .u64 0, .int .u64 0, .int .u64 0, .int .i64 0, .int .i64 0, .int .i64 0, .int .i64 0] 26))
  have HB0 := Lib.hid (blk_alloc (heap_alloc_new w (.cells #[.int .u64 0, .int .u64 0, .int .u64 0, .int .u64 0, .int .u64 0, .int .u64 0, .int .u64 0, .int .u64 0, .int .u64 0, .int .u64 0, .int .i64 0, .int .i64 0, .int .i64 0, .int .i64 0] 26)) (.cells #[.int .u64 0, .int .u64 0, .int .u64 0, .int .u64 0, .int .u64 0, .int .u64 0, .int .u64 0, .int .u64 0, .int .u64 0, .int .u64 0, .int .i64 0, .int .i64 0, .int .i64 0, .int .i64 0] 26))
  have HB1 := Lib.hid (blk1 w (.cells #[.int .u64 0, .int .u64 0, .int .u64 0, .int .u64 0, .int .u64 0, .int .u64 0, .int .u64 0, .int .u64 0, .int .u64 0, .int .u64 0, .int .i64 0, .int .i64 0, .int .i64 0, .int .i64 0] 26) (.cells #[.int .u64 0, .int .u64 0, .int .u64 0, .int .u64 0, .int .u64 0, .int .u64 0, .int .u64 0, .int .u64 0, .int .u64 0, .int .u64 0, .int .i64 0, .int .i64 0, .int .i64 0, .int .i64 0] 26))
  obtain ⟨v, hb, ho, -, -, -⟩ := h
  by_cases h0 : i < 0
  · have hv := Lib.hid (show atZ xs i = none from by rw [atZ, if_pos h0])
    clear hb ho
    go_enter Tryd.func83, Tryd.ntmps83
    (go_wp2_with (first | ((with_reducible refine wpList_load_row_w ?lw 26 _ rfl (w.heap.size + 1) rfl 26 _ _ _ HB1.out Tryd.underlying26 rfl rfl ?_); (case lw => rfl)) | ((refine wpList_store_row rfl 26 (.tmp 4) (.tmp 15) rfl w.heap.size #[.int .u64 0, .int .u64 0, .int .u64 0, .int .u64 0, .int .u64 0, .int .u64 0, .int .u64 0, .int .u64 0, .int .u64 0, .int .u64 0, .int .i64 0, .int .i64 0, .int .i64 0, .int .i64 0] rfl rfl HB0.out rfl rfl (by simp [Acc.cells, Acc.zero, Value.oneCell']) ?_); intro w9 hb9 f9; have HB9 := Lib.hid hb9; have F9 := Lib.hid f9; clear hb9 f9) | fail))
    refine bodyPost_ret (results_cell2 (p := 4) (q := 5) rfl _ _ w.heap.size 26 _ (0, 0) _ rfl HB9.out Tryd.underlying26 rfl rfl) rfl ?_
    exact ⟨by rw [hv.out]; rfl, HF.out.then_ F9.out (fun k hk => .inr (by omega))⟩
  obtain ⟨k, rfl⟩ : ∃ k : Nat, i = k := ⟨i.toNat, by omega⟩
  by_cases h1 : k < xs.length
  · have hv := Lib.hid (show atZ xs (k : Int) = some xs[k] from by rw [atZ, if_neg h0, Int.toNat_natCast, List.getElem?_eq_getElem h1])
    obtain ⟨g, cap, rfl⟩ := own_some ho (by omega)
    have h2 : ¬ (xs.length : Int) ≤ k := by omega
    have c0 := blk_cell (blk_alloc (blk_alloc hb (.cells #[.int .u64 0, .int .u64 0, .int .u64 0, .int .u64 0, .int .u64 0, .int .u64 0, .int .u64 0, .int .u64 0, .int .u64 0, .int .u64 0, .int .i64 0, .int .i64 0, .int .i64 0, .int .i64 0] 26)) (.cells #[.int .u64 0, .int .u64 0, .int .u64 0, .int .u64 0, .int .u64 0, .int .u64 0, .int .u64 0, .int .u64 0, .int .u64 0, .int .u64 0, .int .i64 0, .int .i64 0, .int .i64 0, .int .i64 0] 26)) 0 rfl
    have HR := Lib.hid (World.rangeAt_alloc (World.rangeAt_alloc (rw_range (f := Acc.cells) (sz := 14) (fun _ => rfl) ho rfl h1) (.cells #[.int .u64 0, .int .u64 0, .int .u64 0, .int .u64 0, .int .u64 0, .int .u64 0, .int .u64 0, .int .u64 0, .int .u64 0, .int .u64 0, .int .i64 0, .int .i64 0, .int .i64 0, .int .i64 0] 26)) (.cells #[.int .u64 0, .int .u64 0, .int .u64 0, .int .u64 0, .int .u64 0, .int .u64 0, .int .u64 0, .int .u64 0, .int .u64 0, .int .u64 0, .int .i64 0, .int .i64 0, .int .i64 0, .int .i64 0] 26))
    clear hb ho
    go_enter Tryd.func83, Tryd.ntmps83
    (go_wp2_with (first | (go_at_call 54; refine (HL.out _ (H.out.fr HF.out (fun _ _ h => h))).mono ?_; rintro e w2 ⟨rfl, rfl⟩) | ((refine wpList_load_mid rfl 26 (.tmp 21) rfl g (k * 14) rfl _ _ HR.out Tryd.underlying26 rfl rfl ?_)) | ((refine wpList_store_row rfl 26 (.tmp 4) (.tmp 22) rfl w.heap.size xs[k].cells.toArray rfl rfl HB0.out rfl rfl (by simp [Acc.cells, Acc.zero, Value.oneCell']) ?_); intro w9 hb9 f9; have HB9 := Lib.hid hb9; have F9 := Lib.hid f9; clear hb9 f9) | fail))
    refine bodyPost_ret (results_cell2 (p := 4) (q := 5) rfl _ _ w.heap.size 26 _ (0, 0) _ rfl HB9.out Tryd.underlying26 rfl rfl) rfl ?_
    exact ⟨by rw [hv.out]; rfl, HF.out.then_ F9.out (fun k hk => .inr (by omega))⟩
  · have hv := Lib.hid (show atZ xs (k : Int) = none from by rw [atZ, if_neg h0, Int.toNat_natCast, List.getElem?_eq_none_iff]; omega)
    have h2 : (xs.length : Int) ≤ k := by omega
    clear hb ho
    go_enter Tryd.func83, Tryd.ntmps83
    (go_wp2_with (first | ((with_reducible refine wpList_load_row_w ?lw 26 _ rfl (w.heap.size + 1) rfl 26 _ _ _ HB1.out Tryd.underlying26 rfl rfl ?_); (case lw => rfl)) | ((refine wpList_store_row rfl 26 (.tmp 4) (.tmp 15) rfl w.heap.size #[.int .u64 0, .int .u64 0, .int .u64 0, .int .u64 0, .int .u64 0, .int .u64 0, .int .u64 0, .int .u64 0, .int .u64 0, .int .u64 0, .int .i64 0, .int .i64 0, .int .i64 0, .int .i64 0] rfl rfl HB0.out rfl rfl (by simp [Acc.cells, Acc.zero, Value.oneCell']) ?_); intro w9 hb9 f9; have HB9 := Lib.hid hb9; have F9 := Lib.hid f9; clear hb9 f9) | (go_at_call 54; refine (HL.out _ (H.out.fr HF.out (fun _ _ h => h))).mono ?_; rintro e w2 ⟨rfl, rfl⟩) | fail))
    refine bodyPost_ret (results_cell2 (p := 4) (q := 5) rfl _ _ w.heap.size 26 _ (0, 0) _ rfl HB9.out Tryd.underlying26 rfl rfl) rfl ?_
    exact ⟨by rw [hv.out]; rfl, HF.out.then_ F9.out (fun k hk => .inr (by omega))⟩
def Kp.zero : Kp := ⟨⟨⟨0, 0⟩, ⟨0, 0⟩, ⟨0, 0⟩, ⟨0, 0⟩, ⟨0, 0⟩, 0, 0, 0, 0, 0, 0⟩, ⟨⟨0, 0⟩, ⟨0, 0⟩, ⟨0, 0⟩, ⟨0, 0⟩, ⟨0, 0⟩, 0, 0, 0, 0, 0, 0⟩, 0⟩
set_option maxRecDepth 4000 in
set_option maxHeartbeats 3200000 in
theorem kepAt (w : World) (S : Nat → Prop) (L B : Nat) (xs : List Kp) (i : Int) (h : KepL w S L B xs) (hn : xs.length ≤ 1000000) :
    Calls Tryd.prog 79 #[.pointer (some ⟨L, 0, none⟩), .int .i64 i] w fun e w' => e = .returned (.tuple #[.agg ((atZ xs i).getD Kp.zero).cells.toArray, .bool (atZ xs i).isSome]) ∧ Fr (fun _ => False) w w' := by
  have HL := Lib.hid (show ∀ W, KepL W S L B xs → Calls Tryd.prog 62 #[.pointer (some ⟨L, 0, none⟩)] W fun e w' => e = .returned (.int .i64 xs.length) ∧ w' = W from fun W h => kepLen W S L B xs h)
  have H := Lib.hid h
  have HF := Lib.hid (((Fr.refl (fun _ => False) w).alloc (.cells #[.int .u64 0, .int .u64 0, .int .u64 0, .int .u64 0, .int .u64 0, .int .u64 0, .int .u64 0, .int .u64 0, .int .u64 0, .int .u64 0, .int .i64 0, .int .i64 0, .int .i64 0, .int .i64 0, .int .i64 0, .int .i64 0, .int .u64 0, .int .u64 0, .int .u64 0, .int .u64 0, .int .u64 0, .int .u64 0, .int .u64 0, .int .u64 0, .int .u64 0, .int .u64 0, .int .i64 0, .int .i64 0, .int .i64 0, .int .i64 0, .int .i64 0, .int .i64 0, .int .i64 0] 63)).alloc (.cells #[.int .u64 0, .int .u64 0, .int .u64 0, .int .u64 0, .int .u64 0, .int .u64 0, .int .u64 0, .int .u64 0, .int .u64 0, .int .u64 0, .int .i64 0, .int .i64 0, .int .i64 0, .int .i64 0, .int .i64 0, .int .i64 0, .int .u64 0, .int .u64 0, .int .u64 0, .int .u64 0, .int .u64 0, .int .u64 0, .int .u64 0, .int .u64 0, .int .u64 0, .int .u64 0, .int .i64 0, .int .i64 0, .int .i64 0, .int .i64 0, .int .i64 0, .int .i64 0, .int .i64 0] 63))
  have HB0 := Lib.hid (blk_alloc (heap_alloc_new w (.cells #[.int .u64 0, .int .u64 0, .int .u64 0, .int .u64 0, .int .u64 0, .int .u64 0, .int .u64 0, .int .u64 0, .int .u64 0, .int .u64 0, .int .i64 0, .int .i64 0, .int .i64 0, .int .i64 0, .int .i64 0, .int .i64 0, .int .u64 0, .int .u64 0, .int .u64 0, .int .u64 0, .int .u64 0, .int .u64 0, .int .u64 0, .int .u64 0, .int .u64 0, .int .u64 0, .int .i64 0, .int .i64 0, .int .i64 0, .int .i64 0, .int .i64 0, .int .i64 0, .int .i64 0] 63)) (.cells #[.int .u64 0, .int .u64 0, .int .u64 0, .int .u64 0, .int .u64 0, .int .u64 0, .int .u64 0, .int .u64 0, .int .u64 0, .int .u64 0, .int .i64 0, .int .i64 0, .int .i64 0, .int .i64 0, .int .i64 0, .int .i64 0, .int .u64 0, .int .u64 0, .int .u64 0, .int .u64 0, .int .u64 0, .int .u64 0, .int .u64 0, .int .u64 0, .int .u64 0, .int .u64 0, .int .i64 0, .int .i64 0, .int .i64 0, .int .i64 0, .int .i64 0, .int .i64 0, .int .i64 0] 63))
  have HB1 := Lib.hid (blk1 w (.cells #[.int .u64 0, .int .u64 0, .int .u64 0, .int .u64 0, .int .u64 0, .int .u64 0, .int .u64 0, .int .u64 0, .int .u64 0, .int .u64 0, .int .i64 0, .int .i64 0, .int .i64 0, .int .i64 0, .int .i64 0, .int .i64 0, .int .u64 0, .int .u64 0, .int .u64 0, .int .u64 0, .int .u64 0, .int .u64 0, .int .u64 0, .int .u64 0, .int .u64 0, .int .u64 0, .int .i64 0, .int .i64 0, .int .i64 0, .int .i64 0, .int .i64 0, .int .i64 0, .int .i64 0] 63) (.cells #[.int .u64 0, .int .u64 0, .int .u64 0, .int .u64 0, .int .u64 0, .int .u64 0, .int .u64 0, .int .u64 0, .int .u64 0, .int .u64 0, .int .i64 0, .int .i64 0, .int .i64 0, .int .i64 0, .int .i64 0, .int .i64 0, .int .u64 0, .int .u64 0, .int .u64 0, .int .u64 0, .int .u64 0, .int .u64 0, .int .u64 0, .int .u64 0, .int .u64 0, .int .u64 0, .int .i64 0, .int .i64 0, .int .i64 0, .int .i64 0, .int .i64 0, .int .i64 0, .int .i64 0] 63))
  obtain ⟨v, hb, ho, -, -, -⟩ := h
  by_cases h0 : i < 0
  · have hv := Lib.hid (show atZ xs i = none from by rw [atZ, if_pos h0])
    clear hb ho
    go_enter Tryd.func79, Tryd.ntmps79
    (go_wp2_with (first | ((with_reducible refine wpList_load_row_w ?lw 63 _ rfl (w.heap.size + 1) rfl 63 _ _ _ HB1.out Tryd.underlying63 rfl rfl ?_); (case lw => rfl)) | ((refine wpList_store_row rfl 63 (.tmp 4) (.tmp 15) rfl w.heap.size #[.int .u64 0, .int .u64 0, .int .u64 0, .int .u64 0, .int .u64 0, .int .u64 0, .int .u64 0, .int .u64 0, .int .u64 0, .int .u64 0, .int .i64 0, .int .i64 0, .int .i64 0, .int .i64 0, .int .i64 0, .int .i64 0, .int .u64 0, .int .u64 0, .int .u64 0, .int .u64 0, .int .u64 0, .int .u64 0, .int .u64 0, .int .u64 0, .int .u64 0, .int .u64 0, .int .i64 0, .int .i64 0, .int .i64 0, .int .i64 0, .int .i64 0, .int .i64 0, .int .i64 0] rfl rfl HB0.out rfl rfl (by simp [Kp.cells, Tx.cells, Kp.zero, Value.oneCell']) ?_); intro w9 hb9 f9; have HB9 := Lib.hid hb9; have F9 := Lib.hid f9; clear hb9 f9) | fail))
    refine bodyPost_ret (results_cell2 (p := 4) (q := 5) rfl _ _ w.heap.size 63 _ (0, 0) _ rfl HB9.out Tryd.underlying63 rfl rfl) rfl ?_
    exact ⟨by rw [hv.out]; rfl, HF.out.then_ F9.out (fun k hk => .inr (by omega))⟩
  obtain ⟨k, rfl⟩ : ∃ k : Nat, i = k := ⟨i.toNat, by omega⟩
  by_cases h1 : k < xs.length
  · have hv := Lib.hid (show atZ xs (k : Int) = some xs[k] from by rw [atZ, if_neg h0, Int.toNat_natCast, List.getElem?_eq_getElem h1])
    obtain ⟨g, cap, rfl⟩ := own_some ho (by omega)
    have h2 : ¬ (xs.length : Int) ≤ k := by omega
    have c0 := blk_cell (blk_alloc (blk_alloc hb (.cells #[.int .u64 0, .int .u64 0, .int .u64 0, .int .u64 0, .int .u64 0, .int .u64 0, .int .u64 0, .int .u64 0, .int .u64 0, .int .u64 0, .int .i64 0, .int .i64 0, .int .i64 0, .int .i64 0, .int .i64 0, .int .i64 0, .int .u64 0, .int .u64 0, .int .u64 0, .int .u64 0, .int .u64 0, .int .u64 0, .int .u64 0, .int .u64 0, .int .u64 0, .int .u64 0, .int .i64 0, .int .i64 0, .int .i64 0, .int .i64 0, .int .i64 0, .int .i64 0, .int .i64 0] 63)) (.cells #[.int .u64 0, .int .u64 0, .int .u64 0, .int .u64 0, .int .u64 0, .int .u64 0, .int .u64 0, .int .u64 0, .int .u64 0, .int .u64 0, .int .i64 0, .int .i64 0, .int .i64 0, .int .i64 0, .int .i64 0, .int .i64 0, .int .u64 0, .int .u64 0, .int .u64 0, .int .u64 0, .int .u64 0, .int .u64 0, .int .u64 0, .int .u64 0, .int .u64 0, .int .u64 0, .int .i64 0, .int .i64 0, .int .i64 0, .int .i64 0, .int .i64 0, .int .i64 0, .int .i64 0] 63)) 0 rfl
    have HR := Lib.hid (World.rangeAt_alloc (World.rangeAt_alloc (rw_range (f := Kp.cells) (sz := 33) (fun _ => rfl) ho rfl h1) (.cells #[.int .u64 0, .int .u64 0, .int .u64 0, .int .u64 0, .int .u64 0, .int .u64 0, .int .u64 0, .int .u64 0, .int .u64 0, .int .u64 0, .int .i64 0, .int .i64 0, .int .i64 0, .int .i64 0, .int .i64 0, .int .i64 0, .int .u64 0, .int .u64 0, .int .u64 0, .int .u64 0, .int .u64 0, .int .u64 0, .int .u64 0, .int .u64 0, .int .u64 0, .int .u64 0, .int .i64 0, .int .i64 0, .int .i64 0, .int .i64 0, .int .i64 0, .int .i64 0, .int .i64 0] 63)) (.cells #[.int .u64 0, .int .u64 0, .int .u64 0, .int .u64 0, .int .u64 0, .int .u64 0, .int .u64 0, .int .u64 0, .int .u64 0, .int .u64 0, .int .i64 0, .int .i64 0, .int .i64 0, .int .i64 0, .int .i64 0, .int .i64 0, .int .u64 0, .int .u64 0, .int .u64 0, .int .u64 0, .int .u64 0, .int .u64 0, .int .u64 0, .int .u64 0, .int .u64 0, .int .u64 0, .int .i64 0, .int .i64 0, .int .i64 0, .int .i64 0, .int .i64 0, .int .i64 0, .int .i64 0] 63))
    clear hb ho
    go_enter Tryd.func79, Tryd.ntmps79
    (go_wp2_with (first | (go_at_call 62; refine (HL.out _ (H.out.fr HF.out (fun _ _ h => h))).mono ?_; rintro e w2 ⟨rfl, rfl⟩) | ((refine wpList_load_mid rfl 63 (.tmp 21) rfl g (k * 33) rfl _ _ HR.out Tryd.underlying63 rfl rfl ?_)) | ((refine wpList_store_row rfl 63 (.tmp 4) (.tmp 22) rfl w.heap.size xs[k].cells.toArray rfl rfl HB0.out rfl rfl (by simp [Kp.cells, Tx.cells, Kp.zero, Value.oneCell']) ?_); intro w9 hb9 f9; have HB9 := Lib.hid hb9; have F9 := Lib.hid f9; clear hb9 f9) | fail))
    refine bodyPost_ret (results_cell2 (p := 4) (q := 5) rfl _ _ w.heap.size 63 _ (0, 0) _ rfl HB9.out Tryd.underlying63 rfl rfl) rfl ?_
    exact ⟨by rw [hv.out]; rfl, HF.out.then_ F9.out (fun k hk => .inr (by omega))⟩
  · have hv := Lib.hid (show atZ xs (k : Int) = none from by rw [atZ, if_neg h0, Int.toNat_natCast, List.getElem?_eq_none_iff]; omega)
    have h2 : (xs.length : Int) ≤ k := by omega
    clear hb ho
    go_enter Tryd.func79, Tryd.ntmps79
    (go_wp2_with (first | ((with_reducible refine wpList_load_row_w ?lw 63 _ rfl (w.heap.size + 1) rfl 63 _ _ _ HB1.out Tryd.underlying63 rfl rfl ?_); (case lw => rfl)) | ((refine wpList_store_row rfl 63 (.tmp 4) (.tmp 15) rfl w.heap.size #[.int .u64 0, .int .u64 0, .int .u64 0, .int .u64 0, .int .u64 0, .int .u64 0, .int .u64 0, .int .u64 0, .int .u64 0, .int .u64 0, .int .i64 0, .int .i64 0, .int .i64 0, .int .i64 0, .int .i64 0, .int .i64 0, .int .u64 0, .int .u64 0, .int .u64 0, .int .u64 0, .int .u64 0, .int .u64 0, .int .u64 0, .int .u64 0, .int .u64 0, .int .u64 0, .int .i64 0, .int .i64 0, .int .i64 0, .int .i64 0, .int .i64 0, .int .i64 0, .int .i64 0] rfl rfl HB0.out rfl rfl (by simp [Kp.cells, Tx.cells, Kp.zero, Value.oneCell']) ?_); intro w9 hb9 f9; have HB9 := Lib.hid hb9; have F9 := Lib.hid f9; clear hb9 f9) | (go_at_call 62; refine (HL.out _ (H.out.fr HF.out (fun _ _ h => h))).mono ?_; rintro e w2 ⟨rfl, rfl⟩) | fail))
    refine bodyPost_ret (results_cell2 (p := 4) (q := 5) rfl _ _ w.heap.size 63 _ (0, 0) _ rfl HB9.out Tryd.underlying63 rfl rfl) rfl ?_
    exact ⟨by rw [hv.out]; rfl, HF.out.then_ F9.out (fun k hk => .inr (by omega))⟩
end Go.Proofs.YtjchjpmgbmeohaaDoor
