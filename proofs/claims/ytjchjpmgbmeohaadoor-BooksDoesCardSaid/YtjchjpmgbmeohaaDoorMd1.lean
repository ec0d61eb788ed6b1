/- Several texts in one, for the law BooksDoes: NilA, Does. Each says what it shows; conditions: what each theorem names. -/
import Derived.Test.YtjchjpmgbmeohaaDoorMk12
import Derived.Deep.CutRange
import Derived.BigQuiet
/- The functions of books, asked of a nil state. -/
set_option linter.unusedSimpArgs false
set_option linter.unusedVariables false
namespace Go.Proofs.YtjchjpmgbmeohaaDoor
open Go.RowKit
set_option maxRecDepth 8000

theorem nil_back (w : World) (i : Int) : Calls Tryd.prog 28 #[.pointer none, .int .i64 i] w fun e w' => e = .returned (.tuple #[]) ∧ Fr (fun _ => False) w w' := by
  go_enter Tryd.func28, Tryd.ntmps28
  go_wp2_with fail
  go_end0
  exact ⟨rfl, Fr.refl _ _⟩

theorem nil_clear (w : World) : Calls Tryd.prog 38 #[.pointer none] w fun e w' => e = .returned (.tuple #[]) ∧ Fr (fun _ => False) w w' := by
  go_enter Tryd.func38, Tryd.ntmps38
  go_wp2_with fail
  go_end0
  exact ⟨rfl, Fr.refl _ _⟩

theorem nil_time (w : World) (i : Int) : Calls Tryd.prog 39 #[.pointer none, .int .i64 i] w fun e w' => e = .returned (.tuple #[]) ∧ Fr (fun _ => False) w w' := by
  go_enter Tryd.func39, Tryd.ntmps39
  go_wp2_with fail
  refine bodyPost_ret (results_none rfl _ _ _) rfl ?_
  exact ⟨rfl, (Fr.refl _ w).alloc _⟩

theorem nil_account (w : World) (id : Nm) : Calls Tryd.prog 32 #[.pointer none, .agg #[.int .u64 id.hi, .int .u64 id.lo]] w fun e w' => e = .returned (.tuple #[.agg #[.int .u64 0, .int .u64 0, .int .u64 0, .int .u64 0, .int .u64 0, .int .u64 0, .int .u64 0, .int .u64 0, .int .u64 0, .int .u64 0, .int .i64 0, .int .i64 0, .int .i64 0, .int .i64 0], .bool false]) ∧ Fr (fun _ => False) w w' := by
  have B0 := Lib.hid (blk1 w (.cells #[.int .u64 id.hi, .int .u64 id.lo] 24) (.cells #[.int .u64 0, .int .u64 0, .int .u64 0, .int .u64 0, .int .u64 0, .int .u64 0, .int .u64 0, .int .u64 0, .int .u64 0, .int .u64 0, .int .i64 0, .int .i64 0, .int .i64 0, .int .i64 0] 26))
  have HF := Lib.hid (((Fr.refl (fun _ => False) w).alloc (.cells #[.int .u64 id.hi, .int .u64 id.lo] 24)).alloc (.cells #[.int .u64 0, .int .u64 0, .int .u64 0, .int .u64 0, .int .u64 0, .int .u64 0, .int .u64 0, .int .u64 0, .int .u64 0, .int .u64 0, .int .i64 0, .int .i64 0, .int .i64 0, .int .i64 0] 26))
  go_enter Tryd.func32, Tryd.ntmps32
  go_wp2_with (first | ((refine wpList_store_row rfl 26 (.tmp 4) (.tmp 10) rfl (w.heap.size + 1) #[.int .u64 0, .int .u64 0, .int .u64 0, .int .u64 0, .int .u64 0, .int .u64 0, .int .u64 0, .int .u64 0, .int .u64 0, .int .u64 0, .int .i64 0, .int .i64 0, .int .i64 0, .int .i64 0] rfl rfl B0.out rfl rfl (by simp [Value.oneCell']) ?_); intro w9 hb9 f9; have HB9 := Lib.hid hb9; have F9 := Lib.hid f9; clear hb9 f9) | fail)
  refine bodyPost_ret (results_cell2 (p := 4) (q := 5) rfl _ _ (w.heap.size + 1) 26 _ (0, 0) _ rfl HB9.out Tryd.underlying26 rfl rfl) rfl ?_
  exact ⟨rfl, HF.out.then_ F9.out (fun k hk => .inr (by omega))⟩

theorem nil_kept (w : World) (id : Nm) : Calls Tryd.prog 30 #[.pointer none, .agg #[.int .u64 id.hi, .int .u64 id.lo]] w fun e w' => e = .returned (.tuple #[.agg #[.int .u64 0, .int .u64 0, .int .u64 0, .int .u64 0, .int .u64 0, .int .u64 0, .int .u64 0, .int .u64 0, .int .u64 0, .int .u64 0, .int .i64 0, .int .i64 0, .int .i64 0, .int .i64 0, .int .i64 0, .int .i64 0, .int .u64 0, .int .u64 0, .int .u64 0, .int .u64 0, .int .u64 0, .int .u64 0, .int .u64 0, .int .u64 0, .int .u64 0, .int .u64 0, .int .i64 0, .int .i64 0, .int .i64 0, .int .i64 0, .int .i64 0, .int .i64 0, .int .i64 0], .bool false]) ∧ Fr (fun _ => False) w w' := by
  have B0 := Lib.hid (blk1 w (.cells #[.int .u64 id.hi, .int .u64 id.lo] 24) (.cells #[.int .u64 0, .int .u64 0, .int .u64 0, .int .u64 0, .int .u64 0, .int .u64 0, .int .u64 0, .int .u64 0, .int .u64 0, .int .u64 0, .int .i64 0, .int .i64 0, .int .i64 0, .int .i64 0, .int .i64 0, .int .i64 0, .int .u64 0, .int .u64 0, .int .u64 0, .int .u64 0, .int .u64 0, .int .u64 0, .int .u64 0, .int .u64 0, .int .u64 0, .int .u64 0, .int .i64 0, .int .i64 0, .int .i64 0, .int .i64 0, .int .i64 0, .int .i64 0, .int .i64 0] 63))
  have HF := Lib.hid (((Fr.refl (fun _ => False) w).alloc (.cells #[.int .u64 id.hi, .int .u64 id.lo] 24)).alloc (.cells #[.int .u64 0, .int .u64 0, .int .u64 0, .int .u64 0, .int .u64 0, .int .u64 0, .int .u64 0, .int .u64 0, .int .u64 0, .int .u64 0, .int .i64 0, .int .i64 0, .int .i64 0, .int .i64 0, .int .i64 0, .int .i64 0, .int .u64 0, .int .u64 0, .int .u64 0, .int .u64 0, .int .u64 0, .int .u64 0, .int .u64 0, .int .u64 0, .int .u64 0, .int .u64 0, .int .i64 0, .int .i64 0, .int .i64 0, .int .i64 0, .int .i64 0, .int .i64 0, .int .i64 0] 63))
  go_enter Tryd.func30, Tryd.ntmps30
  go_wp2_with (first | ((refine wpList_store_row rfl 63 (.tmp 4) (.tmp 10) rfl (w.heap.size + 1) #[.int .u64 0, .int .u64 0, .int .u64 0, .int .u64 0, .int .u64 0, .int .u64 0, .int .u64 0, .int .u64 0, .int .u64 0, .int .u64 0, .int .i64 0, .int .i64 0, .int .i64 0, .int .i64 0, .int .i64 0, .int .i64 0, .int .u64 0, .int .u64 0, .int .u64 0, .int .u64 0, .int .u64 0, .int .u64 0, .int .u64 0, .int .u64 0, .int .u64 0, .int .u64 0, .int .i64 0, .int .i64 0, .int .i64 0, .int .i64 0, .int .i64 0, .int .i64 0, .int .i64 0] rfl rfl B0.out rfl rfl (by simp [Value.oneCell']) ?_); intro w9 hb9 f9; have HB9 := Lib.hid hb9; have F9 := Lib.hid f9; clear hb9 f9) | fail)
  refine bodyPost_ret (results_cell2 (p := 4) (q := 5) rfl _ _ (w.heap.size + 1) 63 _ (0, 0) _ rfl HB9.out Tryd.underlying63 rfl rfl) rfl ?_
  exact ⟨rfl, HF.out.then_ F9.out (fun k hk => .inr (by omega))⟩

theorem nil_due (w : World) : Calls Tryd.prog 33 #[.pointer none] w fun e w' => e = .returned (.tuple #[.agg #[.int .u64 0, .int .u64 0, .int .u64 0, .int .u64 0, .int .u64 0, .int .u64 0, .int .u64 0, .int .u64 0, .int .u64 0, .int .u64 0, .int .i64 0, .int .i64 0, .int .i64 0, .int .i64 0, .int .i64 0, .int .i64 0, .int .u64 0, .int .u64 0, .int .u64 0, .int .u64 0, .int .u64 0, .int .u64 0, .int .u64 0, .int .u64 0, .int .u64 0, .int .u64 0, .int .i64 0, .int .i64 0, .int .i64 0, .int .i64 0, .int .i64 0, .int .i64 0, .int .i64 0], .bool false]) ∧ Fr (fun _ => False) w w' := by
  have B0 := Lib.hid (heap_alloc_new w (.cells #[.int .u64 0, .int .u64 0, .int .u64 0, .int .u64 0, .int .u64 0, .int .u64 0, .int .u64 0, .int .u64 0, .int .u64 0, .int .u64 0, .int .i64 0, .int .i64 0, .int .i64 0, .int .i64 0, .int .i64 0, .int .i64 0, .int .u64 0, .int .u64 0, .int .u64 0, .int .u64 0, .int .u64 0, .int .u64 0, .int .u64 0, .int .u64 0, .int .u64 0, .int .u64 0, .int .i64 0, .int .i64 0, .int .i64 0, .int .i64 0, .int .i64 0, .int .i64 0, .int .i64 0] 63))
  have HF := Lib.hid ((Fr.refl (fun _ => False) w).alloc (.cells #[.int .u64 0, .int .u64 0, .int .u64 0, .int .u64 0, .int .u64 0, .int .u64 0, .int .u64 0, .int .u64 0, .int .u64 0, .int .u64 0, .int .i64 0, .int .i64 0, .int .i64 0, .int .i64 0, .int .i64 0, .int .i64 0, .int .u64 0, .int .u64 0, .int .u64 0, .int .u64 0, .int .u64 0, .int .u64 0, .int .u64 0, .int .u64 0, .int .u64 0, .int .u64 0, .int .i64 0, .int .i64 0, .int .i64 0, .int .i64 0, .int .i64 0, .int .i64 0, .int .i64 0] 63))
  go_enter Tryd.func33, Tryd.ntmps33
  go_wp2_with (first | ((refine wpList_store_row rfl 63 (.tmp 2) (.tmp 8) rfl (w.heap.size) #[.int .u64 0, .int .u64 0, .int .u64 0, .int .u64 0, .int .u64 0, .int .u64 0, .int .u64 0, .int .u64 0, .int .u64 0, .int .u64 0, .int .i64 0, .int .i64 0, .int .i64 0, .int .i64 0, .int .i64 0, .int .i64 0, .int .u64 0, .int .u64 0, .int .u64 0, .int .u64 0, .int .u64 0, .int .u64 0, .int .u64 0, .int .u64 0, .int .u64 0, .int .u64 0, .int .i64 0, .int .i64 0, .int .i64 0, .int .i64 0, .int .i64 0, .int .i64 0, .int .i64 0] rfl rfl B0.out rfl rfl (by simp [Value.oneCell']) ?_); intro w9 hb9 f9; have HB9 := Lib.hid hb9; have F9 := Lib.hid f9; clear hb9 f9) | fail)
  refine bodyPost_ret (results_cell2 (p := 2) (q := 3) rfl _ _ (w.heap.size) 63 _ (0, 0) _ rfl HB9.out Tryd.underlying63 rfl rfl) rfl ?_
  exact ⟨rfl, HF.out.then_ F9.out (fun k hk => .inr (by omega))⟩

theorem nil_mark (w : World) : Calls Tryd.prog 27 #[.pointer none] w fun e w' => e = .returned (.int .i64 0) ∧ Fr (fun _ => False) w w' := by
  go_enter Tryd.func27, Tryd.ntmps27
  go_wp2_with fail
  go_ret
  exact ⟨rfl, Fr.refl _ _⟩

theorem nil_clock (w : World) : Calls Tryd.prog 37 #[.pointer none] w fun e w' => e = .returned (.int .i64 0) ∧ Fr (fun _ => False) w w' := by
  go_enter Tryd.func37, Tryd.ntmps37
  go_wp2_with fail
  go_ret
  exact ⟨rfl, Fr.refl _ _⟩

theorem nil_stamp (w : World) : Calls Tryd.prog 21 #[.pointer none] w fun e w' => e = .returned (.int .i64 0) ∧ Fr (fun _ => False) w w' := by
  go_enter Tryd.func21, Tryd.ntmps21
  go_wp2_with fail
  go_ret
  exact ⟨rfl, Fr.refl _ _⟩

theorem nil_accounts (w : World) : Calls Tryd.prog 19 #[.pointer none] w fun e w' => e = .returned (.slice none 0 0) ∧ Fr (fun _ => False) w w' := by
  go_enter Tryd.func19, Tryd.ntmps19
  go_wp2_with fail
  go_ret
  exact ⟨rfl, Fr.refl _ _⟩

theorem nil_keeps (w : World) : Calls Tryd.prog 20 #[.pointer none] w fun e w' => e = .returned (.slice none 0 0) ∧ Fr (fun _ => False) w w' := by
  go_enter Tryd.func20, Tryd.ntmps20
  go_wp2_with fail
  go_ret
  exact ⟨rfl, Fr.refl _ _⟩

theorem nil_between (w : World) (i j : Int) (l : Bool) : Calls Tryd.prog 25 #[.pointer none, .int .i64 i, .int .i64 j, .bool l] w fun e w' => e = .returned (.slice none 0 0) ∧ Fr (fun _ => False) w w' := by
  go_enter Tryd.func25, Tryd.ntmps25
  go_wp2_with fail
  go_ret
  exact ⟨rfl, Fr.refl _ _⟩

theorem nil_open (w : World) : Calls Tryd.prog 16 #[.pointer none, .agg #[.int .u64 0, .int .u64 0, .int .u64 0, .int .u64 0, .int .u64 0, .int .u64 0, .int .u64 0, .int .u64 0, .int .u64 0, .int .u64 0, .int .i64 0, .int .i64 0, .int .i64 0, .int .i64 0]] w fun e w' => e = .returned (.int .i64 2) ∧ Fr (fun _ => False) w w' := by
  go_enter Tryd.func16, Tryd.ntmps16
  go_wp2_with fail
  go_ret
  exact ⟨rfl, ((Fr.refl _ w).alloc _).alloc _⟩

theorem nil_keep (w : World) : Calls Tryd.prog 18 #[.pointer none, .agg #[.int .u64 0, .int .u64 0, .int .u64 0, .int .u64 0, .int .u64 0, .int .u64 0, .int .u64 0, .int .u64 0, .int .u64 0, .int .u64 0, .int .i64 0, .int .i64 0, .int .i64 0, .int .i64 0, .int .i64 0, .int .i64 0], .agg #[.int .u64 0, .int .u64 0, .int .u64 0, .int .u64 0, .int .u64 0, .int .u64 0, .int .u64 0, .int .u64 0, .int .u64 0, .int .u64 0, .int .i64 0, .int .i64 0, .int .i64 0, .int .i64 0, .int .i64 0, .int .i64 0], .bool true] w fun e w' => e = .returned (.int .i64 2) ∧ Fr (fun _ => False) w w' := by
  go_enter Tryd.func18, Tryd.ntmps18
  go_wp2_with fail
  go_ret
  exact ⟨rfl, (((Fr.refl _ w).alloc _).alloc _).alloc _⟩

theorem nil_turn (w : World) : Calls Tryd.prog 40 #[.pointer none, .agg #[.int .u64 0, .int .u64 0, .int .u64 0, .int .u64 0, .int .u64 0, .int .u64 0, .int .u64 0, .int .u64 0, .int .u64 0, .int .u64 0, .int .i64 0, .int .i64 0, .int .i64 0, .int .i64 0]] w fun e w' => e = .returned (.int .i64 2) ∧ Fr (fun _ => False) w w' := by
  have B0 := Lib.hid (heap_alloc_new w (.cells #[.int .u64 0, .int .u64 0, .int .u64 0, .int .u64 0, .int .u64 0, .int .u64 0, .int .u64 0, .int .u64 0, .int .u64 0, .int .u64 0, .int .i64 0, .int .i64 0, .int .i64 0, .int .i64 0] 26))
  have HA := Lib.hid (nil_account (w.alloc (.cells #[.int .u64 0, .int .u64 0, .int .u64 0, .int .u64 0, .int .u64 0, .int .u64 0, .int .u64 0, .int .u64 0, .int .u64 0, .int .u64 0, .int .i64 0, .int .i64 0, .int .i64 0, .int .i64 0] 26)) ⟨0, 0⟩)
  have F0 := Lib.hid ((Fr.refl (fun _ => False) w).alloc (.cells #[.int .u64 0, .int .u64 0, .int .u64 0, .int .u64 0, .int .u64 0, .int .u64 0, .int .u64 0, .int .u64 0, .int .u64 0, .int .u64 0, .int .i64 0, .int .i64 0, .int .i64 0, .int .i64 0] 26))
  go_enter Tryd.func40, Tryd.ntmps40
  go_wp2_with fail
  refine HA.out.mono ?_
  rintro e w1 ⟨rfl, f1⟩
  have B1 := Lib.hid (heap_alloc_new w1 (.cells #[.int .u64 0, .int .u64 0, .int .u64 0, .int .u64 0, .int .u64 0, .int .u64 0, .int .u64 0, .int .u64 0, .int .u64 0, .int .u64 0, .int .i64 0, .int .i64 0, .int .i64 0, .int .i64 0] 26))
  have F1 := Lib.hid ((F0.out.then_ f1 (fun _ h => h.elim)).alloc (.cells #[.int .u64 0, .int .u64 0, .int .u64 0, .int .u64 0, .int .u64 0, .int .u64 0, .int .u64 0, .int .u64 0, .int .u64 0, .int .u64 0, .int .i64 0, .int .i64 0, .int .i64 0, .int .i64 0] 26))
  have hz := Lib.hid (F0.out.then_ f1 (fun _ h => h.elim)).size
  clear f1
  go_wp2_with (first | ((refine wpList_store_row rfl 26 (.tmp 5) (.tmp 14) rfl w1.heap.size #[.int .u64 0, .int .u64 0, .int .u64 0, .int .u64 0, .int .u64 0, .int .u64 0, .int .u64 0, .int .u64 0, .int .u64 0, .int .u64 0, .int .i64 0, .int .i64 0, .int .i64 0, .int .i64 0] rfl rfl B1.out rfl rfl (by simp [Value.oneCell']) ?_); intro w9 hb9 f9; have F9 := Lib.hid f9; clear hb9 f9) | fail)
  go_ret
  exact ⟨rfl, F1.out.then_ F9.out (fun k hk => .inr (by have := hz.out; omega))⟩

theorem nil_end (w : World) (id : Nm) (i : Int) : Calls Tryd.prog 41 #[.pointer none, .agg #[.int .u64 id.hi, .int .u64 id.lo], .int .i64 i] w fun e w' => e = .returned (.int .i64 2) ∧ Fr (fun _ => False) w w' := by
  have FR := Lib.hid (((Fr.refl (fun _ => False) w).alloc (.cells #[.pointer none] 35)).alloc (.cells #[.int .u64 id.hi, .int .u64 id.lo] 24))
  have HA := Lib.hid (nil_kept ((w.alloc (.cells #[.pointer none] 35)).alloc (.cells #[.int .u64 id.hi, .int .u64 id.lo] 24)) id)
  have P0 := Lib.hid (show ((w.alloc (.cells #[.pointer none] 35)).alloc (.cells #[.int .u64 id.hi, .int .u64 id.lo] 24)).cell? ⟨w.heap.size, 0, none⟩ = some (.pointer none) from blk_cell (blk_alloc (heap_alloc_new w _) _) 0 rfl)
  go_enter Tryd.func41, Tryd.ntmps41
  have p0 := P0.out
  go_wp2_with fail
  refine HA.out.mono ?_
  rintro e w1 ⟨rfl, f1⟩
  clear p0
  have B1 := Lib.hid (heap_alloc_new w1 (.cells #[.int .u64 0, .int .u64 0, .int .u64 0, .int .u64 0, .int .u64 0, .int .u64 0, .int .u64 0, .int .u64 0, .int .u64 0, .int .u64 0, .int .i64 0, .int .i64 0, .int .i64 0, .int .i64 0, .int .i64 0, .int .i64 0, .int .u64 0, .int .u64 0, .int .u64 0, .int .u64 0, .int .u64 0, .int .u64 0, .int .u64 0, .int .u64 0, .int .u64 0, .int .u64 0, .int .i64 0, .int .i64 0, .int .i64 0, .int .i64 0, .int .i64 0, .int .i64 0, .int .i64 0] 63))
  have F1 := Lib.hid ((FR.out.then_ f1 (fun _ h => h.elim)).alloc (.cells #[.int .u64 0, .int .u64 0, .int .u64 0, .int .u64 0, .int .u64 0, .int .u64 0, .int .u64 0, .int .u64 0, .int .u64 0, .int .u64 0, .int .i64 0, .int .i64 0, .int .i64 0, .int .i64 0, .int .i64 0, .int .i64 0, .int .u64 0, .int .u64 0, .int .u64 0, .int .u64 0, .int .u64 0, .int .u64 0, .int .u64 0, .int .u64 0, .int .u64 0, .int .u64 0, .int .i64 0, .int .i64 0, .int .i64 0, .int .i64 0, .int .i64 0, .int .i64 0, .int .i64 0] 63))
  have hz := Lib.hid (FR.out.then_ f1 (fun _ h => h.elim)).size
  have hlt : w.heap.size < w1.heap.size := by have := f1.size; rw [World.size_alloc, World.size_alloc] at this; omega
  have p1 := ((Fr.refl (fun _ => False) w1).alloc (.cells #[.int .u64 0, .int .u64 0, .int .u64 0, .int .u64 0, .int .u64 0, .int .u64 0, .int .u64 0, .int .u64 0, .int .u64 0, .int .u64 0, .int .i64 0, .int .i64 0, .int .i64 0, .int .i64 0, .int .i64 0, .int .i64 0, .int .u64 0, .int .u64 0, .int .u64 0, .int .u64 0, .int .u64 0, .int .u64 0, .int .u64 0, .int .u64 0, .int .u64 0, .int .u64 0, .int .i64 0, .int .i64 0, .int .i64 0, .int .i64 0, .int .i64 0, .int .i64 0, .int .i64 0] 63)).cell (f1.cell P0.out (fun h => h)) (fun h => h)
  have Hp := Lib.hid (fun w9 (f : Fr (fun k => k = w1.heap.size) (w1.alloc (.cells #[.int .u64 0, .int .u64 0, .int .u64 0, .int .u64 0, .int .u64 0, .int .u64 0, .int .u64 0, .int .u64 0, .int .u64 0, .int .u64 0, .int .i64 0, .int .i64 0, .int .i64 0, .int .i64 0, .int .i64 0, .int .i64 0, .int .u64 0, .int .u64 0, .int .u64 0, .int .u64 0, .int .u64 0, .int .u64 0, .int .u64 0, .int .u64 0, .int .u64 0, .int .u64 0, .int .i64 0, .int .i64 0, .int .i64 0, .int .i64 0, .int .i64 0, .int .i64 0, .int .i64 0] 63)) w9) => f.cell p1 (fun h => absurd h (Nat.ne_of_lt hlt)))
  clear f1 p1 hlt
  go_wp2_with (first | ((refine wpList_store_row rfl 63 (.tmp 7) (.tmp 17) rfl w1.heap.size #[.int .u64 0, .int .u64 0, .int .u64 0, .int .u64 0, .int .u64 0, .int .u64 0, .int .u64 0, .int .u64 0, .int .u64 0, .int .u64 0, .int .i64 0, .int .i64 0, .int .i64 0, .int .i64 0, .int .i64 0, .int .i64 0, .int .u64 0, .int .u64 0, .int .u64 0, .int .u64 0, .int .u64 0, .int .u64 0, .int .u64 0, .int .u64 0, .int .u64 0, .int .u64 0, .int .i64 0, .int .i64 0, .int .i64 0, .int .i64 0, .int .i64 0, .int .i64 0, .int .i64 0] rfl rfl B1.out rfl rfl (by simp [Value.oneCell']) ?_); intro w9 hb9 f9; have F9 := Lib.hid f9; have p9 := Hp.out w9 f9; clear hb9 f9) | fail)
  go_ret
  exact ⟨rfl, F1.out.then_ F9.out (fun k hk => .inr (by have := hz.out; omega))⟩

end Go.Proofs.YtjchjpmgbmeohaaDoor

/- BooksDoes. -/
set_option linter.unusedSimpArgs false
set_option linter.unusedVariables false
namespace Go.Proofs.YtjchjpmgbmeohaaDoor
open Go.RowKit

def FndP {α : Type} (w : World) (xs : List α) (o : Option α) (v : Value) (w' : World) : Prop := ∃ i, v = .int .i64 i ∧ FndZ xs o i ∧ Fr (fun _ => False) w w'
theorem wpList_load_mid_w {P : Program} {ops : Array Oper} {rest : List Oper} {op : Oper} {a : Act} {w : World} {Q : Exit → Act → World → Prop} (hw : Region.wanted op (yielded ops a.tmps) = true) (ty : TypeId) (x : Operand) (ho : op.op = .load ty x)
    (b o : Nat) (hx : a.eval x = .pointer (some ⟨b, o, none⟩)) (cs : List Value) (d : TypeDesc) (hc : w.rangeAt b o cs)
    (hu : P.underlying ty = some d) (hd : d.isRow = true) (hi : (P.info? ty).map (·.size) = some cs.length)
    (h : wpList P ops Q rest (a.put op.dst (.agg cs.toArray)) w) : wpList P ops Q (op :: rest) a w :=
  wpList_step fun K hK => by
    rw [if_pos hw]
    exact wp_load_mid ty x ho b o hx cs d hc hu hd hi (hK _ _ h)

attribute [-go_sem] loadCells
set_option maxRecDepth 8000 in
set_option maxHeartbeats 25600000 in
theorem does15_any (w : World) (hm : Most w) (a : Option Addr) (cap : Nat) (cs : List Cl) (id : Nm) (hs : Scr w a cs) (hn : cs.length ≤ 140737488355328) :
    Calls Tryd.prog 8 #[.slice a cs.length cap, .agg #[.int .u64 id.hi, .int .u64 id.lo]] w fun e w' => e = .returned (.bool true) ∧ Fr (fun _ => False) w w' := by
  have F0 := Lib.hid ((Fr.refl (fun _ => False) w).alloc (.cells #[.int .u64 id.hi, .int .u64 id.lo] 24))
  have HBi := Lib.hid (heap_alloc_new w (.cells #[.int .u64 id.hi, .int .u64 id.lo] 24))
  obtain ⟨gi, hgi⟩ : ∃ g, w.heap.size = g := ⟨_, rfl⟩
  rw [hgi] at HBi
  have HAl := Lib.hid (alive15_any (w.alloc (.cells #[.int .u64 id.hi, .int .u64 id.lo] 24)) (hm.fr F0.out (fun h => h)))
  have HGr := Lib.hid (fun W (f : Fr (fun _ => False) w W) => great_any W a cap cs (hs.fr f) hn)
  have HSt := Lib.hid (fun W => start_any W)
  have HS := Lib.hid hs
  obtain ⟨n, hnl⟩ : ∃ n, cs.length = n := ⟨_, rfl⟩
  have HN := Lib.hid hnl
  rw [hnl] at HGr
  rw [hnl]
  clear hs hnl hn
  go_enter Tryd.func8, Tryd.ntmps8
  go_wp2_with fail
  refine HAl.out.mono ?_
  rintro e w1 ⟨rfl, f1⟩
  clear hgi
  have F1 := Lib.hid (F0.out.then_ f1 (fun _ h => h.elim))
  have HBi1 := Lib.hid (f1.blk HBi.out (fun h => h))
  clear f1
  go_wp2_with fail
  refine (HGr.out w1 F1.out).mono ?_
  rintro e w2 ⟨⟨gr, rfl, hgr⟩, f2⟩
  have F2 := Lib.hid (F1.out.then_ f2 (fun _ h => h.elim))
  have HBi2 := Lib.hid (f2.blk HBi1.out (fun h => h))
  clear f2
  cases gr with
  | true =>
    clear hgr
    go_wp2_with fail
    go_ret
    exact ⟨rfl, F2.out⟩
  | false =>
  have hn : n ≤ 200 := hgr rfl
  clear hgr
  go_wp2_with fail
  refine (HSt.out w2).mono ?_
  rintro e w4 ⟨b, d, M0, rfl, h4⟩
  have H4 := Lib.hid h4
  clear h4
  go_wp2_with fail
  go_loopw [31] (fun iv wr => ∃ j : Nat, j ≤ n ∧ iv = .int .i64 j ∧ ∃ M r es ms, Bt (fun _ => False) w2 wr b d M r es (8 * j) r.rm ms ∧ Good r ∧ MkOk r es ms ∧ ms.length ≤ j) (fun iv _ => ((n : Int) - intOf iv).toNat)
  case atStart => exact ⟨0, by omega, rfl, M0, Raw.empty, [], [], H4.out, good_empty, trivial, Nat.le_refl _⟩
  case round =>
    obtain ⟨j, hj, rfl, M, r, es, ms, hb, hg, hmk, hml⟩ := hrel
    have HBt := Lib.hid hb
    have HG := Lib.hid hg
    have HMk := Lib.hid hmk
    by_cases hjm : j < n
    · have hjI : (j : Int) < n := by omega
      have hjJ : (0 : Int) ≤ j := by omega
      obtain ⟨g, off, rfl, hr⟩ := scr_at (HS.out.fr (F2.out.then_ hb.old0 (fun _ h => h.elim))) (show j < cs.length from by rw [HN.out]; exact hjm)
      obtain ⟨x, hx⟩ : ∃ x, cs[j]'(by rw [HN.out]; exact hjm) = x := ⟨_, rfl⟩
      rw [hx] at hr
      have HR := Lib.hid (World.rangeAt_alloc hr (.cells #[.int .i64 0, .int .u64 0, .int .u64 0, .int .u64 0, .int .u64 0, .int .u64 0, .int .u64 0, .int .u64 0, .int .u64 0, .int .u64 0, .int .u64 0, .int .i64 0, .int .i64 0, .int .i64 0, .int .i64 0, .int .u64 0, .int .u64 0, .int .u64 0, .int .u64 0, .int .u64 0, .int .u64 0, .int .u64 0, .int .u64 0, .int .u64 0, .int .u64 0, .int .i64 0, .int .i64 0, .int .i64 0, .int .i64 0, .int .i64 0, .int .i64 0, .int .u64 0, .int .u64 0, .int .u64 0, .int .u64 0, .int .u64 0, .int .u64 0, .int .u64 0, .int .u64 0, .int .u64 0, .int .u64 0, .int .i64 0, .int .i64 0, .int .i64 0, .int .i64 0, .int .i64 0, .int .i64 0, .bool false, .int .u64 0, .int .u64 0, .int .i64 0] 53))
      have HR0 := Lib.hid hr
      have HBz := Lib.hid (heap_alloc_new wr (.cells #[.int .i64 0, .int .u64 0, .int .u64 0, .int .u64 0, .int .u64 0, .int .u64 0, .int .u64 0, .int .u64 0, .int .u64 0, .int .u64 0, .int .u64 0, .int .i64 0, .int .i64 0, .int .i64 0, .int .i64 0, .int .u64 0, .int .u64 0, .int .u64 0, .int .u64 0, .int .u64 0, .int .u64 0, .int .u64 0, .int .u64 0, .int .u64 0, .int .u64 0, .int .i64 0, .int .i64 0, .int .i64 0, .int .i64 0, .int .i64 0, .int .i64 0, .int .u64 0, .int .u64 0, .int .u64 0, .int .u64 0, .int .u64 0, .int .u64 0, .int .u64 0, .int .u64 0, .int .u64 0, .int .u64 0, .int .i64 0, .int .i64 0, .int .i64 0, .int .i64 0, .int .i64 0, .int .i64 0, .bool false, .int .u64 0, .int .u64 0, .int .i64 0] 53))
      have w1' : IntKind.i64.wrap ((j : Int) + 1) = j + 1 := IntWalk.i64_in _ (by omega)
      clear hr hx
      clear hb hg hmk
      go_upto_region 9 with (first | (refine wpList_load_mid rfl 53 (.tmp 33) rfl g (off + j * 51) rfl _ _ HR0.out Tryd.underlying53 rfl rfl ?_) | (refine wpList_load_mid rfl 53 (.tmp 33) rfl g (off + j * 51) rfl _ _ HR.out Tryd.underlying53 rfl rfl ?_) | ((refine wpList_store_row rfl 53 (.tmp 7) (.tmp 34) rfl wr.heap.size x.cells.toArray rfl rfl HBz.out rfl rfl (cl_one x) ?_); intro w9 hb9 f9; have HB9 := Lib.hid hb9; have F9 := Lib.hid f9; clear hb9 f9) | fail)
      have G9 := Lib.hid (((Fr.refl (fun _ => False) wr).alloc (.cells #[.int .i64 0, .int .u64 0, .int .u64 0, .int .u64 0, .int .u64 0, .int .u64 0, .int .u64 0, .int .u64 0, .int .u64 0, .int .u64 0, .int .u64 0, .int .i64 0, .int .i64 0, .int .i64 0, .int .i64 0, .int .u64 0, .int .u64 0, .int .u64 0, .int .u64 0, .int .u64 0, .int .u64 0, .int .u64 0, .int .u64 0, .int .u64 0, .int .u64 0, .int .i64 0, .int .i64 0, .int .i64 0, .int .i64 0, .int .i64 0, .int .i64 0, .int .u64 0, .int .u64 0, .int .u64 0, .int .u64 0, .int .u64 0, .int .u64 0, .int .u64 0, .int .u64 0, .int .u64 0, .int .u64 0, .int .i64 0, .int .i64 0, .int .i64 0, .int .i64 0, .int .i64 0, .int .i64 0, .bool false, .int .u64 0, .int .u64 0, .int .i64 0] 53)).then_ F9.out (fun k hk => .inr (by omega)))
      have HBt9 := Lib.hid (HBt.out.frF G9.out)
      have HDo := Lib.hid (does_any HBt9.out HG.out HMk.out (by omega) (by omega) x)
      go_wp2_with (first | ((with_reducible refine wpList_load_row_w ?lw 53 _ rfl wr.heap.size rfl 53 _ _ _ HB9.out Tryd.underlying53 rfl rfl ?_); (case lw => rfl)) | fail)
      refine HDo.out.mono ?_
      rintro e w10 ⟨rfl, M, r, es, ms, h', g', mk', -, -, hl'⟩
      clear HG HMk HBt HBt9 HDo HR HR0 HB9 F9 G9 HBz
      have H10 := Lib.hid h'
      have HG := Lib.hid g'
      have HMk := Lib.hid mk'
      clear h' g' mk'
      go_wp2_with fail
      refine (same_any H10.out HG.out).mono ?_
      rintro e w5 ⟨rfl, f5⟩
      have HB5 := Lib.hid (H10.out.frF f5)
      clear f5
      have HF5 := Lib.hid (HB5.out.old0)
      have hbi5 := HF5.out.blk HBi2.out (fun h => h)
      have HI0 := Lib.hid (show w5.cell? ⟨gi, 0, none⟩ = some (.int .u64 id.hi) from blk_cell hbi5 0 rfl)
      have HI1 := Lib.hid (show w5.cell? ⟨gi, 1, none⟩ = some (.int .u64 id.lo) from blk_cell hbi5 1 rfl)
      have HB0 := Lib.hid HB5.out.cells.1
      have HB1 := Lib.hid HB5.out.cells.2
      obtain ⟨Q2, hQ2⟩ := HB5.out.cur
      have HMS := Lib.hid hQ2
      obtain ⟨av, kv, hbM, har, hkr, -⟩ := hQ2
      have har : w5.ownsRow 0 26 14 av r.accs.length (r.accs.flatMap Acc.cells) := har
      have hkr : w5.ownsRow 0 63 33 kv r.kept.length (r.kept.flatMap Kp.cells) := hkr
      obtain ⟨aa, capa, rfl, -, -⟩ := own_form har
      obtain ⟨ak, capk, rfl, -, -⟩ := own_form hkr
      have HMb := Lib.hid hbM
      have HAr := Lib.hid har
      have HKr := Lib.hid hkr
      obtain ⟨C1, hC1⟩ : ∃ C, ((keptR r id).getD Kp.zero).cells.toArray = C := ⟨_, rfl⟩
      have C1s : C1.size = 33 := by rw [← hC1]; rfl
      have HC1o := Lib.hid (show C1.all (·.oneCell') = true from by rw [← hC1]; simp [Kp.cells, Tx.cells, Value.oneCell'])
      obtain ⟨bk, hbk⟩ : ∃ x, (keptR r id).isSome = x := ⟨_, rfl⟩
      obtain ⟨C2, hC2⟩ : ∃ C, ((acctR r id).getD Acc.zero).cells.toArray = C := ⟨_, rfl⟩
      have C2s : C2.size = 14 := by rw [← hC2]; rfl
      have HC2o := Lib.hid (show C2.all (·.oneCell') = true from by rw [← hC2]; simp [Acc.cells, Value.oneCell'])
      obtain ⟨ba, hba⟩ : ∃ x, (acctR r id).isSome = x := ⟨_, rfl⟩
      have hKp := fun W (f : Fr (fun _ => False) w5 W) => btKept (HB5.out.frF f) HG.out id
      rw [hC1, hbk] at hKp
      have HKp := Lib.hid hKp
      have hAc := fun W (f : Fr (fun _ => False) w5 W) => btAcct (HB5.out.frF f) HG.out id
      rw [hC2, hba] at hAc
      have HAc := Lib.hid hAc
      have HNm := Lib.hid (fun W (f : Fr (fun _ => False) w5 W) => rmName (HMS.out.fr f (fun _ _ h => h)) HG.out id)
      have HAn := Lib.hid (fun W (f : Fr (fun _ => False) w5 W) => rmAcct (HMS.out.fr f (fun _ _ h => h)) HG.out id)
      have HC1 := Lib.hid hC1
      have HC2 := Lib.hid hC2
      have HBk1 := Lib.hid hbk
      have HBa1 := Lib.hid hba
      have FA := Lib.hid (Fr.refl (fun _ => False) w5)
      clear hbi5 hbM har hkr hC1 hbk hC2 hba hKp hAc
      go_upto_region 11 with fail
      have b0 := FA.out.cell HB0.out (fun h => h)
      have i0 := FA.out.cell HI0.out (fun h => h)
      have i1 := FA.out.cell HI1.out (fun h => h)
      have li := ld_nm (P := Tryd.prog) (W := w5.drew) i0 i1
      go_cut [8, 9] from 44 to 154 (fun va vb w' => BoxP w5 26 C2 ba va vb w')
      case first =>
        have Fy := Lib.hid (show Fr (fun _ => False) w5 w5.drew from (Fr.refl _ _).drew)
        have Fz := Lib.hid (show Fr (fun _ => False) w5 (w5.alloc (.cells #[.int .u64 0, .int .u64 0, .int .u64 0, .int .u64 0, .int .u64 0, .int .u64 0, .int .u64 0, .int .u64 0, .int .u64 0, .int .u64 0, .int .i64 0, .int .i64 0, .int .i64 0, .int .i64 0] 26)).drew from ((Fr.refl (fun _ => False) w5).alloc (.cells #[.int .u64 0, .int .u64 0, .int .u64 0, .int .u64 0, .int .u64 0, .int .u64 0, .int .u64 0, .int .u64 0, .int .u64 0, .int .u64 0, .int .i64 0, .int .i64 0, .int .i64 0, .int .i64 0] 26)).drew)
        have BZz := Lib.hid (blk_drew (heap_alloc_new w5 (.cells #[.int .u64 0, .int .u64 0, .int .u64 0, .int .u64 0, .int .u64 0, .int .u64 0, .int .u64 0, .int .u64 0, .int .u64 0, .int .u64 0, .int .i64 0, .int .i64 0, .int .i64 0, .int .i64 0] 26)))
        have FYy := Lib.hid (FA.out.then_ Fy.out (fun _ h => h.elim))
        have FZz := Lib.hid (FA.out.then_ Fz.out (fun _ h => h.elim))
        have c0 := Fz.out.cell b0 (fun h => h)
        have lj := ld_nm (P := Tryd.prog) (W := (w5.alloc (.cells #[.int .u64 0, .int .u64 0, .int .u64 0, .int .u64 0, .int .u64 0, .int .u64 0, .int .u64 0, .int .u64 0, .int .u64 0, .int .u64 0, .int .i64 0, .int .i64 0, .int .i64 0, .int .i64 0] 26)).drew) (Fz.out.cell i0 (fun h => h)) (Fz.out.cell i1 (fun h => h))
        go_region_held3 (fun w' => w'.cell? ⟨b, 0, none⟩ = some (Value.pointer (some ⟨d.B, 0, none⟩)) ∧ (loadCells ⟨gi, 0, none⟩ 2).run Tryd.prog w' = .ok #[.int .u64 id.hi, .int .u64 id.lo] w')
          (first | exact ⟨b0, li⟩ | exact ⟨q0, lq⟩ | exact ⟨s0, ls⟩ | exact ⟨t0, lt⟩ | exact ⟨c0, lj⟩)
          (first
            | (go_at_call 32; (with_reducible refine (HAc.out _ FYy.out).mono ?_); rintro e w8 ⟨rfl, f8⟩; have g8 := Fy.out.then_ f8 (fun _ h => h.elim); have q0 := g8.cell b0 (fun h => h); have lq := ld_nm (P := Tryd.prog) (W := w8) (g8.cell i0 (fun h => h)) (g8.cell i1 (fun h => h)); have g8a := g8.alloc (.cells #[.int .u64 0, .int .u64 0, .int .u64 0, .int .u64 0, .int .u64 0, .int .u64 0, .int .u64 0, .int .u64 0, .int .u64 0, .int .u64 0, .int .i64 0, .int .i64 0, .int .i64 0, .int .i64 0] 26); have t0 := g8a.cell b0 (fun h => h); have lt := ld_nm (P := Tryd.prog) (W := w8.alloc (.cells #[.int .u64 0, .int .u64 0, .int .u64 0, .int .u64 0, .int .u64 0, .int .u64 0, .int .u64 0, .int .u64 0, .int .u64 0, .int .u64 0, .int .i64 0, .int .i64 0, .int .i64 0, .int .i64 0] 26)) (g8a.cell i0 (fun h => h)) (g8a.cell i1 (fun h => h)); obtain ⟨W9, hse, hb9, f9⟩ := st_over (P := Tryd.prog) (w8.alloc (.cells #[.int .u64 0, .int .u64 0, .int .u64 0, .int .u64 0, .int .u64 0, .int .u64 0, .int .u64 0, .int .u64 0, .int .u64 0, .int .u64 0, .int .i64 0, .int .i64 0, .int .i64 0, .int .i64 0] 26)) (C := C2) (heap_alloc_new w8 (.cells #[.int .u64 0, .int .u64 0, .int .u64 0, .int .u64 0, .int .u64 0, .int .u64 0, .int .u64 0, .int .u64 0, .int .u64 0, .int .u64 0, .int .i64 0, .int .i64 0, .int .i64 0, .int .i64 0] 26)) (by rw [C2s]; rfl) HC2o.out; have f9' := ((Fr.refl (fun _ => False) w8).alloc (.cells #[.int .u64 0, .int .u64 0, .int .u64 0, .int .u64 0, .int .u64 0, .int .u64 0, .int .u64 0, .int .u64 0, .int .u64 0, .int .u64 0, .int .i64 0, .int .i64 0, .int .i64 0, .int .i64 0] 26)).then_ f9 (fun k hk => .inr (by omega)); have g9 := g8.then_ f9' (fun _ h => h.elim); have s0 := g9.cell b0 (fun h => h); have ls := ld_nm (P := Tryd.prog) (W := W9) (g9.cell i0 (fun h => h)) (g9.cell i1 (fun h => h)); have F89 := Lib.hid g9; have HB9 := Lib.hid hb9; clear f8 f9 f9' hb9 g8 g8a g9)
            | (go_at_call 32; (with_reducible refine (HAc.out _ FZz.out).mono ?_); rintro e w8 ⟨rfl, f8⟩; have g8 := Fz.out.then_ f8 (fun _ h => h.elim); have bz8 := f8.blk BZz.out (fun h => h); have q0 := g8.cell b0 (fun h => h); have lq := ld_nm (P := Tryd.prog) (W := w8) (g8.cell i0 (fun h => h)) (g8.cell i1 (fun h => h)); obtain ⟨W9, hse, hb9, f9⟩ := st_over (P := Tryd.prog) w8 (C := C2) bz8 (by rw [C2s]; rfl) HC2o.out; have g9 := g8.then_ f9 (fun k hk => .inr (by omega)); have s0 := g9.cell b0 (fun h => h); have ls := ld_nm (P := Tryd.prog) (W := W9) (g9.cell i0 (fun h => h)) (g9.cell i1 (fun h => h)); have F89 := Lib.hid g9; have HB9 := Lib.hid hb9; clear f8 f9 hb9 g8 bz8 g9))
        all_goals
          clear hse
          go_wp2_with fail
          go_meet
          exact ⟨_, rfl, rfl, HB9.out, F89.out⟩
      case rest =>
      obtain ⟨g8, rfl, rfl, hb14, f6⟩ := hcut
      have HX8 := Lib.hid hb14
      have FB := Lib.hid f6
      clear hb14 f6 b0 i0 i1 li
      rename World => w6
      go_upto_region 12 with fail
      have b1 := FB.out.cell HB1.out (fun h => h)
      have i0 := FB.out.cell HI0.out (fun h => h)
      have i1 := FB.out.cell HI1.out (fun h => h)
      have hld : ∀ W, Fr (fun _ => False) w6 W → W.cell? ⟨b, 1, none⟩ = some (Value.pointer (some ⟨M, 0, none⟩)) ∧ (loadCells ⟨gi, 0, none⟩ 2).run Tryd.prog W = .ok #[.int .u64 id.hi, .int .u64 id.lo] W := fun W f => ⟨f.cell b1 (fun h => h), ld_nm (f.cell i0 (fun h => h)) (f.cell i1 (fun h => h))⟩
      have HLd := Lib.hid hld
      clear hld b1 i0 i1
      go_cut [10] from 53 to 154 (fun va w' => FndP w6 r.accs (acctR r id) va w')
      case first =>
        have FW0 := Lib.hid ((Fr.refl (fun _ => False) w6).drew)
        have FAn := Lib.hid (FB.out.then_ FW0.out (fun _ h => h.elim))
        go_region_held3 (fun w' => w'.cell? ⟨b, 1, none⟩ = some (Value.pointer (some ⟨M, 0, none⟩)) ∧ (loadCells ⟨gi, 0, none⟩ 2).run Tryd.prog w' = .ok #[.int .u64 id.hi, .int .u64 id.lo] w')
          (first | exact HLd.out _ FW0.out | exact HLd.out _ FW1.out | go_keep)
          (first | (go_at_call 35; go_must (with_reducible refine (HAn.out _ FAn.out).mono ?_); rintro e w12 ⟨⟨i3, rfl, hi3⟩, f12⟩; have FW1 := Lib.hid (FW0.out.then_ f12 (fun _ h => h.elim)); have HI3 := Lib.hid hi3; clear f12 hi3))
        all_goals
          go_wp2_with fail
          go_meet
          exact ⟨_, rfl, HI3.out, FW1.out⟩
      case rest =>
      obtain ⟨ia, rfl, hix, fx⟩ := hcut
      have HIa := Lib.hid hix
      have FC := Lib.hid (FB.out.then_ fx (fun _ h => h.elim))
      have fx' := Lib.hid fx
      clear hix fx HLd
      rename World => w7
      have HX8 := Lib.hid (fx'.out.blk HX8.out (fun h => h))
      clear fx'
      go_upto_region 13 with fail
      have b0 := FC.out.cell HB0.out (fun h => h)
      have i0 := FC.out.cell HI0.out (fun h => h)
      have i1 := FC.out.cell HI1.out (fun h => h)
      have li := ld_nm (P := Tryd.prog) (W := w7.drew) i0 i1
      go_cut [11, 12] from 59 to 154 (fun va vb w' => BoxP w7 63 C1 bk va vb w')
      case first =>
        have Fy := Lib.hid (show Fr (fun _ => False) w7 w7.drew from (Fr.refl _ _).drew)
        have Fz := Lib.hid (show Fr (fun _ => False) w7 (w7.alloc (.cells #[.int .u64 0, .int .u64 0, .int .u64 0, .int .u64 0, .int .u64 0, .int .u64 0, .int .u64 0, .int .u64 0, .int .u64 0, .int .u64 0, .int .i64 0, .int .i64 0, .int .i64 0, .int .i64 0, .int .i64 0, .int .i64 0, .int .u64 0, .int .u64 0, .int .u64 0, .int .u64 0, .int .u64 0, .int .u64 0, .int .u64 0, .int .u64 0, .int .u64 0, .int .u64 0, .int .i64 0, .int .i64 0, .int .i64 0, .int .i64 0, .int .i64 0, .int .i64 0, .int .i64 0] 63)).drew from ((Fr.refl (fun _ => False) w7).alloc (.cells #[.int .u64 0, .int .u64 0, .int .u64 0, .int .u64 0, .int .u64 0, .int .u64 0, .int .u64 0, .int .u64 0, .int .u64 0, .int .u64 0, .int .i64 0, .int .i64 0, .int .i64 0, .int .i64 0, .int .i64 0, .int .i64 0, .int .u64 0, .int .u64 0, .int .u64 0, .int .u64 0, .int .u64 0, .int .u64 0, .int .u64 0, .int .u64 0, .int .u64 0, .int .u64 0, .int .i64 0, .int .i64 0, .int .i64 0, .int .i64 0, .int .i64 0, .int .i64 0, .int .i64 0] 63)).drew)
        have BZz := Lib.hid (blk_drew (heap_alloc_new w7 (.cells #[.int .u64 0, .int .u64 0, .int .u64 0, .int .u64 0, .int .u64 0, .int .u64 0, .int .u64 0, .int .u64 0, .int .u64 0, .int .u64 0, .int .i64 0, .int .i64 0, .int .i64 0, .int .i64 0, .int .i64 0, .int .i64 0, .int .u64 0, .int .u64 0, .int .u64 0, .int .u64 0, .int .u64 0, .int .u64 0, .int .u64 0, .int .u64 0, .int .u64 0, .int .u64 0, .int .i64 0, .int .i64 0, .int .i64 0, .int .i64 0, .int .i64 0, .int .i64 0, .int .i64 0] 63)))
        have FYy := Lib.hid (FC.out.then_ Fy.out (fun _ h => h.elim))
        have FZz := Lib.hid (FC.out.then_ Fz.out (fun _ h => h.elim))
        have c0 := Fz.out.cell b0 (fun h => h)
        have lj := ld_nm (P := Tryd.prog) (W := (w7.alloc (.cells #[.int .u64 0, .int .u64 0, .int .u64 0, .int .u64 0, .int .u64 0, .int .u64 0, .int .u64 0, .int .u64 0, .int .u64 0, .int .u64 0, .int .i64 0, .int .i64 0, .int .i64 0, .int .i64 0, .int .i64 0, .int .i64 0, .int .u64 0, .int .u64 0, .int .u64 0, .int .u64 0, .int .u64 0, .int .u64 0, .int .u64 0, .int .u64 0, .int .u64 0, .int .u64 0, .int .i64 0, .int .i64 0, .int .i64 0, .int .i64 0, .int .i64 0, .int .i64 0, .int .i64 0] 63)).drew) (Fz.out.cell i0 (fun h => h)) (Fz.out.cell i1 (fun h => h))
        go_region_held3 (fun w' => w'.cell? ⟨b, 0, none⟩ = some (Value.pointer (some ⟨d.B, 0, none⟩)) ∧ (loadCells ⟨gi, 0, none⟩ 2).run Tryd.prog w' = .ok #[.int .u64 id.hi, .int .u64 id.lo] w')
          (first | exact ⟨b0, li⟩ | exact ⟨q0, lq⟩ | exact ⟨s0, ls⟩ | exact ⟨t0, lt⟩ | exact ⟨c0, lj⟩)
          (first
            | (go_at_call 30; (with_reducible refine (HKp.out _ FYy.out).mono ?_); rintro e w8 ⟨rfl, f8⟩; have g8 := Fy.out.then_ f8 (fun _ h => h.elim); have q0 := g8.cell b0 (fun h => h); have lq := ld_nm (P := Tryd.prog) (W := w8) (g8.cell i0 (fun h => h)) (g8.cell i1 (fun h => h)); have g8a := g8.alloc (.cells #[.int .u64 0, .int .u64 0, .int .u64 0, .int .u64 0, .int .u64 0, .int .u64 0, .int .u64 0, .int .u64 0, .int .u64 0, .int .u64 0, .int .i64 0, .int .i64 0, .int .i64 0, .int .i64 0, .int .i64 0, .int .i64 0, .int .u64 0, .int .u64 0, .int .u64 0, .int .u64 0, .int .u64 0, .int .u64 0, .int .u64 0, .int .u64 0, .int .u64 0, .int .u64 0, .int .i64 0, .int .i64 0, .int .i64 0, .int .i64 0, .int .i64 0, .int .i64 0, .int .i64 0] 63); have t0 := g8a.cell b0 (fun h => h); have lt := ld_nm (P := Tryd.prog) (W := w8.alloc (.cells #[.int .u64 0, .int .u64 0, .int .u64 0, .int .u64 0, .int .u64 0, .int .u64 0, .int .u64 0, .int .u64 0, .int .u64 0, .int .u64 0, .int .i64 0, .int .i64 0, .int .i64 0, .int .i64 0, .int .i64 0, .int .i64 0, .int .u64 0, .int .u64 0, .int .u64 0, .int .u64 0, .int .u64 0, .int .u64 0, .int .u64 0, .int .u64 0, .int .u64 0, .int .u64 0, .int .i64 0, .int .i64 0, .int .i64 0, .int .i64 0, .int .i64 0, .int .i64 0, .int .i64 0] 63)) (g8a.cell i0 (fun h => h)) (g8a.cell i1 (fun h => h)); obtain ⟨W9, hse, hb9, f9⟩ := st_over (P := Tryd.prog) (w8.alloc (.cells #[.int .u64 0, .int .u64 0, .int .u64 0, .int .u64 0, .int .u64 0, .int .u64 0, .int .u64 0, .int .u64 0, .int .u64 0, .int .u64 0, .int .i64 0, .int .i64 0, .int .i64 0, .int .i64 0, .int .i64 0, .int .i64 0, .int .u64 0, .int .u64 0, .int .u64 0, .int .u64 0, .int .u64 0, .int .u64 0, .int .u64 0, .int .u64 0, .int .u64 0, .int .u64 0, .int .i64 0, .int .i64 0, .int .i64 0, .int .i64 0, .int .i64 0, .int .i64 0, .int .i64 0] 63)) (C := C1) (heap_alloc_new w8 (.cells #[.int .u64 0, .int .u64 0, .int .u64 0, .int .u64 0, .int .u64 0, .int .u64 0, .int .u64 0, .int .u64 0, .int .u64 0, .int .u64 0, .int .i64 0, .int .i64 0, .int .i64 0, .int .i64 0, .int .i64 0, .int .i64 0, .int .u64 0, .int .u64 0, .int .u64 0, .int .u64 0, .int .u64 0, .int .u64 0, .int .u64 0, .int .u64 0, .int .u64 0, .int .u64 0, .int .i64 0, .int .i64 0, .int .i64 0, .int .i64 0, .int .i64 0, .int .i64 0, .int .i64 0] 63)) (by rw [C1s]; rfl) HC1o.out; have f9' := ((Fr.refl (fun _ => False) w8).alloc (.cells #[.int .u64 0, .int .u64 0, .int .u64 0, .int .u64 0, .int .u64 0, .int .u64 0, .int .u64 0, .int .u64 0, .int .u64 0, .int .u64 0, .int .i64 0, .int .i64 0, .int .i64 0, .int .i64 0, .int .i64 0, .int .i64 0, .int .u64 0, .int .u64 0, .int .u64 0, .int .u64 0, .int .u64 0, .int .u64 0, .int .u64 0, .int .u64 0, .int .u64 0, .int .u64 0, .int .i64 0, .int .i64 0, .int .i64 0, .int .i64 0, .int .i64 0, .int .i64 0, .int .i64 0] 63)).then_ f9 (fun k hk => .inr (by omega)); have g9 := g8.then_ f9' (fun _ h => h.elim); have s0 := g9.cell b0 (fun h => h); have ls := ld_nm (P := Tryd.prog) (W := W9) (g9.cell i0 (fun h => h)) (g9.cell i1 (fun h => h)); have F89 := Lib.hid g9; have HB9 := Lib.hid hb9; clear f8 f9 f9' hb9 g8 g8a g9)
            | (go_at_call 30; (with_reducible refine (HKp.out _ FZz.out).mono ?_); rintro e w8 ⟨rfl, f8⟩; have g8 := Fz.out.then_ f8 (fun _ h => h.elim); have bz8 := f8.blk BZz.out (fun h => h); have q0 := g8.cell b0 (fun h => h); have lq := ld_nm (P := Tryd.prog) (W := w8) (g8.cell i0 (fun h => h)) (g8.cell i1 (fun h => h)); obtain ⟨W9, hse, hb9, f9⟩ := st_over (P := Tryd.prog) w8 (C := C1) bz8 (by rw [C1s]; rfl) HC1o.out; have g9 := g8.then_ f9 (fun k hk => .inr (by omega)); have s0 := g9.cell b0 (fun h => h); have ls := ld_nm (P := Tryd.prog) (W := W9) (g9.cell i0 (fun h => h)) (g9.cell i1 (fun h => h)); have F89 := Lib.hid g9; have HB9 := Lib.hid hb9; clear f8 f9 hb9 g8 bz8 g9))
        all_goals
          clear hse
          go_wp2_with fail
          go_meet
          exact ⟨_, rfl, rfl, HB9.out, F89.out⟩
      case rest =>
      obtain ⟨g11, rfl, rfl, hb14, f6⟩ := hcut
      have HX8 := Lib.hid (f6.blk HX8.out (fun h => h))
      have HX11 := Lib.hid hb14
      have FD := Lib.hid (FC.out.then_ f6 (fun _ h => h.elim))
      clear hb14 f6 b0 i0 i1 li
      rename World => w8
      go_upto_region 14 with fail
      have b1 := FD.out.cell HB1.out (fun h => h)
      have i0 := FD.out.cell HI0.out (fun h => h)
      have i1 := FD.out.cell HI1.out (fun h => h)
      have hld : ∀ W, Fr (fun _ => False) w8 W → W.cell? ⟨b, 1, none⟩ = some (Value.pointer (some ⟨M, 0, none⟩)) ∧ (loadCells ⟨gi, 0, none⟩ 2).run Tryd.prog W = .ok #[.int .u64 id.hi, .int .u64 id.lo] W := fun W f => ⟨f.cell b1 (fun h => h), ld_nm (f.cell i0 (fun h => h)) (f.cell i1 (fun h => h))⟩
      have HLd := Lib.hid hld
      clear hld b1 i0 i1
      go_cut [13] from 68 to 154 (fun va w' => FndP w8 r.kept (keptR r id) va w')
      case first =>
        have FW0 := Lib.hid ((Fr.refl (fun _ => False) w8).drew)
        have FAn := Lib.hid (FD.out.then_ FW0.out (fun _ h => h.elim))
        go_region_held3 (fun w' => w'.cell? ⟨b, 1, none⟩ = some (Value.pointer (some ⟨M, 0, none⟩)) ∧ (loadCells ⟨gi, 0, none⟩ 2).run Tryd.prog w' = .ok #[.int .u64 id.hi, .int .u64 id.lo] w')
          (first | exact HLd.out _ FW0.out | exact HLd.out _ FW1.out | go_keep)
          (first | (go_at_call 31; go_must (with_reducible refine (HNm.out _ FAn.out).mono ?_); rintro e w12 ⟨⟨i3, rfl, hi3⟩, f12⟩; have FW1 := Lib.hid (FW0.out.then_ f12 (fun _ h => h.elim)); have HI3 := Lib.hid hi3; clear f12 hi3))
        all_goals
          go_wp2_with fail
          go_meet
          exact ⟨_, rfl, HI3.out, FW1.out⟩
      case rest =>
      obtain ⟨ik, rfl, hix, fx⟩ := hcut
      have HIk := Lib.hid hix
      have FE := Lib.hid (FD.out.then_ fx (fun _ h => h.elim))
      have fx' := Lib.hid fx
      clear hix fx HLd
      rename World => w9
      have HX8 := Lib.hid (fx'.out.blk HX8.out (fun h => h))
      have HX11 := Lib.hid (fx'.out.blk HX11.out (fun h => h))
      clear fx'
      have b0 := FE.out.cell HB0.out (fun h => h)
      obtain ⟨xd, isd, hfr, hdu⟩ := btDue (HB5.out.frF FE.out) HG.out (by omega)
      obtain ⟨D, hD⟩ : ∃ C, ((dueO r xd isd).getD Kp.zero).cells.toArray = C := ⟨_, rfl⟩
      have Ds : D.size = 33 := by rw [← hD]; rfl
      have HDo := Lib.hid (show D.all (·.oneCell') = true from by rw [← hD]; simp [Kp.cells, Tx.cells, Value.oneCell'])
      obtain ⟨bd, hbd⟩ : ∃ z, (dueO r xd isd).isSome = z := ⟨_, rfl⟩
      rw [hD, hbd] at hdu
      have HDu := Lib.hid hdu
      have HFi := Lib.hid hfr
      have HD := Lib.hid hD
      have HBd := Lib.hid hbd
      clear hfr hdu hD hbd
      go_wp2_with fail
      refine HDu.out.mono ?_
      rintro e w11 ⟨rfl, f9⟩
      have HBz := Lib.hid (heap_alloc_new w11 (.cells #[.int .u64 0, .int .u64 0, .int .u64 0, .int .u64 0, .int .u64 0, .int .u64 0, .int .u64 0, .int .u64 0, .int .u64 0, .int .u64 0, .int .i64 0, .int .i64 0, .int .i64 0, .int .i64 0, .int .i64 0, .int .i64 0, .int .u64 0, .int .u64 0, .int .u64 0, .int .u64 0, .int .u64 0, .int .u64 0, .int .u64 0, .int .u64 0, .int .u64 0, .int .u64 0, .int .i64 0, .int .i64 0, .int .i64 0, .int .i64 0, .int .i64 0, .int .i64 0, .int .i64 0] 63))
      have FF := Lib.hid (FE.out.then_ f9 (fun _ h => h.elim))
      have HX8 := Lib.hid (f9.blk HX8.out (fun h => h))
      have HX11 := Lib.hid (f9.blk HX11.out (fun h => h))
      clear f9 b0
      have b1 := ((FF.out.alloc (.cells #[.int .u64 0, .int .u64 0, .int .u64 0, .int .u64 0, .int .u64 0, .int .u64 0, .int .u64 0, .int .u64 0, .int .u64 0, .int .u64 0, .int .i64 0, .int .i64 0, .int .i64 0, .int .i64 0, .int .i64 0, .int .i64 0, .int .u64 0, .int .u64 0, .int .u64 0, .int .u64 0, .int .u64 0, .int .u64 0, .int .u64 0, .int .u64 0, .int .u64 0, .int .u64 0, .int .i64 0, .int .i64 0, .int .i64 0, .int .i64 0, .int .i64 0, .int .i64 0, .int .i64 0] 63))).cell HB1.out (fun h => h)
      have Hb1 := Lib.hid (fun w9 (f : Fr (fun k => k = w11.heap.size) (w11.alloc (.cells #[.int .u64 0, .int .u64 0, .int .u64 0, .int .u64 0, .int .u64 0, .int .u64 0, .int .u64 0, .int .u64 0, .int .u64 0, .int .u64 0, .int .i64 0, .int .i64 0, .int .i64 0, .int .i64 0, .int .i64 0, .int .i64 0, .int .u64 0, .int .u64 0, .int .u64 0, .int .u64 0, .int .u64 0, .int .u64 0, .int .u64 0, .int .u64 0, .int .u64 0, .int .u64 0, .int .i64 0, .int .i64 0, .int .i64 0, .int .i64 0, .int .i64 0, .int .i64 0, .int .i64 0] 63)) w9) => f.cell b1 (fun h => absurd h (Nat.ne_of_lt (cell_lt' (FF.out.cell HB1.out (fun h => h))))))
      clear b1
      go_wp2_with (first | ((refine wpList_store_row rfl 63 (.tmp 14) (.tmp 80) rfl w11.heap.size D rfl rfl HBz.out (by rw [Ds]; rfl) (by rw [Ds]; rfl) HDo.out ?_); intro w12 hb10 f10; have HX14 := Lib.hid hb10; have F10 := Lib.hid f10; have b1 := Hb1.out w12 f10; clear hb10 f10) | fail)
      have G10 := Lib.hid (show Fr (fun _ => False) w11 w12 from ((Fr.refl (fun _ => False) w11).alloc _).then_ F10.out (fun k hk => .inr (by omega)))
      have FG := Lib.hid (FF.out.then_ G10.out (fun _ h => h.elim))
      have HX8 := Lib.hid (G10.out.blk HX8.out (fun h => h))
      have HX11 := Lib.hid (G10.out.blk HX11.out (fun h => h))
      refine (rmDue (HMS.out.fr FG.out (fun _ _ h => h)) HG.out HFi.out).mono ?_
      rintro e w13 ⟨⟨id2, rfl, hid⟩, f11⟩
      have HId := Lib.hid hid
      have FH := Lib.hid (FG.out.then_ f11 (fun _ h => h.elim))
      obtain ⟨g14, hg14⟩ : ∃ g, w11.heap.size = g := ⟨_, rfl⟩
      rw [hg14] at HX14
      have HX8 := Lib.hid (f11.blk HX8.out (fun h => h))
      have HX11 := Lib.hid (f11.blk HX11.out (fun h => h))
      have HX14 := Lib.hid (f11.blk HX14.out (fun h => h))
      have b1 := f11.cell b1 (fun h => h)
      clear hid f11
      have HBz := Lib.hid (HB5.out.frF FH.out)
      obtain ⟨nK, hnK⟩ : ∃ n, r.kept.length = n := ⟨_, rfl⟩
      obtain ⟨nA, hnA⟩ : ∃ n, r.accs.length = n := ⟨_, rfl⟩
      have hkz := own_fr HKr.out FH.out (fun _ _ h => h)
      have haz := own_fr HAr.out FH.out (fun _ _ h => h)
      have hmz := FH.out.blk HMb.out (fun h => h)
      rw [hnK] at hkz
      rw [hnA] at haz
      have m0 : w13.cell? ⟨M, 0, none⟩ = some (.slice aa r.accs.length capa) := blk_cell hmz 0 rfl
      have m1 : w13.cell? ⟨M, 1, none⟩ = some (.slice ak r.kept.length capk) := blk_cell hmz 1 rfl
      rw [hnA] at m0
      rw [hnK] at m1
      have HNK := Lib.hid hnK
      have HNA := Lib.hid hnA
      have HKz := Lib.hid hkz
      have HAz := Lib.hid haz
      clear hkz haz hmz hnK hnA
      rcases HIa.out with ⟨ha0, hia⟩ | ⟨ja, ka, ha1, hia, haj⟩
      · obtain rfl : ba = false := by rw [← HBa1.out, ha0]; rfl
        subst hia
        clear ha0
        rcases HIk.out with ⟨hk0, hik⟩ | ⟨jk, kk, hk1, hik, hkj⟩
        · obtain rfl : bk = false := by rw [← HBk1.out, hk0]; rfl
          subst hik
          clear hk0
          rcases HId.out with ⟨hd0, hid⟩ | ⟨jd, kd, hd1, hid, hdj⟩
          · obtain rfl : bd = false := by rw [← HBd.out, hd0]; rfl
            subst hid
            clear hd0
            go_upto_region 17 with fail
            as_aux_lemma =>
              simp only [List.append]
              go_big_quiet (fail)
              go_wp2_with fail
              go_roundw
              case rel => exact ⟨j + 1, by omega, by go_num, M, r, es, ms, (HBz.out.frF ((Fr.refl (fun _ => False) w13).drewN _)).more (by omega), HG.out, HMk.out, by omega⟩
              case measure => (simp [intOf]; omega)
          · obtain rfl : bd = true := by rw [← HBd.out, hd1]; rfl
            subst hid
            obtain ⟨gk, rfl, hjd, hrd⟩ := row_atf (f := Kp.cells) (sz := 33) (fun _ => rfl) HKz.out HNK.out hdj
            have hDk : kd.cells.toArray = D := by have := HD.out; rw [hd1] at this; exact this
            rw [hDk] at hrd
            have HRd := Lib.hid hrd
            have hed : ∀ W, (Op.equalIn 10000 63 (.agg D) (.agg D)).run Tryd.prog W = .ok true W := fun W => by rw [← hDk]; exact eqm_Kp kd W
            have hd00 : (0 : Int) ≤ jd := by omega
            clear hrd hDk hd1 hdj
            go_upto_region 17 with fail
            have lb := fun n => ld_row (P := Tryd.prog) (W := w13.drewN n) g14 D (n := 33) Ds (show (w13.drewN n).heap[g14]? = _ from HX14.out)
            have lb2 := fun n => ld_range (P := Tryd.prog) (W := w13.drewN n) (g := gk) (o := jd * 33) D (fun jz v hv => HRd.out jz v hv) Ds
            as_aux_lemma =>
              simp only [List.append]
              go_big_quiet (fail)
              go_wp2_with fail
              go_roundw
              case rel => exact ⟨j + 1, by omega, by go_num, M, r, es, ms, (HBz.out.frF ((Fr.refl (fun _ => False) w13).drewN _)).more (by omega), HG.out, HMk.out, by omega⟩
              case measure => (simp [intOf]; omega)
        · obtain rfl : bk = true := by rw [← HBk1.out, hk1]; rfl
          subst hik
          obtain ⟨gk, rfl, hjk, hrk⟩ := row_atf (f := Kp.cells) (sz := 33) (fun _ => rfl) HKz.out HNK.out hkj
          have hCk : kk.cells.toArray = C1 := by have := HC1.out; rw [hk1] at this; exact this
          rw [hCk] at hrk
          have HRk := Lib.hid hrk
          have hek : ∀ W, (Op.equalIn 10000 63 (.agg C1) (.agg C1)).run Tryd.prog W = .ok true W := fun W => by rw [← hCk]; exact eqm_Kp kk W
          have hk00 : (0 : Int) ≤ jk := by omega
          clear hrk hCk hk1 hkj
          rcases HId.out with ⟨hd0, hid⟩ | ⟨jd, kd, hd1, hid, hdj⟩
          · obtain rfl : bd = false := by rw [← HBd.out, hd0]; rfl
            subst hid
            clear hd0
            go_upto_region 17 with fail
            have lk := fun n => ld_row (P := Tryd.prog) (W := w13.drewN n) g11 C1 (n := 33) C1s (show (w13.drewN n).heap[g11]? = _ from HX11.out)
            have lk2 := fun n => ld_range (P := Tryd.prog) (W := w13.drewN n) (g := gk) (o := jk * 33) C1 (fun jz v hv => HRk.out jz v hv) C1s
            as_aux_lemma =>
              simp only [List.append]
              go_big_quiet (fail)
              go_wp2_with fail
              go_roundw
              case rel => exact ⟨j + 1, by omega, by go_num, M, r, es, ms, (HBz.out.frF ((Fr.refl (fun _ => False) w13).drewN _)).more (by omega), HG.out, HMk.out, by omega⟩
              case measure => (simp [intOf]; omega)
          · obtain rfl : bd = true := by rw [← HBd.out, hd1]; rfl
            subst hid
            obtain ⟨gk2, e2, hjd, hrd⟩ := row_atf (f := Kp.cells) (sz := 33) (fun _ => rfl) HKz.out HNK.out hdj
            obtain rfl : gk = gk2 := by simpa using e2
            clear e2
            have hDk : kd.cells.toArray = D := by have := HD.out; rw [hd1] at this; exact this
            rw [hDk] at hrd
            have HRd := Lib.hid hrd
            have hed : ∀ W, (Op.equalIn 10000 63 (.agg D) (.agg D)).run Tryd.prog W = .ok true W := fun W => by rw [← hDk]; exact eqm_Kp kd W
            have hd00 : (0 : Int) ≤ jd := by omega
            clear hrd hDk hd1 hdj
            go_upto_region 17 with fail
            have lk := fun n => ld_row (P := Tryd.prog) (W := w13.drewN n) g11 C1 (n := 33) C1s (show (w13.drewN n).heap[g11]? = _ from HX11.out)
            have lk2 := fun n => ld_range (P := Tryd.prog) (W := w13.drewN n) (g := gk) (o := jk * 33) C1 (fun jz v hv => HRk.out jz v hv) C1s
            have lb := fun n => ld_row (P := Tryd.prog) (W := w13.drewN n) g14 D (n := 33) Ds (show (w13.drewN n).heap[g14]? = _ from HX14.out)
            have lb2 := fun n => ld_range (P := Tryd.prog) (W := w13.drewN n) (g := gk) (o := jd * 33) D (fun jz v hv => HRd.out jz v hv) Ds
            as_aux_lemma =>
              simp only [List.append]
              go_big_quiet (fail)
              go_wp2_with fail
              go_roundw
              case rel => exact ⟨j + 1, by omega, by go_num, M, r, es, ms, (HBz.out.frF ((Fr.refl (fun _ => False) w13).drewN _)).more (by omega), HG.out, HMk.out, by omega⟩
              case measure => (simp [intOf]; omega)
      · obtain rfl : ba = true := by rw [← HBa1.out, ha1]; rfl
        subst hia
        obtain ⟨ga, rfl, hja, hra⟩ := row_atf (f := Acc.cells) (sz := 14) (fun _ => rfl) HAz.out HNA.out haj
        have hCa : ka.cells.toArray = C2 := by have := HC2.out; rw [ha1] at this; exact this
        rw [hCa] at hra
        have HRa := Lib.hid hra
        have hea : ∀ W, (Op.equalIn 10000 26 (.agg C2) (.agg C2)).run Tryd.prog W = .ok true W := fun W => by rw [← hCa]; exact eqm_AccS ka W
        have ha00 : (0 : Int) ≤ ja := by omega
        clear hra hCa ha1 haj
        rcases HIk.out with ⟨hk0, hik⟩ | ⟨jk, kk, hk1, hik, hkj⟩
        · obtain rfl : bk = false := by rw [← HBk1.out, hk0]; rfl
          subst hik
          clear hk0
          rcases HId.out with ⟨hd0, hid⟩ | ⟨jd, kd, hd1, hid, hdj⟩
          · obtain rfl : bd = false := by rw [← HBd.out, hd0]; rfl
            subst hid
            clear hd0
            go_upto_region 17 with fail
            have la := fun n => ld_row (P := Tryd.prog) (W := w13.drewN n) g8 C2 (n := 14) C2s (show (w13.drewN n).heap[g8]? = _ from HX8.out)
            have la2 := fun n => ld_range (P := Tryd.prog) (W := w13.drewN n) (g := ga) (o := ja * 14) C2 (fun jz v hv => HRa.out jz v hv) C2s
            as_aux_lemma =>
              simp only [List.append]
              go_big_quiet (fail)
              go_wp2_with fail
              go_roundw
              case rel => exact ⟨j + 1, by omega, by go_num, M, r, es, ms, (HBz.out.frF ((Fr.refl (fun _ => False) w13).drewN _)).more (by omega), HG.out, HMk.out, by omega⟩
              case measure => (simp [intOf]; omega)
          · obtain rfl : bd = true := by rw [← HBd.out, hd1]; rfl
            subst hid
            obtain ⟨gk, rfl, hjd, hrd⟩ := row_atf (f := Kp.cells) (sz := 33) (fun _ => rfl) HKz.out HNK.out hdj
            have hDk : kd.cells.toArray = D := by have := HD.out; rw [hd1] at this; exact this
            rw [hDk] at hrd
            have HRd := Lib.hid hrd
            have hed : ∀ W, (Op.equalIn 10000 63 (.agg D) (.agg D)).run Tryd.prog W = .ok true W := fun W => by rw [← hDk]; exact eqm_Kp kd W
            have hd00 : (0 : Int) ≤ jd := by omega
            clear hrd hDk hd1 hdj
            go_upto_region 17 with fail
            have la := fun n => ld_row (P := Tryd.prog) (W := w13.drewN n) g8 C2 (n := 14) C2s (show (w13.drewN n).heap[g8]? = _ from HX8.out)
            have la2 := fun n => ld_range (P := Tryd.prog) (W := w13.drewN n) (g := ga) (o := ja * 14) C2 (fun jz v hv => HRa.out jz v hv) C2s
            have lb := fun n => ld_row (P := Tryd.prog) (W := w13.drewN n) g14 D (n := 33) Ds (show (w13.drewN n).heap[g14]? = _ from HX14.out)
            have lb2 := fun n => ld_range (P := Tryd.prog) (W := w13.drewN n) (g := gk) (o := jd * 33) D (fun jz v hv => HRd.out jz v hv) Ds
            as_aux_lemma =>
              simp only [List.append]
              go_big_quiet (fail)
              go_wp2_with fail
              go_roundw
              case rel => exact ⟨j + 1, by omega, by go_num, M, r, es, ms, (HBz.out.frF ((Fr.refl (fun _ => False) w13).drewN _)).more (by omega), HG.out, HMk.out, by omega⟩
              case measure => (simp [intOf]; omega)
        · obtain rfl : bk = true := by rw [← HBk1.out, hk1]; rfl
          subst hik
          obtain ⟨gk, rfl, hjk, hrk⟩ := row_atf (f := Kp.cells) (sz := 33) (fun _ => rfl) HKz.out HNK.out hkj
          have hCk : kk.cells.toArray = C1 := by have := HC1.out; rw [hk1] at this; exact this
          rw [hCk] at hrk
          have HRk := Lib.hid hrk
          have hek : ∀ W, (Op.equalIn 10000 63 (.agg C1) (.agg C1)).run Tryd.prog W = .ok true W := fun W => by rw [← hCk]; exact eqm_Kp kk W
          have hk00 : (0 : Int) ≤ jk := by omega
          clear hrk hCk hk1 hkj
          rcases HId.out with ⟨hd0, hid⟩ | ⟨jd, kd, hd1, hid, hdj⟩
          · obtain rfl : bd = false := by rw [← HBd.out, hd0]; rfl
            subst hid
            clear hd0
            go_upto_region 17 with fail
            have la := fun n => ld_row (P := Tryd.prog) (W := w13.drewN n) g8 C2 (n := 14) C2s (show (w13.drewN n).heap[g8]? = _ from HX8.out)
            have la2 := fun n => ld_range (P := Tryd.prog) (W := w13.drewN n) (g := ga) (o := ja * 14) C2 (fun jz v hv => HRa.out jz v hv) C2s
            have lk := fun n => ld_row (P := Tryd.prog) (W := w13.drewN n) g11 C1 (n := 33) C1s (show (w13.drewN n).heap[g11]? = _ from HX11.out)
            have lk2 := fun n => ld_range (P := Tryd.prog) (W := w13.drewN n) (g := gk) (o := jk * 33) C1 (fun jz v hv => HRk.out jz v hv) C1s
            as_aux_lemma =>
              simp only [List.append]
              go_big_quiet (fail)
              go_wp2_with fail
              go_roundw
              case rel => exact ⟨j + 1, by omega, by go_num, M, r, es, ms, (HBz.out.frF ((Fr.refl (fun _ => False) w13).drewN _)).more (by omega), HG.out, HMk.out, by omega⟩
              case measure => (simp [intOf]; omega)
          · obtain rfl : bd = true := by rw [← HBd.out, hd1]; rfl
            subst hid
            obtain ⟨gk2, e2, hjd, hrd⟩ := row_atf (f := Kp.cells) (sz := 33) (fun _ => rfl) HKz.out HNK.out hdj
            obtain rfl : gk = gk2 := by simpa using e2
            clear e2
            have hDk : kd.cells.toArray = D := by have := HD.out; rw [hd1] at this; exact this
            rw [hDk] at hrd
            have HRd := Lib.hid hrd
            have hed : ∀ W, (Op.equalIn 10000 63 (.agg D) (.agg D)).run Tryd.prog W = .ok true W := fun W => by rw [← hDk]; exact eqm_Kp kd W
            have hd00 : (0 : Int) ≤ jd := by omega
            clear hrd hDk hd1 hdj
            go_upto_region 17 with fail
            have la := fun n => ld_row (P := Tryd.prog) (W := w13.drewN n) g8 C2 (n := 14) C2s (show (w13.drewN n).heap[g8]? = _ from HX8.out)
            have la2 := fun n => ld_range (P := Tryd.prog) (W := w13.drewN n) (g := ga) (o := ja * 14) C2 (fun jz v hv => HRa.out jz v hv) C2s
            have lk := fun n => ld_row (P := Tryd.prog) (W := w13.drewN n) g11 C1 (n := 33) C1s (show (w13.drewN n).heap[g11]? = _ from HX11.out)
            have lk2 := fun n => ld_range (P := Tryd.prog) (W := w13.drewN n) (g := gk) (o := jk * 33) C1 (fun jz v hv => HRk.out jz v hv) C1s
            have lb := fun n => ld_row (P := Tryd.prog) (W := w13.drewN n) g14 D (n := 33) Ds (show (w13.drewN n).heap[g14]? = _ from HX14.out)
            have lb2 := fun n => ld_range (P := Tryd.prog) (W := w13.drewN n) (g := gk) (o := jd * 33) D (fun jz v hv => HRd.out jz v hv) Ds
            as_aux_lemma =>
              simp only [List.append]
              go_big_quiet (fail)
              go_wp2_with fail
              go_roundw
              case rel => exact ⟨j + 1, by omega, by go_num, M, r, es, ms, (HBz.out.frF ((Fr.refl (fun _ => False) w13).drewN _)).more (by omega), HG.out, HMk.out, by omega⟩
              case measure => (simp [intOf]; omega)
    · obtain rfl : j = n := by omega
      have hjI : ¬ (j : Int) < j := by omega
      have HF3 := Lib.hid (F2.out.then_ hb.old0 (fun _ h => h.elim))
      have HBi4 := Lib.hid (hb.old0.blk HBi2.out (fun h => h))
      clear hb hg hmk
      as_aux_lemma =>
        go_wp2_with fail
        refine (nil_back _ 0).mono ?_
        rintro e u1 ⟨rfl, f⟩
        have P1 := Lib.hid (HF3.out.then_ f (fun _ h => h.elim))
        have Q1 := Lib.hid (f.blk HBi4.out (fun h => h))
        clear f HF3 HBi4
        go_wp2_with (first | ((with_reducible refine wpList_load_row_w ?lw 24 (.tmp 3) rfl gi rfl 24 _ _ _ Q1.out Tryd.underlying24 rfl rfl ?_); (case lw => rfl)) | fail)
        refine (nil_clear _).mono ?_
        rintro e u2 ⟨rfl, f⟩
        have P2 := Lib.hid (P1.out.then_ f (fun _ h => h.elim))
        have Q2 := Lib.hid (f.blk Q1.out (fun h => h))
        clear f P1 Q1
        go_wp2_with (first | ((with_reducible refine wpList_load_row_w ?lw 24 (.tmp 3) rfl gi rfl 24 _ _ _ Q2.out Tryd.underlying24 rfl rfl ?_); (case lw => rfl)) | fail)
        refine (nil_time _ 1).mono ?_
        rintro e u3 ⟨rfl, f⟩
        have P3 := Lib.hid (P2.out.then_ f (fun _ h => h.elim))
        have Q3 := Lib.hid (f.blk Q2.out (fun h => h))
        clear f P2 Q2
        go_wp2_with (first | ((with_reducible refine wpList_load_row_w ?lw 24 (.tmp 3) rfl gi rfl 24 _ _ _ Q3.out Tryd.underlying24 rfl rfl ?_); (case lw => rfl)) | fail)
        refine (nil_account _ id).mono ?_
        rintro e u4 ⟨rfl, f⟩
        have P4 := Lib.hid (P3.out.then_ f (fun _ h => h.elim))
        have Q4 := Lib.hid (f.blk Q3.out (fun h => h))
        clear f P3 Q3
        have R4 := Lib.hid (heap_alloc_new u4 (.cells #[.int .u64 0, .int .u64 0, .int .u64 0, .int .u64 0, .int .u64 0, .int .u64 0, .int .u64 0, .int .u64 0, .int .u64 0, .int .u64 0, .int .i64 0, .int .i64 0, .int .i64 0, .int .i64 0] 26))
        have V4 := Lib.hid (P4.out.alloc (.cells #[.int .u64 0, .int .u64 0, .int .u64 0, .int .u64 0, .int .u64 0, .int .u64 0, .int .u64 0, .int .u64 0, .int .u64 0, .int .u64 0, .int .i64 0, .int .i64 0, .int .i64 0, .int .i64 0] 26))
        have X4 := Lib.hid (blk_alloc Q4.out (.cells #[.int .u64 0, .int .u64 0, .int .u64 0, .int .u64 0, .int .u64 0, .int .u64 0, .int .u64 0, .int .u64 0, .int .u64 0, .int .u64 0, .int .i64 0, .int .i64 0, .int .i64 0, .int .i64 0] 26))
        have Y4 := Lib.hid (P4.out.size)
        have Z4 := Lib.hid (blk_lt Q4.out)
        clear P4 Q4
        go_wp2_with (first | ((refine wpList_store_row rfl 26 (.tmp 18) (.tmp 165) rfl u4.heap.size #[.int .u64 0, .int .u64 0, .int .u64 0, .int .u64 0, .int .u64 0, .int .u64 0, .int .u64 0, .int .u64 0, .int .u64 0, .int .u64 0, .int .i64 0, .int .i64 0, .int .i64 0, .int .i64 0] rfl rfl R4.out rfl rfl (by simp [Value.oneCell']) ?_); intro v4 hb9 f9; have X4b := Lib.hid (f9.blk X4.out (fun h => absurd h (Nat.ne_of_lt Z4.out))); have V4b := Lib.hid (V4.out.then_ f9 (fun k hk => .inr (by have := Y4.out; omega))); clear hb9 f9) | ((with_reducible refine wpList_load_row_w ?lw 24 (.tmp 3) rfl gi rfl 24 _ _ _ X4b.out Tryd.underlying24 rfl rfl ?_); (case lw => rfl)) | fail)
        refine (nil_kept _ id).mono ?_
        rintro e u5 ⟨rfl, f⟩
        have P5 := Lib.hid (V4b.out.then_ f (fun _ h => h.elim))
        have Q5 := Lib.hid (f.blk X4b.out (fun h => h))
        clear f V4b X4b
        have R5 := Lib.hid (heap_alloc_new u5 (.cells #[.int .u64 0, .int .u64 0, .int .u64 0, .int .u64 0, .int .u64 0, .int .u64 0, .int .u64 0, .int .u64 0, .int .u64 0, .int .u64 0, .int .i64 0, .int .i64 0, .int .i64 0, .int .i64 0, .int .i64 0, .int .i64 0, .int .u64 0, .int .u64 0, .int .u64 0, .int .u64 0, .int .u64 0, .int .u64 0, .int .u64 0, .int .u64 0, .int .u64 0, .int .u64 0, .int .i64 0, .int .i64 0, .int .i64 0, .int .i64 0, .int .i64 0, .int .i64 0, .int .i64 0] 63))
        have V5 := Lib.hid (P5.out.alloc (.cells #[.int .u64 0, .int .u64 0, .int .u64 0, .int .u64 0, .int .u64 0, .int .u64 0, .int .u64 0, .int .u64 0, .int .u64 0, .int .u64 0, .int .i64 0, .int .i64 0, .int .i64 0, .int .i64 0, .int .i64 0, .int .i64 0, .int .u64 0, .int .u64 0, .int .u64 0, .int .u64 0, .int .u64 0, .int .u64 0, .int .u64 0, .int .u64 0, .int .u64 0, .int .u64 0, .int .i64 0, .int .i64 0, .int .i64 0, .int .i64 0, .int .i64 0, .int .i64 0, .int .i64 0] 63))
        have X5 := Lib.hid (blk_alloc Q5.out (.cells #[.int .u64 0, .int .u64 0, .int .u64 0, .int .u64 0, .int .u64 0, .int .u64 0, .int .u64 0, .int .u64 0, .int .u64 0, .int .u64 0, .int .i64 0, .int .i64 0, .int .i64 0, .int .i64 0, .int .i64 0, .int .i64 0, .int .u64 0, .int .u64 0, .int .u64 0, .int .u64 0, .int .u64 0, .int .u64 0, .int .u64 0, .int .u64 0, .int .u64 0, .int .u64 0, .int .i64 0, .int .i64 0, .int .i64 0, .int .i64 0, .int .i64 0, .int .i64 0, .int .i64 0] 63))
        have Y5 := Lib.hid (P5.out.size)
        have Z5 := Lib.hid (blk_lt Q5.out)
        clear P5 Q5
        go_wp2_with (first | ((refine wpList_store_row rfl 63 (.tmp 20) (.tmp 171) rfl u5.heap.size #[.int .u64 0, .int .u64 0, .int .u64 0, .int .u64 0, .int .u64 0, .int .u64 0, .int .u64 0, .int .u64 0, .int .u64 0, .int .u64 0, .int .i64 0, .int .i64 0, .int .i64 0, .int .i64 0, .int .i64 0, .int .i64 0, .int .u64 0, .int .u64 0, .int .u64 0, .int .u64 0, .int .u64 0, .int .u64 0, .int .u64 0, .int .u64 0, .int .u64 0, .int .u64 0, .int .i64 0, .int .i64 0, .int .i64 0, .int .i64 0, .int .i64 0, .int .i64 0, .int .i64 0] rfl rfl R5.out rfl rfl (by simp [Value.oneCell']) ?_); intro v5 hb9 f9; have X5b := Lib.hid (f9.blk X5.out (fun h => absurd h (Nat.ne_of_lt Z5.out))); have V5b := Lib.hid (V5.out.then_ f9 (fun k hk => .inr (by have := Y5.out; omega))); clear hb9 f9) | ((with_reducible refine wpList_load_row_w ?lw 24 (.tmp 3) rfl gi rfl 24 _ _ _ X5b.out Tryd.underlying24 rfl rfl ?_); (case lw => rfl)) | fail)
        refine (nil_due _).mono ?_
        rintro e u6 ⟨rfl, f⟩
        have P6 := Lib.hid (V5b.out.then_ f (fun _ h => h.elim))
        have Q6 := Lib.hid (f.blk X5b.out (fun h => h))
        clear f V5b X5b
        have R6 := Lib.hid (heap_alloc_new u6 (.cells #[.int .u64 0, .int .u64 0, .int .u64 0, .int .u64 0, .int .u64 0, .int .u64 0, .int .u64 0, .int .u64 0, .int .u64 0, .int .u64 0, .int .i64 0, .int .i64 0, .int .i64 0, .int .i64 0, .int .i64 0, .int .i64 0, .int .u64 0, .int .u64 0, .int .u64 0, .int .u64 0, .int .u64 0, .int .u64 0, .int .u64 0, .int .u64 0, .int .u64 0, .int .u64 0, .int .i64 0, .int .i64 0, .int .i64 0, .int .i64 0, .int .i64 0, .int .i64 0, .int .i64 0] 63))
        have V6 := Lib.hid (P6.out.alloc (.cells #[.int .u64 0, .int .u64 0, .int .u64 0, .int .u64 0, .int .u64 0, .int .u64 0, .int .u64 0, .int .u64 0, .int .u64 0, .int .u64 0, .int .i64 0, .int .i64 0, .int .i64 0, .int .i64 0, .int .i64 0, .int .i64 0, .int .u64 0, .int .u64 0, .int .u64 0, .int .u64 0, .int .u64 0, .int .u64 0, .int .u64 0, .int .u64 0, .int .u64 0, .int .u64 0, .int .i64 0, .int .i64 0, .int .i64 0, .int .i64 0, .int .i64 0, .int .i64 0, .int .i64 0] 63))
        have X6 := Lib.hid (blk_alloc Q6.out (.cells #[.int .u64 0, .int .u64 0, .int .u64 0, .int .u64 0, .int .u64 0, .int .u64 0, .int .u64 0, .int .u64 0, .int .u64 0, .int .u64 0, .int .i64 0, .int .i64 0, .int .i64 0, .int .i64 0, .int .i64 0, .int .i64 0, .int .u64 0, .int .u64 0, .int .u64 0, .int .u64 0, .int .u64 0, .int .u64 0, .int .u64 0, .int .u64 0, .int .u64 0, .int .u64 0, .int .i64 0, .int .i64 0, .int .i64 0, .int .i64 0, .int .i64 0, .int .i64 0, .int .i64 0] 63))
        have Y6 := Lib.hid (P6.out.size)
        have Z6 := Lib.hid (blk_lt Q6.out)
        clear P6 Q6
        go_wp2_with (first | ((refine wpList_store_row rfl 63 (.tmp 22) (.tmp 176) rfl u6.heap.size #[.int .u64 0, .int .u64 0, .int .u64 0, .int .u64 0, .int .u64 0, .int .u64 0, .int .u64 0, .int .u64 0, .int .u64 0, .int .u64 0, .int .i64 0, .int .i64 0, .int .i64 0, .int .i64 0, .int .i64 0, .int .i64 0, .int .u64 0, .int .u64 0, .int .u64 0, .int .u64 0, .int .u64 0, .int .u64 0, .int .u64 0, .int .u64 0, .int .u64 0, .int .u64 0, .int .i64 0, .int .i64 0, .int .i64 0, .int .i64 0, .int .i64 0, .int .i64 0, .int .i64 0] rfl rfl R6.out rfl rfl (by simp [Value.oneCell']) ?_); intro v6 hb9 f9; have X6b := Lib.hid (f9.blk X6.out (fun h => absurd h (Nat.ne_of_lt Z6.out))); have V6b := Lib.hid (V6.out.then_ f9 (fun k hk => .inr (by have := Y6.out; omega))); clear hb9 f9) | ((with_reducible refine wpList_load_row_w ?lw 24 (.tmp 3) rfl gi rfl 24 _ _ _ X6b.out Tryd.underlying24 rfl rfl ?_); (case lw => rfl)) | fail)
        refine (nil_open _).mono ?_
        rintro e u7 ⟨rfl, f⟩
        have P7 := Lib.hid (V6b.out.then_ f (fun _ h => h.elim))
        have Q7 := Lib.hid (f.blk X6b.out (fun h => h))
        clear f V6b X6b
        go_wp2_with (first | ((with_reducible refine wpList_load_row_w ?lw 24 (.tmp 3) rfl gi rfl 24 _ _ _ Q7.out Tryd.underlying24 rfl rfl ?_); (case lw => rfl)) | fail)
        refine (nil_turn _).mono ?_
        rintro e u8 ⟨rfl, f⟩
        have P8 := Lib.hid (P7.out.then_ f (fun _ h => h.elim))
        have Q8 := Lib.hid (f.blk Q7.out (fun h => h))
        clear f P7 Q7
        go_wp2_with (first | ((with_reducible refine wpList_load_row_w ?lw 24 (.tmp 3) rfl gi rfl 24 _ _ _ Q8.out Tryd.underlying24 rfl rfl ?_); (case lw => rfl)) | fail)
        refine (nil_keep _).mono ?_
        rintro e u9 ⟨rfl, f⟩
        have P9 := Lib.hid (P8.out.then_ f (fun _ h => h.elim))
        have Q9 := Lib.hid (f.blk Q8.out (fun h => h))
        clear f P8 Q8
        go_wp2_with (first | ((with_reducible refine wpList_load_row_w ?lw 24 (.tmp 3) rfl gi rfl 24 _ _ _ Q9.out Tryd.underlying24 rfl rfl ?_); (case lw => rfl)) | fail)
        refine (nil_end _ id 2).mono ?_
        rintro e u10 ⟨rfl, f⟩
        have P10 := Lib.hid (P9.out.then_ f (fun _ h => h.elim))
        have Q10 := Lib.hid (f.blk Q9.out (fun h => h))
        clear f P9 Q9
        go_wp2_with (first | ((with_reducible refine wpList_load_row_w ?lw 24 (.tmp 3) rfl gi rfl 24 _ _ _ Q10.out Tryd.underlying24 rfl rfl ?_); (case lw => rfl)) | fail)
        refine (nil_mark _).mono ?_
        rintro e u11 ⟨rfl, f⟩
        have P11 := Lib.hid (P10.out.then_ f (fun _ h => h.elim))
        have Q11 := Lib.hid (f.blk Q10.out (fun h => h))
        clear f P10 Q10
        go_wp2_with (first | ((with_reducible refine wpList_load_row_w ?lw 24 (.tmp 3) rfl gi rfl 24 _ _ _ Q11.out Tryd.underlying24 rfl rfl ?_); (case lw => rfl)) | fail)
        refine (nil_clock _).mono ?_
        rintro e u12 ⟨rfl, f⟩
        have P12 := Lib.hid (P11.out.then_ f (fun _ h => h.elim))
        have Q12 := Lib.hid (f.blk Q11.out (fun h => h))
        clear f P11 Q11
        go_wp2_with (first | ((with_reducible refine wpList_load_row_w ?lw 24 (.tmp 3) rfl gi rfl 24 _ _ _ Q12.out Tryd.underlying24 rfl rfl ?_); (case lw => rfl)) | fail)
        refine (nil_stamp _).mono ?_
        rintro e u13 ⟨rfl, f⟩
        have P13 := Lib.hid (P12.out.then_ f (fun _ h => h.elim))
        have Q13 := Lib.hid (f.blk Q12.out (fun h => h))
        clear f P12 Q12
        go_wp2_with (first | ((with_reducible refine wpList_load_row_w ?lw 24 (.tmp 3) rfl gi rfl 24 _ _ _ Q13.out Tryd.underlying24 rfl rfl ?_); (case lw => rfl)) | fail)
        refine (nil_accounts _).mono ?_
        rintro e u14 ⟨rfl, f⟩
        have P14 := Lib.hid (P13.out.then_ f (fun _ h => h.elim))
        have Q14 := Lib.hid (f.blk Q13.out (fun h => h))
        clear f P13 Q13
        go_wp2_with (first | ((with_reducible refine wpList_load_row_w ?lw 24 (.tmp 3) rfl gi rfl 24 _ _ _ Q14.out Tryd.underlying24 rfl rfl ?_); (case lw => rfl)) | fail)
        refine (nil_keeps _).mono ?_
        rintro e u15 ⟨rfl, f⟩
        have P15 := Lib.hid (P14.out.then_ f (fun _ h => h.elim))
        have Q15 := Lib.hid (f.blk Q14.out (fun h => h))
        clear f P14 Q14
        go_wp2_with (first | ((with_reducible refine wpList_load_row_w ?lw 24 (.tmp 3) rfl gi rfl 24 _ _ _ Q15.out Tryd.underlying24 rfl rfl ?_); (case lw => rfl)) | fail)
        refine (nil_between _ 0 0 true).mono ?_
        rintro e u16 ⟨rfl, f⟩
        have P16 := Lib.hid (P15.out.then_ f (fun _ h => h.elim))
        have Q16 := Lib.hid (f.blk Q15.out (fun h => h))
        clear f P15 Q15
        go_wp2_with (first | ((with_reducible refine wpList_load_row_w ?lw 24 (.tmp 3) rfl gi rfl 24 _ _ _ Q16.out Tryd.underlying24 rfl rfl ?_); (case lw => rfl)) | fail)
        go_ret
        exact ⟨rfl, P16.out⟩
end Go.Proofs.YtjchjpmgbmeohaaDoor
