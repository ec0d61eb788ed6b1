/- Package probe: New, Len, a nil table; what the law's alive asks. -/
import Derived.Test.YtjchjpmgbmeohaaDoorPrI
set_option linter.unusedSimpArgs false
set_option linter.unusedVariables false
namespace Go.Proofs.YtjchjpmgbmeohaaDoor
open Go.RowKit

def empty8 : List PC := List.replicate 8 PC.zero
theorem empty8_len : empty8.length = 8 := List.length_replicate
theorem empty8_cnt (q : Int) (hq : q ≠ 0) : cnt q empty8 = 0 := by
  rw [cnt, List.length_eq_zero_iff, List.filter_eq_nil_iff]
  intro c hc
  rw [empty8, List.mem_replicate] at hc
  rw [hc.2]
  simpa [PC.zero] using fun h => hq h.symm
theorem empty8_in (x : Nm) : ¬ IsIn empty8 x := by
  rintro ⟨p, c, hc, hk, _⟩
  have := List.mem_of_getElem? hc
  rw [empty8, List.mem_replicate] at this
  rw [this.2] at hk
  exact absurd hk (by decide)
theorem empty8_has (x : Nm) (a : Int) : ¬ Has empty8 x a := fun h => empty8_in x (has_in h)
def NewPost (w : World) (e : Ending) (w' : World) : Prop := ∃ T S, e = .returned (.pointer (some ⟨T, 0, none⟩)) ∧ IsT w' S T empty8 ∧ (∀ k, S k → w.heap.size ≤ k) ∧ Fr (fun _ => False) w w'
set_option maxHeartbeats 1600000 in
theorem new_any (w : World) : Calls Tryd.prog 51 #[] w (NewPost w) := by
  obtain ⟨ic, hic, hcz0, hcz1, hcz2⟩ := info_parts Tryd.infoCell
  have hmk : ∀ w : World, (Instr.makeSlice 133 (.int .i64 8) (.int .i64 8)).run Tryd.prog w = .ok (.slice (some ⟨w.heap.size, 0, none⟩) 8 8) (w.alloc (.cells (pcs empty8).toArray 141)) := fun w => by
    have h8 : ∀ n : Nat, n ≤ 8 → (Instr.makeSlice 133 (.int .i64 n) (.int .i64 n)).run Tryd.prog w = .ok (.slice (some ⟨w.heap.size, 0, none⟩) n n) (w.alloc (.cells (pcs (List.replicate n PC.zero)).toArray 141)) := fun n hn => by
      have h := run_make (P := Tryd.prog) w 133 141 ic (.agg #[.int .u64 0, .int .u64 0, .int .i64 0, .int .u8 0]) Tryd.underlying133 hic hcz0 .i64 .i64 n n (by omega) (Int.le_refl _) (by rw [hcz2]; omega) (by omega)
      rw [hcz1] at h
      simpa [Value.cells, made_pcs] using h
    exact h8 8 (Nat.le_refl _)
  have ho := World.ownsRow_lit (base := 0) (e := 141) (size := 4) w (pcs empty8).toArray 8 (Nat.zero_le _) (by unfold maxLen; omega) (by simp [pcs_len, empty8_len])
  have FA := (Fr.refl (fun _ => False) w).alloc (.cells (pcs empty8).toArray 141)
  have FB := (Fr.refl (fun _ => False) (w.alloc (.cells (pcs empty8).toArray 141))).alloc (.cells #[.slice (some ⟨w.heap.size, 0, none⟩) 8 8, .int .i64 0, .int .i64 0] 135)
  have hz : (w.alloc (.cells (pcs empty8).toArray 141)).heap.size = w.heap.size + 1 := Array.size_push ..
  have hz2 : ((w.alloc (.cells (pcs empty8).toArray 141)).alloc (.cells #[.slice (some ⟨w.heap.size, 0, none⟩) 8 8, .int .i64 0, .int .i64 0] 135)).heap.size = w.heap.size + 1 + 1 := (Array.size_push ..).trans (by rw [hz])
  have hb := heap_alloc_new (w.alloc (.cells (pcs empty8).toArray 141)) (.cells #[.slice (some ⟨w.heap.size, 0, none⟩) 8 8, .int .i64 0, .int .i64 0] 135)
  rw [hz] at hb
  have HT : IsT ((w.alloc (.cells (pcs empty8).toArray 141)).alloc (.cells #[.slice (some ⟨w.heap.size, 0, none⟩) 8 8, .int .i64 0, .int .i64 0] 135)) (fun j => j = w.heap.size ∨ j = w.heap.size + 1) (w.heap.size + 1) empty8 := by
    refine ⟨⟨.slice (some ⟨w.heap.size, 0, none⟩) 8 8, ?_, ?_, .inr rfl, fun k hk => ?_, fun k hk => ?_⟩, pinv_empty (e := 3) rfl (by omega) (by omega), ?_⟩
    · rw [empty8_cnt 1 (by decide), empty8_cnt 2 (by decide)]
      simpa using hb
    · have h := own_fr ho FB (fun _ _ h => h)
      rw [empty8_len]
      simpa using h
    · simp only [Value.ownBlock, Option.some.injEq] at hk
      subst hk
      exact ⟨.inl rfl, by omega⟩
    · rw [hz2]
      rcases hk with rfl | rfl <;> omega
    · rw [empty8_cnt 1 (by decide), empty8_cnt 2 (by decide)]
      exact Nat.zero_le _
  have HH := Lib.hid HT
  have HF := Lib.hid (FA.then_ FB (fun _ h => h.elim))
  have HZ := Lib.hid hz
  clear ho FA FB hz hz2 hb HT
  go_enter Tryd.func51, Tryd.ntmps51
  go_wp2_with fail
  go_ret
  refine ⟨w.heap.size + 1, _, by rw [← HZ.out]; rfl, HH.out, fun k hk => ?_, HF.out⟩
  rcases hk with rfl | rfl <;> omega
def five : Nm := ⟨0, 5⟩
theorem nil_get (w : World) (x : Nm) : Calls Tryd.prog 55 #[.pointer none, .agg #[.int .u64 x.hi, .int .u64 x.lo]] w fun e w' => e = .returned (.tuple #[.int .i64 0, .bool false]) ∧ Fr (fun _ => False) w w' := by
  have FA := Lib.hid ((Fr.refl (fun _ => False) w).alloc (.cells #[.int .u64 x.hi, .int .u64 x.lo] 24))
  go_enter Tryd.func55, Tryd.ntmps55
  go_wp2_with fail
  go_ret2
  exact ⟨rfl, by (repeat (first | (with_reducible exact Fr.refl _ _) | (with_reducible refine Fr.drew ?_) | (with_reducible refine Fr.drewN ?_ _) | (with_reducible refine Fr.alloc ?_ _) | (with_reducible refine Fr.set1 ?_ _) | (with_reducible refine Fr.setNew ?_ (by omega) _)))⟩
theorem nil_put (w : World) (x : Nm) (a : Int) : Calls Tryd.prog 57 #[.pointer none, .agg #[.int .u64 x.hi, .int .u64 x.lo], .int .i64 a] w fun e w' => e = .returned (.bool false) ∧ Fr (fun _ => False) w w' := by
  go_enter Tryd.func57, Tryd.ntmps57
  go_wp2_with fail
  go_ret
  exact ⟨rfl, by (repeat (first | (with_reducible exact Fr.refl _ _) | (with_reducible refine Fr.drew ?_) | (with_reducible refine Fr.drewN ?_ _) | (with_reducible refine Fr.alloc ?_ _) | (with_reducible refine Fr.set1 ?_ _) | (with_reducible refine Fr.setNew ?_ (by omega) _)))⟩
theorem nil_drop (w : World) (x : Nm) : Calls Tryd.prog 60 #[.pointer none, .agg #[.int .u64 x.hi, .int .u64 x.lo]] w fun e w' => e = .returned (.bool false) ∧ Fr (fun _ => False) w w' := by
  go_enter Tryd.func60, Tryd.ntmps60
  go_wp2_with fail
  go_ret
  exact ⟨rfl, by (repeat (first | (with_reducible exact Fr.refl _ _) | (with_reducible refine Fr.drew ?_) | (with_reducible refine Fr.drewN ?_ _) | (with_reducible refine Fr.alloc ?_ _) | (with_reducible refine Fr.set1 ?_ _) | (with_reducible refine Fr.setNew ?_ (by omega) _)))⟩
end Go.Proofs.YtjchjpmgbmeohaaDoor
