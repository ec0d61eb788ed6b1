/- Package probe: New, Len, a nil table; what the law's alive asks. -/
import Derived.Test.YthkmdhkifkapkaaPrI
set_option linter.unusedSimpArgs false
set_option linter.unusedVariables false
namespace Go.Proofs.Ythkmdhkifkapkaa
open Go.RowKit

def empty8 : List PC := List.replicate 8 PC.zero
theorem empty8_len : empty8.length = 8 := List.length_replicate
theorem empty8_cnt (q : Int) (hq : q ≠ 0) : cnt q empty8 = 0 := by
  rw [cnt, List.length_eq_zero_iff, List.filter_eq_nil_iff]
  intro c hc
  rw [empty8, List.mem_replicate] at hc
  rw [hc.2]
  simpa [PC.zero] using fun h => hq h.symm
theorem empty8_in (x : Nm) : ¬ IsIn empty8 x := by
  rintro ⟨p, c, hc, hk, _⟩
  have := List.mem_of_getElem? hc
  rw [empty8, List.mem_replicate] at this
  rw [this.2] at hk
  exact absurd hk (by decide)
theorem empty8_has (x : Nm) (a : Int) : ¬ Has empty8 x a := fun h => empty8_in x (has_in h)
def NewPost (w : World) (e : Ending) (w' : World) : Prop := ∃ T S, e = .returned (.pointer (some ⟨T, 0, none⟩)) ∧ IsT w' S T empty8 ∧ (∀ k, S k → w.heap.size ≤ k) ∧ Fr (fun _ => False) w w'
set_option maxHeartbeats 1600000 in
theorem new_any (w : World) : Calls Try.prog 7 #[] w (NewPost w) := by
  obtain ⟨ic, hic, hcz0, hcz1, hcz2⟩ := info_parts Try.infoCell
  have hmk : ∀ w : World, (Instr.makeSlice 46 (.int .i64 8) (.int .i64 8)).run Try.prog w = .ok (.slice (some ⟨w.heap.size, 0, none⟩) 8 8) (w.alloc (.cells (pcs empty8).toArray 50)) := fun w => by
    have h8 : ∀ n : Nat, n ≤ 8 → (Instr.makeSlice 46 (.int .i64 n) (.int .i64 n)).run Try.prog w = .ok (.slice (some ⟨w.heap.size, 0, none⟩) n n) (w.alloc (.cells (pcs (List.replicate n PC.zero)).toArray 50)) := fun n hn => by
      have h := run_make (P := Try.prog) w 46 50 ic (.agg #[.int .u64 0, .int .u64 0, .int .i64 0, .int .u8 0]) Try.underlying46 hic hcz0 .i64 .i64 n n (by omega) (Int.le_refl _) (by rw [hcz2]; omega) (by omega)
      rw [hcz1] at h
      simpa [Value.cells, made_pcs] using h
    exact h8 8 (Nat.le_refl _)
  have ho := World.ownsRow_lit (base := 0) (e := 50) (size := 4) w (pcs empty8).toArray 8 (Nat.zero_le _) (by unfold maxLen; omega) (by simp [pcs_len, empty8_len])
  have FA := (Fr.refl (fun _ => False) w).alloc (.cells (pcs empty8).toArray 50)
  have FB := (Fr.refl (fun _ => False) (w.alloc (.cells (pcs empty8).toArray 50))).alloc (.cells #[.slice (some ⟨w.heap.size, 0, none⟩) 8 8, .int .i64 0, .int .i64 0] 48)
  have hz : (w.alloc (.cells (pcs empty8).toArray 50)).heap.size = w.heap.size + 1 := Array.size_push ..
  have hz2 : ((w.alloc (.cells (pcs empty8).toArray 50)).alloc (.cells #[.slice (some ⟨w.heap.size, 0, none⟩) 8 8, .int .i64 0, .int .i64 0] 48)).heap.size = w.heap.size + 1 + 1 := (Array.size_push ..).trans (by rw [hz])
  have hb := heap_alloc_new (w.alloc (.cells (pcs empty8).toArray 50)) (.cells #[.slice (some ⟨w.heap.size, 0, none⟩) 8 8, .int .i64 0, .int .i64 0] 48)
  rw [hz] at hb
  have HT : IsT ((w.alloc (.cells (pcs empty8).toArray 50)).alloc (.cells #[.slice (some ⟨w.heap.size, 0, none⟩) 8 8, .int .i64 0, .int .i64 0] 48)) (fun j => j = w.heap.size ∨ j = w.heap.size + 1) (w.heap.size + 1) empty8 := by
    refine ⟨⟨.slice (some ⟨w.heap.size, 0, none⟩) 8 8, ?_, ?_, .inr rfl, fun k hk => ?_, fun k hk => ?_⟩, pinv_empty (e := 3) rfl (by omega) (by omega), ?_⟩
    · rw [empty8_cnt 1 (by decide), empty8_cnt 2 (by decide)]
      simpa using hb
    · have h := own_fr ho FB (fun _ _ h => h)
      rw [empty8_len]
      simpa using h
    · simp only [Value.ownBlock, Option.some.injEq] at hk
      subst hk
      exact ⟨.inl rfl, by omega⟩
    · rw [hz2]
      rcases hk with rfl | rfl <;> omega
    · rw [empty8_cnt 1 (by decide), empty8_cnt 2 (by decide)]
      exact Nat.zero_le _
  have HH := Lib.hid HT
  have HF := Lib.hid (FA.then_ FB (fun _ h => h.elim))
  have HZ := Lib.hid hz
  clear ho FA FB hz hz2 hb HT
  go_enter Try.func7, Try.ntmps7
  go_wp2_with fail
  go_ret
  refine ⟨w.heap.size + 1, _, by rw [← HZ.out]; rfl, HH.out, fun k hk => ?_, HF.out⟩
  rcases hk with rfl | rfl <;> omega
theorem len_any (w : World) (S : Nat → Prop) (T : Nat) (cs : List PC) (h : IsT w S T cs) :
    Calls Try.prog 11 #[.pointer (some ⟨T, 0, none⟩)] w fun e w' => e = .returned (.int .i64 (cnt 1 cs)) ∧ w' = w := by
  obtain ⟨v, hb, -, -, -, -⟩ := h.is
  have c1 := blk_cell hb 1 rfl
  clear h hb
  go_enter Try.func11, Try.ntmps11
  go_wp2_with fail
  go_ret
  exact ⟨rfl, rfl⟩

def five : Nm := ⟨0, 5⟩
set_option maxRecDepth 4000 in
set_option maxHeartbeats 1600000 in
theorem alive11_any (w : World) : Calls Try.prog 6 #[] w fun e w' => e = .returned (.bool true) ∧ Fr (fun _ => False) w w' := by
  go_enter Try.func6, Try.ntmps6
  go_wp2_with fail
  refine (new_any w).mono ?_
  rintro e w1 ⟨T, S, rfl, ht, hS, f1⟩
  have HS := Lib.hid hS
  have F1 := Lib.hid f1
  have H1 := Lib.hid (put_any w1 S T empty8 five 1 ht (by rw [empty8_cnt 1 (by decide)]; omega))
  clear ht hS f1
  go_wp2_with fail
  refine H1.out.mono ?_
  rintro e w2 ⟨b, cs1, rfl, hb, ht, hh, hc, f2⟩
  obtain rfl : b = true := hb.2 (empty8_in _)
  rw [empty8_cnt 1 (by decide), if_pos rfl] at hc
  have HC1 := Lib.hid hc
  have hin : IsIn cs1 five := has_in ((hh five 1).2 (.inr ⟨rfl, rfl⟩))
  have HIn := Lib.hid hin
  have F2 := Lib.hid f2
  have H2 := Lib.hid (put_any w2 _ T cs1 five 2 ht (by rw [hc]; omega))
  have HS2 := Lib.hid (show ∀ k, Gro S w1 w2 k → w.heap.size ≤ k from fun k hk => hk.elim (HS.out k) (fun h => Nat.le_trans F1.out.size h.1))
  clear ht hb hh hc hin f2
  go_wp2_with fail
  refine H2.out.mono ?_
  rintro e w3 ⟨b, cs2, rfl, hb, ht, hh, hc, f3⟩
  have hbf : b = false := by
    cases b with
    | false => rfl
    | true => exact (hb.1 rfl HIn.out).elim
  subst hbf
  rw [HC1.out, if_neg (by decide)] at hc
  have H3 := Lib.hid (get_any w3 _ T cs2 five ht)
  have HHas := Lib.hid ((hh five 2).2 (.inr ⟨rfl, rfl⟩))
  have HT3 := Lib.hid ht
  have F3 := Lib.hid f3
  have HC2 := Lib.hid hc
  clear ht hb hh hc f3
  go_wp2_with fail
  refine H3.out.mono ?_
  rintro e w4 ⟨a, b, rfl, hab, f4⟩
  have hb2 : b = true ∧ a = 2 := by
    rcases hab with ⟨rfl, h⟩ | ⟨rfl, -, h⟩
    · exact ⟨rfl, has_one HT3.out.inv h HHas.out⟩
    · exact (h (has_in HHas.out)).elim
  obtain ⟨rfl, rfl⟩ := hb2
  have HL := Lib.hid (len_any w4 _ T cs2 (HT3.out.fr f4 (fun _ _ h => h)))
  have hc2 : cnt 1 cs2 = 1 := HC2.out
  rw [hc2] at HL
  have F4 := Lib.hid f4
  clear hab f4 hc2
  go_wp2_with fail
  refine HL.out.mono ?_
  rintro e _ ⟨rfl, rfl⟩
  go_wp2_with fail
  go_ret
  exact ⟨rfl, ((F1.out.then_ F2.out (fun k hk => .inr (HS.out k hk))).then_ F3.out (fun k hk => .inr (HS2.out k hk))).then_ F4.out (fun _ h => h.elim)⟩

/-! A nil table. -/
theorem nil_get (w : World) (x : Nm) : Calls Try.prog 10 #[.pointer none, .agg #[.int .u64 x.hi, .int .u64 x.lo]] w fun e w' => e = .returned (.tuple #[.int .i64 0, .bool false]) ∧ Fr (fun _ => False) w w' := by
  have FA := Lib.hid ((Fr.refl (fun _ => False) w).alloc (.cells #[.int .u64 x.hi, .int .u64 x.lo] 25))
  go_enter Try.func10, Try.ntmps10
  go_wp2_with fail
  go_ret2
  exact ⟨rfl, by (repeat (first | (with_reducible exact Fr.refl _ _) | (with_reducible refine Fr.drew ?_) | (with_reducible refine Fr.drewN ?_ _) | (with_reducible refine Fr.alloc ?_ _) | (with_reducible refine Fr.set1 ?_ _) | (with_reducible refine Fr.setNew ?_ (by omega) _)))⟩
theorem nil_put (w : World) (x : Nm) (a : Int) : Calls Try.prog 8 #[.pointer none, .agg #[.int .u64 x.hi, .int .u64 x.lo], .int .i64 a] w fun e w' => e = .returned (.bool false) ∧ Fr (fun _ => False) w w' := by
  go_enter Try.func8, Try.ntmps8
  go_wp2_with fail
  go_ret
  exact ⟨rfl, by (repeat (first | (with_reducible exact Fr.refl _ _) | (with_reducible refine Fr.drew ?_) | (with_reducible refine Fr.drewN ?_ _) | (with_reducible refine Fr.alloc ?_ _) | (with_reducible refine Fr.set1 ?_ _) | (with_reducible refine Fr.setNew ?_ (by omega) _)))⟩
theorem nil_drop (w : World) (x : Nm) : Calls Try.prog 9 #[.pointer none, .agg #[.int .u64 x.hi, .int .u64 x.lo]] w fun e w' => e = .returned (.bool false) ∧ Fr (fun _ => False) w w' := by
  go_enter Try.func9, Try.ntmps9
  go_wp2_with fail
  go_ret
  exact ⟨rfl, by (repeat (first | (with_reducible exact Fr.refl _ _) | (with_reducible refine Fr.drew ?_) | (with_reducible refine Fr.drewN ?_ _) | (with_reducible refine Fr.alloc ?_ _) | (with_reducible refine Fr.set1 ?_ _) | (with_reducible refine Fr.setNew ?_ (by omega) _)))⟩
theorem nil_len (w : World) : Calls Try.prog 11 #[.pointer none] w fun e w' => e = .returned (.int .i64 0) ∧ w' = w := by
  go_enter Try.func11, Try.ntmps11
  go_wp2_with fail
  go_ret
  exact ⟨rfl, rfl⟩
theorem nil_cells (w : World) : Calls Try.prog 13 #[.pointer none] w fun e w' => e = .returned (.int .i64 0) ∧ w' = w := by
  go_enter Try.func13, Try.ntmps13
  go_wp2_with fail
  go_ret
  exact ⟨rfl, rfl⟩
end Go.Proofs.Ythkmdhkifkapkaa
