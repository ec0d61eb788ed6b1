/- Law 14: the walk of UndoNested. -/
import Derived.Test.YtlfbgndaojcgdaaUndoG
namespace Go.Proofs.Ytlfbgndaojcgdaa
open Go.RowKit

theorem back_m (w : World) (S G : Nat → Prop) (L g : Nat) (xs : List Int) (new old : List Ent) (m : Nat) (h : St w S G L g xs (new ++ old)) (hm : old.length = m) (hx : xs.length ≤ 1000000) (hn : (new ++ old).length ≤ 1000000) :
    Calls Try.prog 15 #[.pointer (some ⟨g, 0, none⟩), .int .i64 m] w fun r w' => r = .returned (.tuple #[]) ∧ St w' S G L g (new.foldl (fun l e => e.undo l) xs) old ∧ Fr (fun k => S k ∨ G k) w w' := by
  subst hm
  exact back_any w S G L g xs new old h hx hn
theorem mark_m (w : World) (G : Nat → Prop) (g : Nat) (es : List Ent) (m : Nat) (h : IsG w G g es) (hm : es.length = m) :
    Calls Try.prog 18 #[.pointer (some ⟨g, 0, none⟩)] w fun e w' => e = .returned (.int .i64 m) ∧ w' = w := by
  subst hm
  exact mark_any w G g es h
theorem own_setB {w8 w : World} {v : Value} {xs : List Int} {B : Nat} (h : Own w (Gro (fun _ => False) w8 w) v xs) (hB : B < w8.heap.size) (j : Nat) (u : Value) : Own (w.setCell ⟨B, j, none⟩ u) (fun k => k ≠ B) v xs := by
  have hne : ∀ k, Gro (fun _ => False) w8 w k → k ≠ B := fun k hk => by
    rcases hk with h | h
    · exact h.elim
    · omega
  exact ⟨own_fr h.1 ((Fr.refl (fun k => k = B) w).setCell (p := ⟨B, j, none⟩) (.inl rfl) u) (fun k hk => hne k (h.2 k hk)), fun k hk => hne k (h.2 k hk)⟩
theorem own_carry {wr w9 : World} {v : Value} {xs : List Int} {B : Nat} (h : Own wr (fun k => k ≠ B) v xs) (f : Fr (fun _ => False) wr w9) (j : Nat) (u : Value) : Own (w9.setCell ⟨B, j, none⟩ u) (fun k => k ≠ B) v xs :=
  ⟨own_fr h.1 ((f.mono (fun _ h => h.elim)).setCell (S := fun k => k = B) (p := ⟨B, j, none⟩) (.inl rfl) u) (fun k hk => h.2 k hk), h.2⟩
set_option maxRecDepth 4000 in
set_option maxHeartbeats 6400000 in
theorem undoNested_any (w : World) (a0 a1 a2 : Option Addr) (c0 c1 c2 : Nat) (ca bs cs : List Cal) (ha : Row w a0 (ca.flatMap Cal.cells)) (hb : Row w a1 (bs.flatMap Cal.cells)) (hc : Row w a2 (cs.flatMap Cal.cells))
    (la : ca.length ≤ 140737488355328) (lb : bs.length ≤ 140737488355328) (lc : cs.length ≤ 140737488355328) :
    Calls Try.prog 4 #[.slice a0 ca.length c0, .slice a1 bs.length c1, .slice a2 cs.length c2] w fun r w' => r = .returned (.bool true) ∧ Fr (fun _ => False) w w' := by
  have HA := Lib.hid ha
  have HBr := Lib.hid hb
  have HCr := Lib.hid hc
  clear ha hb hc
  go_enter Try.func4, Try.ntmps4
  go_wp2_with fail
  refine (alive14_any w).mono ?_
  rintro e w1 ⟨rfl, f1⟩
  have Fw1 := Lib.hid f1
  clear f1
  by_cases hbig : (450 : Int) < (ca.length : Int) + bs.length + cs.length
  · go_wp2_with fail
    go_ret
    exact ⟨rfl, Fw1.out⟩
  have hlen : ca.length + bs.length + cs.length ≤ 450 := by omega
  go_wp2_with fail
  have HBn := Lib.hid (heap_alloc_new w1 (.cells #[.slice none 0 0, .slice none 0 0] 40))
  have Fn := Lib.hid (Fw1.out.alloc (.cells #[.slice none 0 0, .slice none 0 0] 40))
  obtain ⟨B, hB⟩ : ∃ B, w1.heap.size = B := ⟨_, rfl⟩
  rw [hB] at HBn ⊢
  have HwB := Lib.hid (show w.heap.size ≤ B from by rw [← hB]; exact Fw1.out.size)
  clear hB
  go_loopw [8] (fun i wr => ∃ k : Nat, k ≤ 2 ∧ i = .int .i64 k ∧ ∃ v0 v1, wr.heap[B]? = some (.cells #[v0, v1] 40 (0, 0)) ∧ (1 ≤ k → Own wr (fun j => j ≠ B) v0 (runs [] ca)) ∧ (2 ≤ k → Own wr (fun j => j ≠ B) v1 (runs [] ca)) ∧ Fr (fun _ => False) w wr)
    (fun i _ => ((2 : Int) - intOf i).toNat)
  case atStart => exact ⟨0, by omega, rfl, _, _, HBn.out, fun h => by omega, fun h => by omega, Fn.out⟩
  case round =>
    obtain ⟨k, hk, rfl, v0, v1, hbl, h0, h1, hf⟩ := hrel
    have HBl := Lib.hid hbl
    have H0 := Lib.hid h0
    have H1 := Lib.hid h1
    have HF := Lib.hid hf
    clear hbl h0 h1 hf
    rcases (show k = 0 ∨ k = 1 ∨ k = 2 from by omega) with rfl | rfl | rfl
    · skip
      have F0 := Lib.hid ((Fr.refl (fun _ => False) wr).alloc (.cells #[.slice none 0 0] 27))
      have HB0 := Lib.hid (heap_alloc_new wr (.cells #[.slice none 0 0] 27))
      go_wp2_with fail
      refine (of_any _ (some wr.heap.size)).mono ?_
      rintro e w1 ⟨rfl, l1, f1⟩
      have S1 := Lib.hid (st_new HB0.out l1 f1)
      have F1 := Lib.hid (F0.out.then_ f1 (fun _ h => h.elim))
      obtain ⟨L, hL⟩ : ∃ L, (wr.alloc (.cells #[.slice none 0 0] 27)).heap.size = L := ⟨_, rfl⟩
      rw [hL] at S1 ⊢
      have HL := Lib.hid (show wr.heap.size ≤ L from by rw [← hL]; simp)
      clear l1 f1 hL
      obtain ⟨g, hg⟩ : ∃ g, wr.heap.size = g := ⟨_, rfl⟩
      rw [hg] at S1 ⊢
      have Hg := Lib.hid hg
      clear hg
      have HG1 := Lib.hid (show ∀ j, j = L ∨ j = g → wr.heap.size ≤ j from fun j hj => by have := HL.out; have := Hg.out; omega)
      go_wp2_with fail
      refine (edit_any _ _ _ L g [] [] a0 c0 ca S1.out (HA.out.fr (S := fun _ => False) (HF.out.then_ F1.out (fun _ h => h.elim)) (fun _ _ h => h)) (fun h0 b hb hj => by have := row_lt HA.out h0 b hb; have := HG1.out _ hj; have := HF.out.size; omega) (by simp) (by simp) (by omega)).mono ?_
      rintro r w2 ⟨rfl, S2, G2, n1, s2, k2, u2, f2, g2⟩
      have J2 := Lib.hid (low_join F1.out (S' := fun k => k = L) (G' := fun k => k = g) HG1.out f2 g2)
      have U2 := Lib.hid u2
      have St2 := Lib.hid (show St w2 S2 G2 L g (runs [] ca) n1 from by simpa using s2)
      have hx1 := runs_len [] ca
      rw [List.length_nil] at hx1
      obtain ⟨xs1, hxs1⟩ : ∃ xs1, runs [] ca = xs1 := ⟨_, rfl⟩
      rw [hxs1] at St2 U2 hx1
      have HX1 := Lib.hid hxs1
      clear s2 u2 f2 g2 hxs1
      go_wp2_with fail
      obtain ⟨m1, hm1⟩ : ∃ m1, n1.length = m1 := ⟨_, rfl⟩
      have Hm1 := Lib.hid hm1
      have hm1b : m1 ≤ 450 := by omega
      clear hm1
      refine (mark_m _ _ g n1 m1 St2.out.g Hm1.out).mono ?_
      rintro r w3 ⟨rfl, rfl⟩
      go_wp2_with fail
      refine (edit_any _ _ _ L g xs1 n1 a1 c1 bs St2.out (HBr.out.fr (S := fun _ => False) (HF.out.then_ J2.out.1 (fun _ h => h.elim)) (fun _ _ h => h)) (fun h0 b hb hj => by have := row_lt HBr.out h0 b hb; have := J2.out.2 _ hj; have := HF.out.size; omega) (by omega) (by omega) (by omega)).mono ?_
      rintro r w4 ⟨rfl, S4, G4, n2, s4, k4, u4, f4, g4⟩
      have J4 := Lib.hid (low_join J2.out.1 J2.out.2 f4 g4)
      have St4 := Lib.hid s4
      have U4 := Lib.hid u4
      have hx2 := runs_len xs1 bs
      obtain ⟨xs2, hxs2⟩ : ∃ xs2, runs xs1 bs = xs2 := ⟨_, rfl⟩
      rw [hxs2] at St4 U4 hx2
      clear s4 u4 f4 g4 hxs2
      go_wp2_with fail
      obtain ⟨m2, hm2⟩ : ∃ m2, (n2 ++ n1).length = m2 := ⟨_, rfl⟩
      have Hm2 := Lib.hid hm2
      have hm2b : m2 ≤ 450 := by rw [← hm2, List.length_append]; omega
      clear hm2
      refine (mark_m _ _ g (n2 ++ n1) m2 St4.out.g Hm2.out).mono ?_
      rintro r w5 ⟨rfl, rfl⟩
      go_wp2_with fail
      refine (edit_any _ _ _ L g xs2 (n2 ++ n1) a2 c2 cs St4.out (HCr.out.fr (S := fun _ => False) (HF.out.then_ J4.out.1 (fun _ h => h.elim)) (fun _ _ h => h)) (fun h0 b hb hj => by have := row_lt HCr.out h0 b hb; have := J4.out.2 _ hj; have := HF.out.size; omega) (by omega) (by rw [List.length_append]; omega) (by omega)).mono ?_
      rintro r w6 ⟨rfl, S6, G6, n3, s6, k6, u6, f6, g6⟩
      have J6 := Lib.hid (low_join J4.out.1 J4.out.2 f6 g6)
      have St6 := Lib.hid s6
      have U6 := Lib.hid u6
      have hx3 := runs_len xs2 cs
      obtain ⟨xs3, hxs3⟩ : ∃ xs3, runs xs2 cs = xs3 := ⟨_, rfl⟩
      rw [hxs3] at St6 U6 hx3
      clear s6 u6 f6 g6 hxs3
      go_wp2_with fail
      with_reducible refine (back_m _ _ _ L g xs3 n3 (n2 ++ n1) m2 St6.out Hm2.out (by omega) (by simp only [List.length_append]; omega)).mono ?_
      rintro r w7 ⟨rfl, s7, f7⟩
      rw [U6.out] at s7
      have J7' := low_join J6.out.1 J6.out.2 f7 (S2 := S6) (G2 := G6) (fun k hk => hk.elim .inl (fun h => .inr (.inl h)))
      have J7 := J7'
      have St7 := Lib.hid s7
      clear s7 f7 J7'
      have J7h := Lib.hid J7
      clear J7
      go_wp2_with fail
      with_reducible refine (back_m _ _ _ L g xs2 n2 n1 m1 St7.out Hm1.out (by omega) (by simp only [List.length_append]; omega)).mono ?_
      rintro r w8 ⟨rfl, s8, f8⟩
      rw [U4.out] at s8
      have J7 := J7h.out
      have J8 := Lib.hid (low_join J7.1 J7.2 f8 (S2 := S6) (G2 := G6) (fun k hk => hk.elim .inl (fun h => .inr (.inl h))))
      have St8 := Lib.hid s8
      clear s8 f8 J7
      go_wp2_with (first
        | (go_at_call 13; go_must (refine (all_any _ S6 L _ xs1 St8.out.l (by omega)).mono ?_); rintro r w9 ⟨va, rfl, oa, f9⟩; obtain ⟨av, cv, rfl, -, -⟩ := own_form oa.1; have Oa := Lib.hid oa; have F9 := Lib.hid f9; have Hb9 := Lib.hid ((J8.out.1.then_ f9 (fun _ h => h.elim)).blk HBl.out (fun h => h)); have cl0 := blk_cell Hb9.out 0 rfl; have cl1 := blk_cell Hb9.out 1 rfl; have fl0 := blk_free Hb9.out 0; have fl1 := blk_free Hb9.out 1; have St9 := Lib.hid (St.fr (S2 := fun _ => False) St8.out f9 (fun _ _ h => h)); clear oa f9)
        | (go_at_call 18; go_must (refine (mark_m _ G6 g n1 m1 (Rw.fr (S2 := fun k => k = B) St9.out.g (by repeat (first | (with_reducible exact Fr.refl _ _) | (with_reducible refine Fr.drew ?_) | (with_reducible refine Fr.drewN ?_ _) | (with_reducible refine Fr.alloc ?_ _) | (with_reducible refine Fr.set1 ?_ _))) (fun k hk h => by have h : k = B := h; have := J8.out.2 k (.inr hk); have := blk_lt HBl.out; omega)) Hm1.out).mono ?_); rintro r w10 ⟨rfl, rfl⟩))
      have hB8 := Lib.hid (show B < w8.heap.size from Nat.lt_of_lt_of_le (blk_lt HBl.out) J8.out.1.size)
      have F89 := Lib.hid (J8.out.1.then_ F9.out (fun _ h => h.elim))
      go_roundw
      case rel => exact ⟨1, by omega, rfl, _, _, by have h := blk_set Hb9.out 0 (.slice av xs1.length cv); simpa using h, fun _ => by rw [HX1.out]; exact own_setB Oa.out hB8.out 0 _, fun h => by omega, Fr.setCell (p := ⟨B, 0, none⟩) (HF.out.then_ F89.out (fun _ h => h.elim)) (.inr HwB.out) _⟩
      case measure => simp [intOf]
    · skip
      have F0 := Lib.hid ((Fr.refl (fun _ => False) wr).alloc (.cells #[.slice none 0 0] 27))
      have HB0 := Lib.hid (heap_alloc_new wr (.cells #[.slice none 0 0] 27))
      go_wp2_with fail
      refine (of_any _ (some wr.heap.size)).mono ?_
      rintro e w1 ⟨rfl, l1, f1⟩
      have S1 := Lib.hid (st_new HB0.out l1 f1)
      have F1 := Lib.hid (F0.out.then_ f1 (fun _ h => h.elim))
      obtain ⟨L, hL⟩ : ∃ L, (wr.alloc (.cells #[.slice none 0 0] 27)).heap.size = L := ⟨_, rfl⟩
      rw [hL] at S1 ⊢
      have HL := Lib.hid (show wr.heap.size ≤ L from by rw [← hL]; simp)
      clear l1 f1 hL
      obtain ⟨g, hg⟩ : ∃ g, wr.heap.size = g := ⟨_, rfl⟩
      rw [hg] at S1 ⊢
      have Hg := Lib.hid hg
      clear hg
      have HG1 := Lib.hid (show ∀ j, j = L ∨ j = g → wr.heap.size ≤ j from fun j hj => by have := HL.out; have := Hg.out; omega)
      go_wp2_with fail
      refine (edit_any _ _ _ L g [] [] a0 c0 ca S1.out (HA.out.fr (S := fun _ => False) (HF.out.then_ F1.out (fun _ h => h.elim)) (fun _ _ h => h)) (fun h0 b hb hj => by have := row_lt HA.out h0 b hb; have := HG1.out _ hj; have := HF.out.size; omega) (by simp) (by simp) (by omega)).mono ?_
      rintro r w2 ⟨rfl, S2, G2, n1, s2, k2, u2, f2, g2⟩
      have J2 := Lib.hid (low_join F1.out (S' := fun k => k = L) (G' := fun k => k = g) HG1.out f2 g2)
      have U2 := Lib.hid u2
      have St2 := Lib.hid (show St w2 S2 G2 L g (runs [] ca) n1 from by simpa using s2)
      have hx1 := runs_len [] ca
      rw [List.length_nil] at hx1
      obtain ⟨xs1, hxs1⟩ : ∃ xs1, runs [] ca = xs1 := ⟨_, rfl⟩
      rw [hxs1] at St2 U2 hx1
      have HX1 := Lib.hid hxs1
      clear s2 u2 f2 g2 hxs1
      go_wp2_with fail
      obtain ⟨m1, hm1⟩ : ∃ m1, n1.length = m1 := ⟨_, rfl⟩
      have Hm1 := Lib.hid hm1
      have hm1b : m1 ≤ 450 := by omega
      clear hm1
      refine (mark_m _ _ g n1 m1 St2.out.g Hm1.out).mono ?_
      rintro r w3 ⟨rfl, rfl⟩
      go_wp2_with fail
      refine (edit_any _ _ _ L g xs1 n1 a1 c1 bs St2.out (HBr.out.fr (S := fun _ => False) (HF.out.then_ J2.out.1 (fun _ h => h.elim)) (fun _ _ h => h)) (fun h0 b hb hj => by have := row_lt HBr.out h0 b hb; have := J2.out.2 _ hj; have := HF.out.size; omega) (by omega) (by omega) (by omega)).mono ?_
      rintro r w4 ⟨rfl, S4, G4, n2, s4, k4, u4, f4, g4⟩
      have J4 := Lib.hid (low_join J2.out.1 J2.out.2 f4 g4)
      have St4 := Lib.hid s4
      have U4 := Lib.hid u4
      have hx2 := runs_len xs1 bs
      obtain ⟨xs2, hxs2⟩ : ∃ xs2, runs xs1 bs = xs2 := ⟨_, rfl⟩
      rw [hxs2] at St4 U4 hx2
      clear s4 u4 f4 g4 hxs2
      go_wp2_with fail
      obtain ⟨m2, hm2⟩ : ∃ m2, (n2 ++ n1).length = m2 := ⟨_, rfl⟩
      have Hm2 := Lib.hid hm2
      have hm2b : m2 ≤ 450 := by rw [← hm2, List.length_append]; omega
      clear hm2
      refine (mark_m _ _ g (n2 ++ n1) m2 St4.out.g Hm2.out).mono ?_
      rintro r w5 ⟨rfl, rfl⟩
      go_wp2_with fail
      refine (edit_any _ _ _ L g xs2 (n2 ++ n1) a2 c2 cs St4.out (HCr.out.fr (S := fun _ => False) (HF.out.then_ J4.out.1 (fun _ h => h.elim)) (fun _ _ h => h)) (fun h0 b hb hj => by have := row_lt HCr.out h0 b hb; have := J4.out.2 _ hj; have := HF.out.size; omega) (by omega) (by rw [List.length_append]; omega) (by omega)).mono ?_
      rintro r w6 ⟨rfl, S6, G6, n3, s6, k6, u6, f6, g6⟩
      have J6 := Lib.hid (low_join J4.out.1 J4.out.2 f6 g6)
      have St6 := Lib.hid s6
      have U6 := Lib.hid u6
      have hx3 := runs_len xs2 cs
      obtain ⟨xs3, hxs3⟩ : ∃ xs3, runs xs2 cs = xs3 := ⟨_, rfl⟩
      rw [hxs3] at St6 U6 hx3
      clear s6 u6 f6 g6 hxs3
      go_wp2_with fail
      with_reducible refine (back_m _ _ _ L g xs3 (n3 ++ n2) n1 m1 (by rw [List.append_assoc]; exact St6.out) Hm1.out (by omega) (by simp only [List.length_append]; omega)).mono ?_
      rintro r w8 ⟨rfl, s8, f8⟩
      rw [List.foldl_append, U6.out, U4.out] at s8
      have J7 := J6.out
      have J8 := Lib.hid (low_join J7.1 J7.2 f8 (S2 := S6) (G2 := G6) (fun k hk => hk.elim .inl (fun h => .inr (.inl h))))
      have St8 := Lib.hid s8
      clear s8 f8 J7
      go_wp2_with (first
        | (go_at_call 13; go_must (refine (all_any _ S6 L _ xs1 St8.out.l (by omega)).mono ?_); rintro r w9 ⟨va, rfl, oa, f9⟩; obtain ⟨av, cv, rfl, -, -⟩ := own_form oa.1; have Oa := Lib.hid oa; have F9 := Lib.hid f9; have Hb9 := Lib.hid ((J8.out.1.then_ f9 (fun _ h => h.elim)).blk HBl.out (fun h => h)); have cl0 := blk_cell Hb9.out 0 rfl; have cl1 := blk_cell Hb9.out 1 rfl; have fl0 := blk_free Hb9.out 0; have fl1 := blk_free Hb9.out 1; have St9 := Lib.hid (St.fr (S2 := fun _ => False) St8.out f9 (fun _ _ h => h)); clear oa f9)
        | (go_at_call 18; go_must (refine (mark_m _ G6 g n1 m1 (Rw.fr (S2 := fun k => k = B) St9.out.g (by repeat (first | (with_reducible exact Fr.refl _ _) | (with_reducible refine Fr.drew ?_) | (with_reducible refine Fr.drewN ?_ _) | (with_reducible refine Fr.alloc ?_ _) | (with_reducible refine Fr.set1 ?_ _))) (fun k hk h => by have h : k = B := h; have := J8.out.2 k (.inr hk); have := blk_lt HBl.out; omega)) Hm1.out).mono ?_); rintro r w10 ⟨rfl, rfl⟩))
      have hB8 := Lib.hid (show B < w8.heap.size from Nat.lt_of_lt_of_le (blk_lt HBl.out) J8.out.1.size)
      have F89 := Lib.hid (J8.out.1.then_ F9.out (fun _ h => h.elim))
      go_roundw
      case rel => exact ⟨2, by omega, rfl, _, _, by have h := blk_set Hb9.out 1 (.slice av xs1.length cv); simpa using h, fun _ => own_carry (H0.out (by omega)) F89.out 1 _, fun _ => by rw [HX1.out]; exact own_setB Oa.out hB8.out 1 _, Fr.setCell (p := ⟨B, 1, none⟩) (HF.out.then_ F89.out (fun _ h => h.elim)) (.inr HwB.out) _⟩
      case measure => simp [intOf]
    · obtain ⟨x0, y0, rfl, -, -⟩ := own_form (H0.out (by omega)).1
      obtain ⟨x1, y1, rfl, -, -⟩ := own_form (H1.out (by omega)).1
      have hrl := runs_len [] ca
      rw [List.length_nil] at hrl
      obtain ⟨R, hR⟩ : ∃ R, runs [] ca = R := ⟨_, rfl⟩
      rw [hR] at H0 H1 HBl hrl
      have cl0 := blk_cell HBl.out 0 rfl
      have cl1 := blk_cell HBl.out 1 rfl
      clear hR
      go_wp2_with (go_at_call 14; go_must (refine (same_any _ _ _ _ _ R R (H0.out (by omega)) (H1.out (by omega)) (by omega)).mono ?_); rintro r w9 ⟨rfl, f9⟩; have F9 := Lib.hid f9; rw [beq_self_eq_true]; clear f9)
      go_ret
      exact ⟨rfl, HF.out.then_ F9.out (fun _ h => h.elim)⟩
end Go.Proofs.Ytlfbgndaojcgdaa
