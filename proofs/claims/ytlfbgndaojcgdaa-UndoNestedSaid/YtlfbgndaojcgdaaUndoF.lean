/- Law 14: alive. -/
import Derived.Test.YtlfbgndaojcgdaaUndoE
namespace Go.Proofs.Ytlfbgndaojcgdaa
open Go.RowKit

theorem st_new {w1 w2 : World} {g : Nat} (hb : w1.heap[g]? = some (.cells #[.slice none 0 0] 27 (0, 0))) (l2 : IsL w2 (fun k => k = w1.heap.size) w1.heap.size (some g) []) (f2 : Fr (fun _ => False) w1 w2) :
    St w2 (fun k => k = w1.heap.size) (fun k => k = g) w1.heap.size g [] [] := by
  have hlt := blk_lt hb
  refine ⟨l2, ⟨.slice none 0 0, f2.blk hb (fun h => h), World.ownsRow_nil _ _ _ _, rfl, fun k hk => by simp [Value.ownBlock] at hk, fun k hk => ?_⟩, fun k h1 h2 => ?_, fun _ h => (nomatch h), trivial⟩
  · obtain rfl : k = g := hk
    exact Nat.lt_of_lt_of_le hlt f2.size
  · have h1 : k = w1.heap.size := h1
    have h2 : k = g := h2
    omega

theorem low_join {w wr w2 : World} {S' G' S2 G2 : Nat → Prop} (hF : Fr (fun _ => False) w wr) (hG : ∀ k, S' k ∨ G' k → w.heap.size ≤ k) (f2 : Fr (fun k => S' k ∨ G' k) wr w2) (g2 : ∀ k, S2 k ∨ G2 k → S' k ∨ G' k ∨ wr.heap.size ≤ k) :
    Fr (fun _ => False) w w2 ∧ ∀ k, S2 k ∨ G2 k → w.heap.size ≤ k := by
  have s1 := hF.size
  refine ⟨hF.then_ f2 (fun k hk => .inr (hG k hk)), fun k hk => ?_⟩
  rcases g2 k hk with h | h | h
  · exact hG k (.inl h)
  · exact hG k (.inr h)
  · omega
set_option maxHeartbeats 3200000 in
theorem alive14_any (w : World) :
    Calls Try.prog 9 #[] w fun e w' => e = .returned (.bool true) ∧ Fr (fun _ => False) w w' := by
  have HB := Lib.hid (heap_alloc_new w (.cells #[.slice none 0 0] 27))
  have F0 := Lib.hid ((Fr.refl (fun _ => False) w).alloc (.cells #[.slice none 0 0] 27))
  go_enter Try.func9, Try.ntmps9
  go_wp2_with fail
  refine (of_any _ (some w.heap.size)).mono ?_
  rintro e w1 ⟨rfl, l1, f1⟩
  have S1 := Lib.hid (st_new HB.out l1 f1)
  have F1 := Lib.hid (F0.out.then_ f1 (fun _ h => h.elim))
  obtain ⟨L, hL⟩ : ∃ L, (w.alloc (.cells #[.slice none 0 0] 27)).heap.size = L := ⟨_, rfl⟩
  rw [hL] at S1 ⊢
  have HL := Lib.hid (show w.heap.size ≤ L from by rw [← hL]; simp)
  clear l1 f1
  clear hL
  obtain ⟨g, hg⟩ : ∃ g, w.heap.size = g := ⟨_, rfl⟩
  rw [hg] at S1 HL ⊢
  have Hg := Lib.hid hg
  clear hg
  go_wp2_with fail
  refine (add_log _ _ _ L g [] [] 1 S1.out (by simp) (by simp)).mono ?_
  rintro r w2 ⟨rfl, S2, G2, e1, s2, u2, f2, g2, -⟩
  have St2 := Lib.hid s2
  have U2 := Lib.hid u2
  have F2 := Lib.hid f2
  have Gr2 := Lib.hid g2
  clear s2 u2 f2 g2
  go_wp2_with fail
  refine (mark_any _ _ g [e1] St2.out.g).mono ?_
  rintro r w3 ⟨rfl, rfl⟩
  go_wp2_with fail
  refine (add_log _ _ _ L g [1] [e1] 2 St2.out (by simp) (by simp)).mono ?_
  rintro r w4 ⟨rfl, S4, G4, e2, s4, u4, f4, g4, -⟩
  have St4 := Lib.hid s4
  have U4 := Lib.hid u4
  have F4 := Lib.hid f4
  have Gr4 := Lib.hid g4
  clear s4 u4 f4 g4
  go_wp2_with fail
  refine (set_log _ _ _ L g [1, 2] [e2, e1] 0 3 St4.out (by simp) (by simp)).mono ?_
  rintro r w5 ⟨rfl, S5, G5, new, s5, n5, u5, f5, g5, -⟩
  have St5 := Lib.hid (show St w5 S5 G5 L g (setI [1, 2] 0 3) ((new ++ [e2]) ++ [e1]) from by rw [List.append_assoc]; exact s5)
  have U5 := Lib.hid u5
  have F5 := Lib.hid f5
  have Gr5 := Lib.hid g5
  clear s5 u5 f5 g5
  go_wp2_with fail
  refine (back_any _ _ _ L g _ (new ++ [e2]) [e1] St5.out (by rw [setI_len]; simp) (by simp; omega)).mono ?_
  rintro r w6 ⟨rfl, s6, f6⟩
  have e6 : (new ++ [e2]).foldl (fun l e => e.undo l) (setI [1, 2] 0 3) = [1] := by
    rw [List.foldl_append, U5.out]
    exact U4.out
  rw [e6] at s6
  have St6 := Lib.hid s6
  have F6 := Lib.hid f6
  clear s6 f6 e6
  go_wp2_with fail
  refine (at_any _ _ L _ [1] 0 St6.out.l (by simp)).mono ?_
  rintro r w7 ⟨rfl, rfl⟩
  rw [if_pos (by simp)]
  go_wp2_with (go_at_call 16; go_must (refine (len_any _ _ L _ [1] St6.out.l).mono ?_); rintro r w8 ⟨rfl, rfl⟩)
  go_ret
  have J1 := low_join F1.out (S' := fun k => k = L) (G' := fun k => k = g) (fun k hk => by have h1 := HL.out; have h2 := Hg.out; rcases hk with h | h <;> (have h : k = _ := h; omega)) F2.out Gr2.out
  have J2 := low_join J1.1 J1.2 F4.out Gr4.out
  have J3 := low_join J2.1 J2.2 F5.out Gr5.out
  exact ⟨rfl, (low_join J3.1 J3.2 F6.out (S2 := S5) (G2 := G5) (fun k hk => hk.elim .inl (fun h => .inr (.inl h)))).1⟩
end Go.Proofs.Ytlfbgndaojcgdaa
