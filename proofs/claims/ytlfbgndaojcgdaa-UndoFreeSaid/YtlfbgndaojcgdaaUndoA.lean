/- Package undo: Add. -/
import Derived.Test.YtlfbgndaojcgdaaUndo
import Derived.Deep.RegionLaw
import Derived.Deep.DeepMust
import Derived.Deep.CutBlock
namespace Go.Proofs.Ytlfbgndaojcgdaa
open Go.RowKit

set_option maxHeartbeats 1600000 in
theorem add_log (w : World) (S G : Nat → Prop) (L g : Nat) (xs : List Int) (es : List Ent) (x : Int) (h : St w S G L g xs es) (hn : xs.length < 1000000) (he : es.length < 1000000) :
    Calls Try.prog 11 #[.pointer (some ⟨L, 0, none⟩), .int .i64 x] w fun r w' => r = .returned (.int .i64 xs.length) ∧ ∃ S' G' e, St w' S' G' L g (xs ++ [x]) (e :: es) ∧ e.undo (xs ++ [x]) = xs ∧ Fr (fun k => S k ∨ G k) w w' ∧ (∀ k, S' k ∨ G' k → S k ∨ G k ∨ w.heap.size ≤ k) ∧ ∀ k, e.has k → w.heap.size ≤ k := by
  have H := Lib.hid h
  have hIsL := h.l
  obtain ⟨i0, hi, hz0, hz1, hz2⟩ := info_parts Try.infoInt
  have hmf : ∀ (fn : Fn) (first cap : Array Value) (w : World), (Instr.makeFunc fn first cap).run Try.prog w = .ok (.func fn first cap) w := fun _ _ _ _ => rfl
  obtain ⟨v, hb, ho, hS, hSv, hl⟩ := hIsL
  obtain ⟨a, cap, rfl, hc, -⟩ := own_form ho
  have c0 := blk_cell hb 0 rfl
  have f0 := blk_free hb 0
  have hLlt := blk_lt hb
  have Hb := Lib.hid (blk_alloc (blk_alloc hb (.cells #[.pointer (some ⟨L, 0, none⟩)] 28)) (.cells #[.int .i64 xs.length] 3))
  have Ho := Lib.hid (show ((w.alloc (.cells #[.pointer (some ⟨L, 0, none⟩)] 28)).alloc (.cells #[.int .i64 xs.length] 3)).ownsRow 0 3 1 _ _ _ from (ho.alloc _).alloc _)
  have Hl := Lib.hid (show ∀ k, S k → k < ((w.alloc (.cells #[.pointer (some ⟨L, 0, none⟩)] 28)).alloc (.cells #[.int .i64 xs.length] 3)).heap.size from fun k hk => by have := hl k hk; simp; omega)
  have Hs := Lib.hid hS
  have Hsv := Lib.hid hSv
  have Hn := Lib.hid (show ints (xs ++ [x]) = ints xs ++ [.int .i64 x] from by simp [ints])
  have Hn2 := Lib.hid (show (xs ++ [x]).length = xs.length + 1 from by simp)
  have B1 := Lib.hid (blk_alloc (heap_alloc_new w (.cells #[.pointer (some ⟨L, 0, none⟩)] 28)) (.cells #[.int .i64 xs.length] 3))
  have B2 := Lib.hid (show ((w.alloc (.cells #[.pointer (some ⟨L, 0, none⟩)] 28)).alloc (.cells #[.int .i64 xs.length] 3)).heap[w.heap.size + 1]? = some (.cells #[.int .i64 xs.length] 3) from by
    have h := heap_alloc_new (w.alloc (.cells #[.pointer (some ⟨L, 0, none⟩)] 28)) (.cells #[.int .i64 xs.length] 3)
    rwa [show (w.alloc (.cells #[.pointer (some ⟨L, 0, none⟩)] 28)).heap.size = w.heap.size + 1 from Array.size_push ..] at h)
  have Hne := Lib.hid (show ¬ (Value.slice a xs.length cap).ownBlock = some L from fun he => (hSv L he).2 rfl)
  have Hbx := Lib.hid (show ¬ (Value.slice a xs.length cap).ownBlock = some w.heap.size from fun he => by have := hl _ (hSv _ he).1; omega)
  clear hb ho hl hS hSv
  go_enter Try.func11, Try.ntmps11
  go_upto_region 4 with fail
  go_cut [] from 6 (fun w' => IsL w' (Gro S ((w.alloc (.cells #[.pointer (some ⟨L, 0, none⟩)] 28)).alloc (.cells #[.int .i64 xs.length] 3)) w') L (some g) (xs ++ [x]) ∧ Fr S ((w.alloc (.cells #[.pointer (some ⟨L, 0, none⟩)] 28)).alloc (.cells #[.int .i64 xs.length] 3)) w' ∧ w'.heap[w.heap.size]? = some (.cells #[.pointer (some ⟨L, 0, none⟩)] 28) ∧ w'.heap[w.heap.size + 1]? = some (.cells #[.int .i64 xs.length] 3))
  case first =>
    have c0w := blk_cell Hb.out 0 rfl
    have f0w := blk_free Hb.out 0
    have c1w := blk_cell B1.out 0 rfl
    have c2w := blk_cell B2.out 0 rfl
    have c0x := blk_cell (blk_alloc Hb.out (.cells #[.int .i64 x] 3)) 0 rfl
    have f0x := blk_free (blk_alloc Hb.out (.cells #[.int .i64 x] 3)) 0
    have c1x := blk_cell (blk_alloc B1.out (.cells #[.int .i64 x] 3)) 0 rfl
    go_region_law (first | (refine step_append_fresh _ ((w.alloc (.cells #[.pointer (some ⟨L, 0, none⟩)] 28)).alloc (.cells #[.int .i64 xs.length] 3)).drew rfl (.tmp 17) (.tmp 19) 34 rfl 3 i0 (.int .i64 0) 1 8 Try.underlying34 hi hz0 hz1 hz2 rfl (by decide) (.slice a xs.length cap) xs.length _ (by simp [Act.eval, Act.put]) Ho.out.drew #[.int .i64 x] rfl (by simp [Act.eval, Act.put]) rfl (by intro u hu; simp at hu; subst hu; rfl) (by omega) (by omega) ?_; intro g2 cap2 w2 hown2 hf2 hat2; have hb' := hf2.blk (blk_alloc (w := ((w.alloc (.cells #[.pointer (some ⟨L, 0, none⟩)] 28)).alloc (.cells #[.int .i64 xs.length] 3)).drew) Hb.out _) (Hne.out); have c0' := blk_cell hb' 0 rfl; have f0' := blk_free hb' 0; have c1' := blk_cell (hf2.blk (blk_alloc (w := ((w.alloc (.cells #[.pointer (some ⟨L, 0, none⟩)] 28)).alloc (.cells #[.int .i64 xs.length] 3)).drew) B1.out _) Hbx.out) 0 rfl))
    all_goals
      have HR := Lib.hid (rw_push Hb.out Hs.out Hsv.out Hl.out (((Fr.refl _ ((w.alloc (.cells #[.pointer (some ⟨L, 0, none⟩)] 28)).alloc (.cells #[.int .i64 xs.length] 3))).drew).alloc (.cells #[.int .i64 x] 3)) hown2 hf2 hat2)
      have HB := Lib.hid (show ∀ k, w.heap.size ≤ k → k < ((w.alloc (.cells #[.pointer (some ⟨L, 0, none⟩)] 28)).alloc (.cells #[.int .i64 xs.length] 3)).heap.size → ¬ S k from fun k h1 _ hk => by have := Rw.lt H.out.l hk; omega)
      clear hown2 hf2 hat2
      go_wp2_with fail
      go_meet
      refine ⟨by have h := HR.out.1; unfold IsL; rw [Hn2.out, Hn.out]; exact h, HR.out.2, HR.out.2.blk B1.out (HB.out _ (by omega) (by simp; omega)), HR.out.2.blk B2.out (HB.out _ (by omega) (by simp))⟩
  case rest =>
  obtain ⟨l2, f2, b1, b2⟩ := hcut
  have c1 := blk_cell b1 0 rfl
  have c2 := blk_cell b2 0 rfl
  have L2 := Lib.hid l2
  have F2 := Lib.hid f2
  have hlog : wc.cell? ⟨L, 1, none⟩ = some (.pointer ((some g).map fun g => ⟨g, 0, none⟩)) := by
    obtain ⟨v, hb, -, -, -, -⟩ := l2
    exact blk_cell hb 1 rfl
  simp only [Option.map_some] at hlog
  have Hw1 := Lib.hid (show Fr (fun _ => False) w ((w.alloc (.cells #[.pointer (some ⟨L, 0, none⟩)] 28)).alloc (.cells #[.int .i64 xs.length] 3)) from ((Fr.refl _ w).alloc _).alloc _)
  have G2 := Lib.hid (show IsG wc G g es from Rw.fr (Rw.alloc (Rw.alloc H.out.g _) _) f2 (fun k hk hs => H.out.dis k hs hk))
  have HE := Lib.hid (show Ent.at_ wc L (.cut w.heap.size (w.heap.size + 1) xs.length) from ⟨b1, b2⟩)
  have Hlow := Lib.hid (show ∀ k, G k → k < w.heap.size from fun k hk => Rw.lt H.out.g hk)
  clear l2 f2 Hb Ho Hl Hs Hsv B1 B2 Hne
  have Hb2 := Lib.hid b2
  clear b1 b2
  go_wp2_with (go_at_call 29; go_must (refine (keep_any _ G g es (.cut w.heap.size (w.heap.size + 1) xs.length) G2.out (by omega)).mono ?_); rintro e w3 ⟨rfl, g3, f3⟩; have b2' := f3.blk Hb2.out (fun hk => by have := Hlow.out _ hk; omega); have c2' := blk_cell b2' 0 rfl; have HF := Lib.hid (st_step H.out Hw1.out L2.out F2.out HE.out (by intro k hk; rcases hk with rfl | rfl <;> simp <;> omega) (by simp [Ent.undo]) (by simp [Ent.fits]) g3 f3); clear g3 f3 b2')
  go_ret
  exact ⟨rfl, _, _, _, HF.out.1, by simp [Ent.undo], HF.out.2.1, HF.out.2.2⟩
set_option maxHeartbeats 1600000 in
theorem add_free (w : World) (S : Nat → Prop) (L : Nat) (xs : List Int) (x : Int) (h : IsL w S L none xs) (hn : xs.length < 1000000) :
    Calls Try.prog 11 #[.pointer (some ⟨L, 0, none⟩), .int .i64 x] w fun r w' => r = .returned (.int .i64 xs.length) ∧ ∃ S', IsL w' S' L none (xs ++ [x]) ∧ Fr S w w' ∧ ∀ k, S' k → S k ∨ w.heap.size ≤ k := by
  have H := Lib.hid h
  have hIsL := h
  obtain ⟨i0, hi, hz0, hz1, hz2⟩ := info_parts Try.infoInt
  have hmf : ∀ (fn : Fn) (first cap : Array Value) (w : World), (Instr.makeFunc fn first cap).run Try.prog w = .ok (.func fn first cap) w := fun _ _ _ _ => rfl
  obtain ⟨v, hb, ho, hS, hSv, hl⟩ := hIsL
  obtain ⟨a, cap, rfl, hc, -⟩ := own_form ho
  have c0 := blk_cell hb 0 rfl
  have f0 := blk_free hb 0
  have hLlt := blk_lt hb
  have Hb := Lib.hid (blk_alloc (blk_alloc hb (.cells #[.pointer (some ⟨L, 0, none⟩)] 28)) (.cells #[.int .i64 xs.length] 3))
  have Ho := Lib.hid (show ((w.alloc (.cells #[.pointer (some ⟨L, 0, none⟩)] 28)).alloc (.cells #[.int .i64 xs.length] 3)).ownsRow 0 3 1 _ _ _ from (ho.alloc _).alloc _)
  have Hl := Lib.hid (show ∀ k, S k → k < ((w.alloc (.cells #[.pointer (some ⟨L, 0, none⟩)] 28)).alloc (.cells #[.int .i64 xs.length] 3)).heap.size from fun k hk => by have := hl k hk; simp; omega)
  have Hs := Lib.hid hS
  have Hsv := Lib.hid hSv
  have Hn := Lib.hid (show ints (xs ++ [x]) = ints xs ++ [.int .i64 x] from by simp [ints])
  have Hn2 := Lib.hid (show (xs ++ [x]).length = xs.length + 1 from by simp)
  have B1 := Lib.hid (blk_alloc (heap_alloc_new w (.cells #[.pointer (some ⟨L, 0, none⟩)] 28)) (.cells #[.int .i64 xs.length] 3))
  have B2 := Lib.hid (show ((w.alloc (.cells #[.pointer (some ⟨L, 0, none⟩)] 28)).alloc (.cells #[.int .i64 xs.length] 3)).heap[w.heap.size + 1]? = some (.cells #[.int .i64 xs.length] 3) from by
    have h := heap_alloc_new (w.alloc (.cells #[.pointer (some ⟨L, 0, none⟩)] 28)) (.cells #[.int .i64 xs.length] 3)
    rwa [show (w.alloc (.cells #[.pointer (some ⟨L, 0, none⟩)] 28)).heap.size = w.heap.size + 1 from Array.size_push ..] at h)
  have Hne := Lib.hid (show ¬ (Value.slice a xs.length cap).ownBlock = some L from fun he => (hSv L he).2 rfl)
  have Hbx := Lib.hid (show ¬ (Value.slice a xs.length cap).ownBlock = some w.heap.size from fun he => by have := hl _ (hSv _ he).1; omega)
  clear hb ho hl hS hSv
  go_enter Try.func11, Try.ntmps11
  go_upto_region 4 with fail
  go_cut [] from 6 (fun w' => IsL w' (Gro S ((w.alloc (.cells #[.pointer (some ⟨L, 0, none⟩)] 28)).alloc (.cells #[.int .i64 xs.length] 3)) w') L none (xs ++ [x]) ∧ Fr S ((w.alloc (.cells #[.pointer (some ⟨L, 0, none⟩)] 28)).alloc (.cells #[.int .i64 xs.length] 3)) w' ∧ w'.heap[w.heap.size]? = some (.cells #[.pointer (some ⟨L, 0, none⟩)] 28) ∧ w'.heap[w.heap.size + 1]? = some (.cells #[.int .i64 xs.length] 3))
  case first =>
    have c0w := blk_cell Hb.out 0 rfl
    have f0w := blk_free Hb.out 0
    have c1w := blk_cell B1.out 0 rfl
    have c2w := blk_cell B2.out 0 rfl
    have c0x := blk_cell (blk_alloc Hb.out (.cells #[.int .i64 x] 3)) 0 rfl
    have f0x := blk_free (blk_alloc Hb.out (.cells #[.int .i64 x] 3)) 0
    have c1x := blk_cell (blk_alloc B1.out (.cells #[.int .i64 x] 3)) 0 rfl
    go_region_law (first | (refine step_append_fresh _ ((w.alloc (.cells #[.pointer (some ⟨L, 0, none⟩)] 28)).alloc (.cells #[.int .i64 xs.length] 3)).drew rfl (.tmp 17) (.tmp 19) 34 rfl 3 i0 (.int .i64 0) 1 8 Try.underlying34 hi hz0 hz1 hz2 rfl (by decide) (.slice a xs.length cap) xs.length _ (by simp [Act.eval, Act.put]) Ho.out.drew #[.int .i64 x] rfl (by simp [Act.eval, Act.put]) rfl (by intro u hu; simp at hu; subst hu; rfl) (by omega) (by omega) ?_; intro g2 cap2 w2 hown2 hf2 hat2; have hb' := hf2.blk (blk_alloc (w := ((w.alloc (.cells #[.pointer (some ⟨L, 0, none⟩)] 28)).alloc (.cells #[.int .i64 xs.length] 3)).drew) Hb.out _) (Hne.out); have c0' := blk_cell hb' 0 rfl; have f0' := blk_free hb' 0; have c1' := blk_cell (hf2.blk (blk_alloc (w := ((w.alloc (.cells #[.pointer (some ⟨L, 0, none⟩)] 28)).alloc (.cells #[.int .i64 xs.length] 3)).drew) B1.out _) Hbx.out) 0 rfl))
    all_goals
      have HR := Lib.hid (rw_push Hb.out Hs.out Hsv.out Hl.out (((Fr.refl _ ((w.alloc (.cells #[.pointer (some ⟨L, 0, none⟩)] 28)).alloc (.cells #[.int .i64 xs.length] 3))).drew).alloc (.cells #[.int .i64 x] 3)) hown2 hf2 hat2)
      have HB := Lib.hid (show ∀ k, w.heap.size ≤ k → k < ((w.alloc (.cells #[.pointer (some ⟨L, 0, none⟩)] 28)).alloc (.cells #[.int .i64 xs.length] 3)).heap.size → ¬ S k from fun k h1 _ hk => by have := Rw.lt H.out hk; omega)
      clear hown2 hf2 hat2
      go_wp2_with fail
      go_meet
      refine ⟨by have h := HR.out.1; unfold IsL; rw [Hn2.out, Hn.out]; exact h, HR.out.2, HR.out.2.blk B1.out (HB.out _ (by omega) (by simp; omega)), HR.out.2.blk B2.out (HB.out _ (by omega) (by simp))⟩
  case rest =>
  obtain ⟨l2, f2, b1, b2⟩ := hcut
  have c1 := blk_cell b1 0 rfl
  have c2 := blk_cell b2 0 rfl
  have L2 := Lib.hid l2
  have F2 := Lib.hid f2
  have hlog : wc.cell? ⟨L, 1, none⟩ = some (.pointer (none.map fun g => ⟨g, 0, none⟩)) := by
    obtain ⟨v, hb, -, -, -, -⟩ := l2
    exact blk_cell hb 1 rfl
  simp only [Option.map_none] at hlog
  have Hw1 := Lib.hid (show Fr (fun _ => False) w ((w.alloc (.cells #[.pointer (some ⟨L, 0, none⟩)] 28)).alloc (.cells #[.int .i64 xs.length] 3)) from ((Fr.refl _ w).alloc _).alloc _)
  clear l2 f2 Hb Ho Hl Hs Hsv B1 B2 Hne b1 b2
  go_wp2_with (go_at_call 29; go_must (refine (keep_nil _ _).mono ?_); rintro e w3 ⟨rfl, rfl⟩)
  go_ret
  exact ⟨rfl, _, L2.out, (Hw1.out.mono (fun _ h => h.elim)).then_ F2.out (fun k hk => .inl hk), fun k hk => hk.imp id (fun h => by have := Hw1.out.size; omega)⟩
end Go.Proofs.Ytlfbgndaojcgdaa
