/- Books' log and its list of accounts. -/
import Derived.Test.YtjchjpmgbmeohaaDoorBkJ
import Derived.Test.YtjchjpmgbmeohaaDoorRw
set_option linter.unusedSimpArgs false
set_option linter.unusedVariables false
namespace Go.Proofs.YtjchjpmgbmeohaaDoor
open Go.RowKit

theorem Tryd.infoFn : (Tryd.prog.info? 1).map (fun i => (i.zero, i.size, i.bytes)) = some (some .nilFunc, 1, 8) := by kernel_rfl
theorem Tryd.infoAcc : (Tryd.prog.info? 26).map (fun i => (i.zero, i.size, i.bytes)) = some (some (.agg #[.int .u64 0, .int .u64 0, .int .u64 0, .int .u64 0, .int .u64 0, .int .u64 0, .int .u64 0, .int .u64 0, .int .u64 0, .int .u64 0, .int .i64 0, .int .i64 0, .int .i64 0, .int .i64 0]), 14, 112) := by kernel_rfl
/-- The log, in the state's block. -/
abbrev LogAt (w : World) (G : Nat → Prop) (B : Nat) (rest : List Value) (n : Nat) (vs : List Value) : Prop := Rw w G B 100 1 1 rest n vs
abbrev AccL (w : World) (S : Nat → Prop) (L B : Nat) (xs : List Acc) : Prop := Rw w S L 137 26 14 [.pointer (some ⟨B, 0, none⟩)] xs.length (xs.flatMap Acc.cells)
set_option maxHeartbeats 1600000 in
theorem keepB (w : World) (G : Nat → Prop) (g : Nat) (rest : List Value) (n : Nat) (vs : List Value) (fn : Fn) (fs cs : Array Value) (h : LogAt w G g rest n vs) (hn : n ≤ 1000000) :
    Calls Tryd.prog 58 #[.pointer (some ⟨g, 0, none⟩), .func fn fs cs] w fun r w' => r = .returned (.tuple #[]) ∧ LogAt w' (Gro G w w') g rest (n + 1) (vs ++ [.func fn fs cs]) ∧ Fr G w w' := by
  obtain ⟨i0, hi, hz0, hz1, hz2⟩ := info_parts Tryd.infoFn
  obtain ⟨v, hb, ho, hG, hS, hl⟩ := h
  have c0 := blk_cell hb 0 rfl
  have Hb := Lib.hid hb
  have Ho := Lib.hid ho
  have Hg := Lib.hid hG
  have Hs := Lib.hid hS
  have Hl := Lib.hid hl
  have Hne := Lib.hid (show ¬ v.ownBlock = some g from fun he => (Hs.out g he).2 rfl)
  have ca := blk_cell (heap_alloc_new w (.cells #[.func fn fs cs] 1)) 0 rfl
  clear hb ho hG hS hl
  go_enter Tryd.func58, Tryd.ntmps58
  go_wp2_with (at_builtin; go_must (refine wpList_append_fresh _ w rfl (.tmp 10) (.tmp 12) 88 rfl 1 i0 .nilFunc 1 8 Tryd.underlying88 hi hz0 hz1 hz2 rfl (by decide) v n _ rfl Ho.out #[.func fn fs cs] rfl rfl rfl (by intro x hx; simp at hx; subst hx; rfl) (by omega) (by omega) ?_; intro g2 cap2 w2 hown2 hf2 hat2; have hb' := hf2.blk (blk_alloc Hb.out _) Hne.out; have c0' := blk_cell hb' 0 rfl; have f0' := blk_free hb' 0; have HR := Lib.hid (rw_push Hb.out Hg.out Hs.out Hl.out ((Fr.refl _ w).alloc (.cells #[.func fn fs cs] 1)) hown2 hf2 hat2); clear hb' hown2 hf2 hat2))
  go_end0
  exact ⟨rfl, HR.out.1, HR.out.2⟩
theorem accLen (w : World) (S : Nat → Prop) (L B : Nat) (xs : List Acc) (h : AccL w S L B xs) :
    Calls Tryd.prog 54 #[.pointer (some ⟨L, 0, none⟩)] w fun e w' => e = .returned (.int .i64 xs.length) ∧ w' = w := by
  obtain ⟨v, hb, ho, -, -, -⟩ := h
  obtain ⟨a, cap, rfl, -, -⟩ := own_form ho
  have c0 := blk_cell hb 0 rfl
  clear hb ho
  go_enter Tryd.func54, Tryd.ntmps54
  go_wp2
  go_ret
  exact ⟨rfl, rfl⟩
def addFn (L1 N1 : Nat) : Value := .func (.func 98) #[] #[.pointer (some ⟨L1, 0, none⟩), .pointer (some ⟨N1, 0, none⟩)]
set_option maxRecDepth 4000 in
set_option maxHeartbeats 3200000 in
theorem accAdd (w : World) (S G : Nat → Prop) (L B : Nat) (rest : List Value) (xs : List Acc) (a : Acc) (n : Nat) (vs : List Value) (hl : AccL w S L B xs) (hg : LogAt w G B rest n vs) (hd : ∀ k, S k → ¬ G k) (hx : xs.length ≤ 100000) (hn : n ≤ 100000) :
    Calls Tryd.prog 61 #[.pointer (some ⟨L, 0, none⟩), .agg #[.int .u64 a.id.hi, .int .u64 a.id.lo, .int .u64 a.dp.hi, .int .u64 a.dp.lo, .int .u64 a.dq.hi, .int .u64 a.dq.lo, .int .u64 a.cp.hi, .int .u64 a.cp.lo, .int .u64 a.cq.hi, .int .u64 a.cq.lo, .int .i64 a.ledger, .int .i64 a.code, .int .i64 a.flags, .int .i64 a.stamp]] w fun r w' => r = .returned (.int .i64 xs.length) ∧ ∃ m, w.heap.size + 3 ≤ m ∧ m ≤ w'.heap.size ∧ AccL w' (fun k => S k ∨ (w.heap.size + 3 ≤ k ∧ k < m)) L B (xs ++ [a]) ∧ LogAt w' (fun k => G k ∨ (m ≤ k ∧ k < w'.heap.size)) B rest (n + 1) (vs ++ [addFn w.heap.size (w.heap.size + 1 + 1)]) ∧ Fr (fun k => S k ∨ G k) w w' ∧ w'.heap[w.heap.size]? = some (.cells #[.pointer (some ⟨L, 0, none⟩)] 91 (0, 0)) ∧ w'.heap[w.heap.size + 1 + 1]? = some (.cells #[.int .i64 xs.length] 3 (0, 0)) := by
  obtain ⟨i0, hi, hz0, hz1, hz2⟩ := info_parts Tryd.infoAcc
  have hmf : ∀ (fn : Fn) (first cap : Array Value) (w : World), (Instr.makeFunc fn first cap).run Tryd.prog w = .ok (.func fn first cap) w := fun _ _ _ _ => rfl
  have HL := Lib.hid hl
  have HGg := Lib.hid hg
  have HD := Lib.hid hd
  obtain ⟨v, hb, ho, hS, hSv, hlt⟩ := hl
  obtain ⟨a0, cap, rfl, hc, -⟩ := own_form ho
  have c0 := blk_cell hb 0 rfl
  have f0 := blk_free hb 0
  have hLlt := blk_lt hb
  have F3 := Lib.hid ((((Fr.refl (fun _ => False) w).alloc (.cells #[.pointer (some ⟨L, 0, none⟩)] 91)).alloc (.cells #[.int .u64 a.id.hi, .int .u64 a.id.lo, .int .u64 a.dp.hi, .int .u64 a.dp.lo, .int .u64 a.dq.hi, .int .u64 a.dq.lo, .int .u64 a.cp.hi, .int .u64 a.cp.lo, .int .u64 a.cq.hi, .int .u64 a.cq.lo, .int .i64 a.ledger, .int .i64 a.code, .int .i64 a.flags, .int .i64 a.stamp] 26)).alloc (.cells #[.int .i64 xs.length] 3))
  have Hb := Lib.hid (F3.out.blk hb (fun h => h))
  have Ho := Lib.hid (own_fr ho F3.out (fun _ _ h => h))
  have Hs := Lib.hid hS
  have Hsv := Lib.hid hSv
  have Hlt := Lib.hid hlt
  have HZ := Lib.hid (show (((w.alloc (.cells #[.pointer (some ⟨L, 0, none⟩)] 91)).alloc (.cells #[.int .u64 a.id.hi, .int .u64 a.id.lo, .int .u64 a.dp.hi, .int .u64 a.dp.lo, .int .u64 a.dq.hi, .int .u64 a.dq.lo, .int .u64 a.cp.hi, .int .u64 a.cp.lo, .int .u64 a.cq.hi, .int .u64 a.cq.lo, .int .i64 a.ledger, .int .i64 a.code, .int .i64 a.flags, .int .i64 a.stamp] 26)).alloc (.cells #[.int .i64 xs.length] 3)).heap.size = w.heap.size + 3 from by simp)
  have Hl3 := Lib.hid (show ∀ k, S k → k < (((w.alloc (.cells #[.pointer (some ⟨L, 0, none⟩)] 91)).alloc (.cells #[.int .u64 a.id.hi, .int .u64 a.id.lo, .int .u64 a.dp.hi, .int .u64 a.dp.lo, .int .u64 a.dq.hi, .int .u64 a.dq.lo, .int .u64 a.cp.hi, .int .u64 a.cp.lo, .int .u64 a.cq.hi, .int .u64 a.cq.lo, .int .i64 a.ledger, .int .i64 a.code, .int .i64 a.flags, .int .i64 a.stamp] 26)).alloc (.cells #[.int .i64 xs.length] 3)).heap.size from fun k hk => by have := hlt k hk; have := HZ.out; omega)
  have Hn := Lib.hid (show (xs ++ [a]).flatMap Acc.cells = xs.flatMap Acc.cells ++ (#[.int .u64 a.id.hi, .int .u64 a.id.lo, .int .u64 a.dp.hi, .int .u64 a.dp.lo, .int .u64 a.dq.hi, .int .u64 a.dq.lo, .int .u64 a.cp.hi, .int .u64 a.cp.lo, .int .u64 a.cq.hi, .int .u64 a.cq.lo, .int .i64 a.ledger, .int .i64 a.code, .int .i64 a.flags, .int .i64 a.stamp] : Array Value).toList from by rw [List.flatMap_append]; simp [Acc.cells])
  have Hn2 := Lib.hid (show (xs ++ [a]).length = xs.length + 1 from by simp)
  have B0 := Lib.hid (blk_alloc (blk_alloc (heap_alloc_new w (.cells #[.pointer (some ⟨L, 0, none⟩)] 91)) (.cells #[.int .u64 a.id.hi, .int .u64 a.id.lo, .int .u64 a.dp.hi, .int .u64 a.dp.lo, .int .u64 a.dq.hi, .int .u64 a.dq.lo, .int .u64 a.cp.hi, .int .u64 a.cp.lo, .int .u64 a.cq.hi, .int .u64 a.cq.lo, .int .i64 a.ledger, .int .i64 a.code, .int .i64 a.flags, .int .i64 a.stamp] 26)) (.cells #[.int .i64 xs.length] 3))
  have B1 := Lib.hid (blk_alloc (blk1 w (.cells #[.pointer (some ⟨L, 0, none⟩)] 91) (.cells #[.int .u64 a.id.hi, .int .u64 a.id.lo, .int .u64 a.dp.hi, .int .u64 a.dp.lo, .int .u64 a.dq.hi, .int .u64 a.dq.lo, .int .u64 a.cp.hi, .int .u64 a.cp.lo, .int .u64 a.cq.hi, .int .u64 a.cq.lo, .int .i64 a.ledger, .int .i64 a.code, .int .i64 a.flags, .int .i64 a.stamp] 26)) (.cells #[.int .i64 xs.length] 3))
  have B2 := Lib.hid (blk2 w (.cells #[.pointer (some ⟨L, 0, none⟩)] 91) (.cells #[.int .u64 a.id.hi, .int .u64 a.id.lo, .int .u64 a.dp.hi, .int .u64 a.dp.lo, .int .u64 a.dq.hi, .int .u64 a.dq.lo, .int .u64 a.cp.hi, .int .u64 a.cp.lo, .int .u64 a.cq.hi, .int .u64 a.cq.lo, .int .i64 a.ledger, .int .i64 a.code, .int .i64 a.flags, .int .i64 a.stamp] 26) (.cells #[.int .i64 xs.length] 3))
  have Hne := Lib.hid (show ¬ (Value.slice a0 xs.length cap).ownBlock = some L from fun he => (hSv L he).2 rfl)
  have Hng := Lib.hid (show ∀ k, w.heap.size ≤ k → ¬ (Value.slice a0 xs.length cap).ownBlock = some k from fun k h1 he => by have := hlt _ (hSv _ he).1; omega)
  clear hb ho hlt hS hSv hg hd
  go_enter Tryd.func61, Tryd.ntmps61
  go_upto_region 4 with fail
  go_cut [] from 6 (fun w' => AccL w' (Gro S (((w.alloc (.cells #[.pointer (some ⟨L, 0, none⟩)] 91)).alloc (.cells #[.int .u64 a.id.hi, .int .u64 a.id.lo, .int .u64 a.dp.hi, .int .u64 a.dp.lo, .int .u64 a.dq.hi, .int .u64 a.dq.lo, .int .u64 a.cp.hi, .int .u64 a.cp.lo, .int .u64 a.cq.hi, .int .u64 a.cq.lo, .int .i64 a.ledger, .int .i64 a.code, .int .i64 a.flags, .int .i64 a.stamp] 26)).alloc (.cells #[.int .i64 xs.length] 3)) w') L B (xs ++ [a]) ∧ Fr S (((w.alloc (.cells #[.pointer (some ⟨L, 0, none⟩)] 91)).alloc (.cells #[.int .u64 a.id.hi, .int .u64 a.id.lo, .int .u64 a.dp.hi, .int .u64 a.dp.lo, .int .u64 a.dq.hi, .int .u64 a.dq.lo, .int .u64 a.cp.hi, .int .u64 a.cp.lo, .int .u64 a.cq.hi, .int .u64 a.cq.lo, .int .i64 a.ledger, .int .i64 a.code, .int .i64 a.flags, .int .i64 a.stamp] 26)).alloc (.cells #[.int .i64 xs.length] 3)) w')
  case first =>
    have c0w := blk_cell Hb.out 0 rfl
    have p0w := blk_cell B0.out 0 rfl
    have a0w := blk_cell B1.out 0 rfl; have a1w := blk_cell B1.out 1 rfl; have a2w := blk_cell B1.out 2 rfl; have a3w := blk_cell B1.out 3 rfl; have a4w := blk_cell B1.out 4 rfl; have a5w := blk_cell B1.out 5 rfl; have a6w := blk_cell B1.out 6 rfl; have a7w := blk_cell B1.out 7 rfl; have a8w := blk_cell B1.out 8 rfl; have a9w := blk_cell B1.out 9 rfl; have a10w := blk_cell B1.out 10 rfl; have a11w := blk_cell B1.out 11 rfl; have a12w := blk_cell B1.out 12 rfl; have a13w := blk_cell B1.out 13 rfl
    have c0x := blk_cell (blk_alloc Hb.out (.cells #[.int .u64 a.id.hi, .int .u64 a.id.lo, .int .u64 a.dp.hi, .int .u64 a.dp.lo, .int .u64 a.dq.hi, .int .u64 a.dq.lo, .int .u64 a.cp.hi, .int .u64 a.cp.lo, .int .u64 a.cq.hi, .int .u64 a.cq.lo, .int .i64 a.ledger, .int .i64 a.code, .int .i64 a.flags, .int .i64 a.stamp] 26)) 0 rfl
    have p0x := blk_cell (blk_alloc B0.out (.cells #[.int .u64 a.id.hi, .int .u64 a.id.lo, .int .u64 a.dp.hi, .int .u64 a.dp.lo, .int .u64 a.dq.hi, .int .u64 a.dq.lo, .int .u64 a.cp.hi, .int .u64 a.cp.lo, .int .u64 a.cq.hi, .int .u64 a.cq.lo, .int .i64 a.ledger, .int .i64 a.code, .int .i64 a.flags, .int .i64 a.stamp] 26)) 0 rfl
    have f0x := blk_free (blk_alloc Hb.out (.cells #[.int .u64 a.id.hi, .int .u64 a.id.lo, .int .u64 a.dp.hi, .int .u64 a.dp.lo, .int .u64 a.dq.hi, .int .u64 a.dq.lo, .int .u64 a.cp.hi, .int .u64 a.cp.lo, .int .u64 a.cq.hi, .int .u64 a.cq.lo, .int .i64 a.ledger, .int .i64 a.code, .int .i64 a.flags, .int .i64 a.stamp] 26)) 0
    go_region_law (first | (refine step_append_fresh _ (((w.alloc (.cells #[.pointer (some ⟨L, 0, none⟩)] 91)).alloc (.cells #[.int .u64 a.id.hi, .int .u64 a.id.lo, .int .u64 a.dp.hi, .int .u64 a.dp.lo, .int .u64 a.dq.hi, .int .u64 a.dq.lo, .int .u64 a.cp.hi, .int .u64 a.cp.lo, .int .u64 a.cq.hi, .int .u64 a.cq.lo, .int .i64 a.ledger, .int .i64 a.code, .int .i64 a.flags, .int .i64 a.stamp] 26)).alloc (.cells #[.int .i64 xs.length] 3)).drew rfl (.tmp 17) (.tmp 19) 42 rfl 26 i0 (.agg #[.int .u64 0, .int .u64 0, .int .u64 0, .int .u64 0, .int .u64 0, .int .u64 0, .int .u64 0, .int .u64 0, .int .u64 0, .int .u64 0, .int .i64 0, .int .i64 0, .int .i64 0, .int .i64 0]) 14 112 Tryd.underlying42 hi hz0 hz1 hz2 rfl (by decide) (.slice a0 xs.length cap) xs.length _ (by simp only [Act.eval, Act.put]; rfl) Ho.out.drew #[.int .u64 a.id.hi, .int .u64 a.id.lo, .int .u64 a.dp.hi, .int .u64 a.dp.lo, .int .u64 a.dq.hi, .int .u64 a.dq.lo, .int .u64 a.cp.hi, .int .u64 a.cp.lo, .int .u64 a.cq.hi, .int .u64 a.cq.lo, .int .i64 a.ledger, .int .i64 a.code, .int .i64 a.flags, .int .i64 a.stamp] rfl (by simp [Act.eval, Act.put]) rfl (by intro u hu; simp at hu; rcases hu with rfl | rfl | rfl | rfl | rfl | rfl | rfl | rfl | rfl | rfl | rfl | rfl | rfl | rfl <;> rfl) (by omega) (by omega) ?_; intro g2 cap2 w2 hown2 hf2 hat2; have hb' := hf2.blk (blk_alloc (w := (((w.alloc (.cells #[.pointer (some ⟨L, 0, none⟩)] 91)).alloc (.cells #[.int .u64 a.id.hi, .int .u64 a.id.lo, .int .u64 a.dp.hi, .int .u64 a.dp.lo, .int .u64 a.dq.hi, .int .u64 a.dq.lo, .int .u64 a.cp.hi, .int .u64 a.cp.lo, .int .u64 a.cq.hi, .int .u64 a.cq.lo, .int .i64 a.ledger, .int .i64 a.code, .int .i64 a.flags, .int .i64 a.stamp] 26)).alloc (.cells #[.int .i64 xs.length] 3)).drew) Hb.out _) Hne.out; have c0' := blk_cell hb' 0 rfl; have f0' := blk_free hb' 0; have p0' := blk_cell (hf2.blk (blk_alloc (w := (((w.alloc (.cells #[.pointer (some ⟨L, 0, none⟩)] 91)).alloc (.cells #[.int .u64 a.id.hi, .int .u64 a.id.lo, .int .u64 a.dp.hi, .int .u64 a.dp.lo, .int .u64 a.dq.hi, .int .u64 a.dq.lo, .int .u64 a.cp.hi, .int .u64 a.cp.lo, .int .u64 a.cq.hi, .int .u64 a.cq.lo, .int .i64 a.ledger, .int .i64 a.code, .int .i64 a.flags, .int .i64 a.stamp] 26)).alloc (.cells #[.int .i64 xs.length] 3)).drew) B0.out _) (Hng.out _ (Nat.le_refl _))) 0 rfl))
    all_goals
      have HR := Lib.hid (rw_push Hb.out Hs.out Hsv.out Hl3.out ((Fr.refl _ (((w.alloc (.cells #[.pointer (some ⟨L, 0, none⟩)] 91)).alloc (.cells #[.int .u64 a.id.hi, .int .u64 a.id.lo, .int .u64 a.dp.hi, .int .u64 a.dp.lo, .int .u64 a.dq.hi, .int .u64 a.dq.lo, .int .u64 a.cp.hi, .int .u64 a.cp.lo, .int .u64 a.cq.hi, .int .u64 a.cq.lo, .int .i64 a.ledger, .int .i64 a.code, .int .i64 a.flags, .int .i64 a.stamp] 26)).alloc (.cells #[.int .i64 xs.length] 3))).drew.alloc (.cells #[.int .u64 a.id.hi, .int .u64 a.id.lo, .int .u64 a.dp.hi, .int .u64 a.dp.lo, .int .u64 a.dq.hi, .int .u64 a.dq.lo, .int .u64 a.cp.hi, .int .u64 a.cp.lo, .int .u64 a.cq.hi, .int .u64 a.cq.lo, .int .i64 a.ledger, .int .i64 a.code, .int .i64 a.flags, .int .i64 a.stamp] 26)) hown2 hf2 hat2)
      clear hown2 hf2 hat2
      go_wp2_with fail
      go_meet
      exact ⟨by have h := HR.out.1; unfold AccL; rw [Hn2.out, Hn.out]; exact h, HR.out.2⟩
  case rest =>
  obtain ⟨l2, f2⟩ := hcut
  have L2 := Lib.hid l2
  have F2 := Lib.hid f2
  have HSno := Lib.hid (show ∀ k, w.heap.size ≤ k → ¬ S k from fun k h1 hk => by have := Hlt.out k hk; omega)
  have b0 := f2.blk B0.out (HSno.out _ (Nat.le_refl _))
  have b2 := f2.blk B2.out (HSno.out _ (by omega))
  have d0 := blk_cell b0 0 rfl
  have d2 := blk_cell b2 0 rfl
  have HB2 := Lib.hid b2
  have HB0 := Lib.hid b0
  have hlog : wc.cell? ⟨L, 1, none⟩ = some (.pointer (some ⟨B, 0, none⟩)) := by
    obtain ⟨v, hb, -, -, -, -⟩ := l2
    exact blk_cell hb 1 rfl
  have G2 := Lib.hid (show LogAt wc G B rest n vs from Rw.fr (Rw.fr HGg.out F3.out (fun _ _ h => h)) f2 (fun k hk hs => HD.out k hs hk))
  have HK := Lib.hid (keepB wc G B rest n vs (.func 98) #[] #[.pointer (some ⟨w.heap.size, 0, none⟩), .pointer (some ⟨w.heap.size + 1 + 1, 0, none⟩)] G2.out (by omega))
  have HGlt := Lib.hid (show ∀ k, G k → k < w.heap.size from fun k hk => Rw.lt HGg.out hk)
  have HSz := Lib.hid (show w.heap.size + 3 ≤ wc.heap.size from by have := f2.size; have := HZ.out; omega)
  clear l2 f2 b0 b2
  go_wp2_with fail
  refine HK.out.mono ?_
  rintro e w3 ⟨rfl, g3, f3⟩
  have d2' := blk_cell (f3.blk HB2.out (fun hk => by have := HGlt.out _ hk; omega)) 0 rfl
  have G3 := Lib.hid g3
  have F4 := Lib.hid f3
  clear g3 f3
  go_wp2_with fail
  go_ret
  refine ⟨rfl, wc.heap.size, HSz.out, F4.out.size, ?_, ?_, ?_, F4.out.blk HB0.out (fun hk => by have := HGlt.out _ hk; omega), F4.out.blk HB2.out (fun hk => by have := HGlt.out _ hk; omega)⟩
  · have h := Rw.fr L2.out F4.out (fun k hk hgk => ?_)
    · refine Rw.mono h (fun k hk => hk.imp id (fun h => ⟨by have := HZ.out; have := h.1; omega, h.2⟩)) (fun k hk => ?_)
      rcases hk with hk | hk
      · exact Nat.lt_of_lt_of_le (Hlt.out k hk) (Nat.le_trans (by have := HSz.out; omega) F4.out.size)
      · exact Nat.lt_of_lt_of_le hk.2 F4.out.size
    · rcases hk with hk | hk
      · exact HD.out k hk hgk
      · have := HGlt.out k hgk; have := hk.1; have := HZ.out; omega
  · exact Rw.mono G3.out (fun k hk => hk) (fun k hk => hk.elim (fun h => Nat.lt_of_lt_of_le (HGlt.out k h) (Nat.le_trans (by have := HSz.out; omega) F4.out.size)) (fun h => h.2))
  · exact (((F3.out.mono (fun k h => h.elim)).then_ F2.out (fun k hk => .inl (.inl hk))) : Fr (fun k => S k ∨ G k) w wc) |>.then_ F4.out (fun k hk => .inl (.inr hk))
end Go.Proofs.YtjchjpmgbmeohaaDoor
