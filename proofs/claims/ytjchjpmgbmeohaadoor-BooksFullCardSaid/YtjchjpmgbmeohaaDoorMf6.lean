/- Several texts in one, for the law BooksFull: BkR, LoadEq, BkV, BkW, Slot, BoA, BoB, Copy, BoC, BoD, BoE, BoH. Each says what it shows; conditions: what each theorem names. -/
import Derived.Test.YtjchjpmgbmeohaaDoorMf5
import Derived.WalkKit
import Derived.Laws.Rows
import Derived.Deep.MidRow
import Derived.Test.YtjchjpmgbmeohaaDoorMf3
import Derived.Test.YtjchjpmgbmeohaaDoorMf1
import Derived.BigQuiet
import Derived.Lib.Hide
import Derived.Deep.DeepMust
import Derived.Deep.CutBlock
import Derived.Deep.RegionLaw
import Derived.KernelRfl
import Derived.Test.YtjchjpmgbmeohaaDoorProg
import Derived.Laws.CopyOwn
/- Books: New. -/
set_option linter.unusedSimpArgs false
set_option linter.unusedVariables false
namespace Go.Proofs.YtjchjpmgbmeohaaDoor
open Go.RowKit

theorem ofA (w : World) (B : Nat) : Calls Tryd.prog 52 #[.pointer (some ⟨B, 0, none⟩)] w fun e w' => e = .returned (.pointer (some ⟨w.heap.size, 0, none⟩)) ∧ w' = w.alloc (.cells #[.slice none 0 0, .pointer (some ⟨B, 0, none⟩)] 137) := by
  go_enter Tryd.func52, Tryd.ntmps52
  go_wp2_with fail
  go_ret
  exact ⟨rfl, rfl⟩
theorem ofK (w : World) (B : Nat) : Calls Tryd.prog 53 #[.pointer (some ⟨B, 0, none⟩)] w fun e w' => e = .returned (.pointer (some ⟨w.heap.size, 0, none⟩)) ∧ w' = w.alloc (.cells #[.slice none 0 0, .pointer (some ⟨B, 0, none⟩)] 139) := by
  go_enter Tryd.func53, Tryd.ntmps53
  go_wp2_with fail
  go_ret
  exact ⟨rfl, rfl⟩
def Raw.empty : Raw := ⟨[], [], fun _ => none, fun _ => none, fun _ => none, fun _ => none, 0, 0⟩
def NewBooks (w : World) (e : Ending) (w' : World) : Prop := ∃ lab d, e = .returned (.pointer (some ⟨d.B, 0, none⟩)) ∧ Sta w' lab d Raw.empty [] 0 ∧ (∀ k, lab k ≠ 0 → w.heap.size ≤ k) ∧ Fr (fun _ => False) w w'
/-- What New leaves. -/
structure Made (w w3 : World) (B A K T1 T2 : Nat) : Prop where
  blk : w3.heap[B]? = some (.cells #[.slice none 0 0, .pointer (some ⟨A, 0, none⟩), .pointer (some ⟨K, 0, none⟩), .pointer (some ⟨T1, 0, none⟩), .pointer (some ⟨T2, 0, none⟩), .slice none 0 0, .slice none 0 0, .int .i64 0, .int .i64 0] 100 (0, 0))
  a : w3.heap[A]? = some (.cells #[.slice none 0 0, .pointer (some ⟨B, 0, none⟩)] 137 (0, 0))
  k : w3.heap[K]? = some (.cells #[.slice none 0 0, .pointer (some ⟨B, 0, none⟩)] 139 (0, 0))
  f : Fr (fun k => k = B) w w3
open Classical in
/-- .. is an empty state. -/
theorem made_sta {w0 w1 w2 w3 : World} {B A K T1 T2 : Nat} {S1 S2 : Nat → Prop} (t1 : IsT w1 S1 T1 empty8) (h1 : ∀ k, S1 k → w0.heap.size ≤ k) (f1 : Fr (fun _ => False) w0 w1) (t2 : IsT w2 S2 T2 empty8) (h2 : ∀ k, S2 k → w1.heap.size ≤ k) (f2 : Fr (fun _ => False) w1 w2)
    (m : Made w2 w3 B A K T1 T2) (hB : w2.heap.size ≤ B) (hA : B < A) (hK : B < K) (hne : A ≠ K) : ∃ lab, Sta w3 lab ⟨B, A, K, T1, T2⟩ Raw.empty [] 0 ∧ (∀ k, lab k ≠ 0 → w0.heap.size ≤ k) ∧ Fr (fun _ => False) w0 w3 := by
  have s1 := f1.size
  have s2 := f2.size
  have lB := blk_lt m.blk
  have lA := blk_lt m.a
  have lK := blk_lt m.k
  have l1 : ∀ k, S1 k → k < w1.heap.size := fun k hk => Rw.lt t1.is hk
  have l2 : ∀ k, S2 k → k < w2.heap.size := fun k hk => Rw.lt t2.is hk
  have hbl : ∀ k, k < w2.heap.size → k ≠ B ∧ k ≠ A ∧ k ≠ K := fun k hk => ⟨by omega, by omega, by omega⟩
  let lab : Nat → Nat := fun k => if k = B then 8 else if k = A then 2 else if k = K then 3 else if S1 k then 4 else if S2 k then 5 else 0
  have eB : lab B = 8 := if_pos rfl
  have eA : lab A = 2 := by show (if A = B then 8 else _) = 2; rw [if_neg (by omega), if_pos rfl]
  have eK : lab K = 3 := by show (if K = B then 8 else _) = 3; rw [if_neg (by omega), if_neg (fun e => hne e.symm), if_pos rfl]
  have e1 : ∀ k, S1 k → lab k = 4 := fun k hk => by
    have := hbl k (by have := l1 k hk; omega)
    show (if k = B then 8 else _) = 4
    rw [if_neg this.1, if_neg this.2.1, if_neg this.2.2, if_pos hk]
  have e2 : ∀ k, S2 k → lab k = 5 := fun k hk => by
    have := hbl k (l2 k hk)
    show (if k = B then 8 else _) = 5
    rw [if_neg this.1, if_neg this.2.1, if_neg this.2.2, if_neg (fun h => by have := l1 k h; have := h2 k hk; omega), if_pos hk]
  have inv : ∀ k, lab k ≠ 0 → k = B ∨ k = A ∨ k = K ∨ S1 k ∨ S2 k := fun k hk => by
    by_cases h1 : k = B
    · exact .inl h1
    by_cases h2 : k = A
    · exact .inr (.inl h2)
    by_cases h3 : k = K
    · exact .inr (.inr (.inl h3))
    by_cases h4 : S1 k
    · exact .inr (.inr (.inr (.inl h4)))
    by_cases h5 : S2 k
    · exact .inr (.inr (.inr (.inr h5)))
    exact absurd (show (if k = B then 8 else if k = A then 2 else if k = K then 3 else if S1 k then 4 else if S2 k then 5 else 0) = 0 by rw [if_neg h1, if_neg h2, if_neg h3, if_neg h4, if_neg h5]) hk
  have lt : ∀ k, lab k ≠ 0 → k < w3.heap.size := fun k hk => by
    have s3 := m.f.size
    rcases inv k hk with h | h | h | h | h
    · omega
    · omega
    · omega
    · have := l1 k h; omega
    · have := l2 k h; omega
  refine ⟨lab, ⟨⟨.slice none 0 0, .slice none 0 0, .slice none 0 0, [], [], ⟨m.blk, World.ownsRow_nil _ 0 _ 1, fun k hk => (by cases hk), World.ownsRow_nil _ 0 _ 2, fun k hk => (by cases hk), ⟨List.Pairwise.nil, fun s a => ⟨fun h => (by cases h), fun h => (by cases h)⟩⟩, World.ownsRow_nil _ 0 _ 4, fun k hk => (by cases hk), ⟨fun i x y _ h => by simp at h, List.Pairwise.nil, fun s x => ⟨fun h => (by cases h), fun h => (by cases h.1)⟩⟩, Nat.le_refl _, Nat.le_refl _⟩⟩, eB, ?_, ?_, ?_, ?_, lt, fun e he => (by cases he)⟩, fun k hk => ?_, ?_⟩
  · exact ⟨.slice none 0 0, m.a, World.ownsRow_nil _ 0 _ 14, eA, fun k hk => (by cases hk), fun k hk => lt k (by rw [hk]; decide)⟩
  · exact ⟨.slice none 0 0, m.k, World.ownsRow_nil _ 0 _ 33, eK, fun k hk => (by cases hk), fun k hk => lt k (by rw [hk]; decide)⟩
  · exact ⟨empty8, ((t1.fr f2 (fun _ _ h => h)).fr m.f (fun k hk e => by have := l1 k hk; omega)).mono e1 (fun k hk => lt k (by rw [hk]; decide)), fun y a => ⟨fun h => (empty8_has y a h).elim, fun h => by cases h⟩, by rw [empty8_cnt 1 (by decide)]; exact Nat.le_refl _⟩
  · exact ⟨empty8, (t2.fr m.f (fun k hk e => by have := l2 k hk; omega)).mono e2 (fun k hk => lt k (by rw [hk]; decide)), fun y a => ⟨fun h => (empty8_has y a h).elim, fun h => by cases h⟩, by rw [empty8_cnt 1 (by decide)]; exact Nat.le_refl _⟩
  · rcases inv k hk with h | h | h | h | h
    · omega
    · omega
    · omega
    · exact h1 k h
    · have := h2 k h; omega
  · exact (f1.then_ f2 (fun _ h => h.elim)).then_ m.f (fun k hk => .inr (by omega))
set_option maxRecDepth 4000 in
set_option maxHeartbeats 3200000 in
theorem newS (w : World) : Calls Tryd.prog 15 #[] w (NewBooks w) := by
  have HOA := Lib.hid (fun W B => ofA W B)
  have HOK := Lib.hid (fun W B => ofK W B)
  go_enter Tryd.func15, Tryd.ntmps15
  go_wp2_with fail
  refine (new_any w).mono ?_
  rintro e w1 ⟨T1, S1, rfl, t1, h1, f1⟩
  have HN := Lib.hid (new_any w1)
  have H1 := Lib.hid (And.intro t1 (And.intro h1 f1))
  clear t1 h1 f1
  go_wp2_with fail
  refine HN.out.mono ?_
  rintro e w2 ⟨T2, S2, rfl, t2, h2, f2⟩
  have H2 := Lib.hid (And.intro t2 (And.intro h2 f2))
  clear t2 h2 f2
  go_upto_region 2 with fail
  go_cut [] from 6 (fun w' => ∃ A K, Made w2 w' w2.heap.size A K T1 T2 ∧ w2.heap.size < A ∧ w2.heap.size < K ∧ A ≠ K)
  case first =>
    go_region_held3 (fun w' => True) (trivial)
      (first
        | (go_at_call 52; go_must (with_reducible refine (HOA.out _ _).mono ?_); rintro e w3 ⟨rfl, rfl⟩)
        | (go_at_call 53; go_must (with_reducible refine (HOK.out _ _).mono ?_); rintro e w3 ⟨rfl, rfl⟩))
    go_wp2_with fail
    go_meet
    exact ⟨w2.heap.size + 1, w2.heap.size + 1 + 1, ⟨blk_drew (blk_alloc (blk_alloc (heap_alloc_new w2 _) _) _), blk_drew (blk_alloc (blk1 w2 _ _) _), blk_drew (blk2 w2 _ _ _), (((Fr.refl _ w2).alloc _).alloc _).alloc _ |>.drew⟩, by omega, by omega, by omega⟩
  case rest =>
  obtain ⟨A, K, hm, hA, hK, hne⟩ := hcut
  have HM := Lib.hid (made_sta H1.out.1 H1.out.2.1 H1.out.2.2 H2.out.1 H2.out.2.1 H2.out.2.2 hm (Nat.le_refl _) hA hK hne)
  clear hm hA hK hne
  go_wp2_with fail
  go_ret
  obtain ⟨lab, h, hl, hf⟩ := HM.out
  exact ⟨lab, _, rfl, h, hl, hf⟩
end Go.Proofs.YtjchjpmgbmeohaaDoor

/- The load of a whole struct out of a block that is known whole, as an equation. -/
set_option linter.unusedSimpArgs false
set_option linter.unusedVariables false
namespace Go.Proofs.YtjchjpmgbmeohaaDoor
open Go.RowKit

/-- The same as an equation, for a world at hand: a text that lays 'attribute [-go_sem] loadCells' walks a load by it, in a region that draws too (as a limb of S). -/
theorem ld_row {P : Program} {W : World} (g : Nat) (cs : Array Value) {t : TypeId} {fr : Nat × Nat} {n : Nat} (hn : cs.size = n) (h : W.heap[g]? = some (.cells cs t fr)) : (loadCells ⟨g, 0, none⟩ n).run P W = .ok cs W := by
  have hl := run_loadCells_list (P := P) W ⟨g, 0, none⟩ cs.toList (fun j v hv => by
    have hadd : (⟨g, 0, none⟩ : Addr).add j = ⟨g, j, none⟩ := by unfold Addr.add; split <;> simp_all
    rw [hadd, cell_of_row W g j cs _ _ h]
    simpa using hv)
  rw [Array.length_toList, hn] at hl
  simpa using hl
/-- What a slice that is built of one struct holds. -/
theorem fold_setL {V : Type} : ∀ (l : List V) (k : Nat) (Z : Array V), Z.size = k + l.length → (List.foldl (fun (cs : Array V) (x : V × Nat) => cs.setIfInBounds x.snd x.fst) Z (l.zipIdx k)).toList = Z.toList.take k ++ l
  | [], k, Z, h => by
    simp only [List.zipIdx_nil, List.foldl_nil, List.append_nil]
    rw [List.take_of_length_le]
    simp at h ⊢; omega
  | v :: l, k, Z, h => by
    rw [List.zipIdx_cons, List.foldl_cons, fold_setL l (k + 1) _ (by simp at h ⊢; omega)]
    have hk : k < Z.toList.length := by simp at h ⊢; omega
    rw [Array.toList_setIfInBounds, List.take_add_one, List.getElem?_set_self hk, List.take_set, List.set_eq_of_length_le (by simp; omega)]
    simp
theorem fold_set {V : Type} (Z C : Array V) (n : Nat) (hz : Z.size = n) (hc : C.size = n) : Array.foldl (fun (cs : Array V) (x : V × Nat) => cs.setIfInBounds x.snd x.fst) Z C.zipIdx 0 n = C := by
  subst hc
  have e : C.size = C.zipIdx.size := by simp
  rw [e, ← Array.foldl_toList, Array.toList_zipIdx]
  apply Array.ext'
  rw [fold_setL C.toList 0 Z (by simpa using hz)]
  simp
end Go.Proofs.YtjchjpmgbmeohaaDoor

/- Books' list of transfers: Add. -/
set_option linter.unusedSimpArgs false
set_option linter.unusedVariables false
namespace Go.Proofs.YtjchjpmgbmeohaaDoor
open Go.RowKit

theorem Tryd.infoKep : (Tryd.prog.info? 63).map (fun i => (i.zero, i.size, i.bytes)) = some (some (.agg #[.int .u64 0, .int .u64 0, .int .u64 0, .int .u64 0, .int .u64 0, .int .u64 0, .int .u64 0, .int .u64 0, .int .u64 0, .int .u64 0, .int .i64 0, .int .i64 0, .int .i64 0, .int .i64 0, .int .i64 0, .int .i64 0, .int .u64 0, .int .u64 0, .int .u64 0, .int .u64 0, .int .u64 0, .int .u64 0, .int .u64 0, .int .u64 0, .int .u64 0, .int .u64 0, .int .i64 0, .int .i64 0, .int .i64 0, .int .i64 0, .int .i64 0, .int .i64 0, .int .i64 0]), 33, 264) := by kernel_rfl
attribute [-go_sem] loadCells
def addFnK (L1 N1 : Nat) : Value := .func (.func 99) #[] #[.pointer (some ⟨L1, 0, none⟩), .pointer (some ⟨N1, 0, none⟩)]
set_option maxRecDepth 4000 in
set_option maxHeartbeats 3200000 in
theorem kepAdd (w : World) (S G : Nat → Prop) (L B : Nat) (rest : List Value) (xs : List Kp) (a : Kp) (n : Nat) (vs : List Value) (hl : KepL w S L B xs) (hg : LogAt w G B rest n vs) (hd : ∀ k, S k → ¬ G k) (hx : xs.length ≤ 100000) (hn : n ≤ 100000) :
    Calls Tryd.prog 63 #[.pointer (some ⟨L, 0, none⟩), .agg a.cells.toArray] w fun r w' => r = .returned (.int .i64 xs.length) ∧ ∃ m, w.heap.size + 3 ≤ m ∧ m ≤ w'.heap.size ∧ KepL w' (fun k => S k ∨ (w.heap.size + 3 ≤ k ∧ k < m)) L B (xs ++ [a]) ∧ LogAt w' (fun k => G k ∨ (m ≤ k ∧ k < w'.heap.size)) B rest (n + 1) (vs ++ [addFnK w.heap.size (w.heap.size + 1 + 1)]) ∧ Fr (fun k => S k ∨ G k) w w' ∧ w'.heap[w.heap.size]? = some (.cells #[.pointer (some ⟨L, 0, none⟩)] 92 (0, 0)) ∧ w'.heap[w.heap.size + 1 + 1]? = some (.cells #[.int .i64 xs.length] 3 (0, 0)) := by
  obtain ⟨C, hC⟩ : ∃ C, a.cells.toArray = C := ⟨_, rfl⟩
  have hCs : C.size = 33 := by rw [← hC]; rfl
  have HCo := Lib.hid (show ∀ u ∈ C.toList, u.oneCell' = true from by rw [← hC]; simp [Kp.cells, Tx.cells, Value.oneCell'])
  have HFo := Lib.hid (show Array.foldl (fun cs (x : Value × Nat) => cs.setIfInBounds x.snd x.fst) #[Value.int .u64 0, Value.int .u64 0, Value.int .u64 0, Value.int .u64 0, Value.int .u64 0, Value.int .u64 0, Value.int .u64 0, Value.int .u64 0, Value.int .u64 0, Value.int .u64 0, Value.int .i64 0, Value.int .i64 0, Value.int .i64 0, Value.int .i64 0, Value.int .i64 0, Value.int .i64 0, Value.int .u64 0, Value.int .u64 0, Value.int .u64 0, Value.int .u64 0, Value.int .u64 0, Value.int .u64 0, Value.int .u64 0, Value.int .u64 0, Value.int .u64 0, Value.int .u64 0, Value.int .i64 0, Value.int .i64 0, Value.int .i64 0, Value.int .i64 0, Value.int .i64 0, Value.int .i64 0, Value.int .i64 0] C.zipIdx 0 33 = C from fold_set _ C 33 rfl hCs)
  rw [hC]
  have HC := Lib.hid hC
  obtain ⟨i0, hi, hz0, hz1, hz2⟩ := info_parts Tryd.infoKep
  have hmf : ∀ (fn : Fn) (first cap : Array Value) (w : World), (Instr.makeFunc fn first cap).run Tryd.prog w = .ok (.func fn first cap) w := fun _ _ _ _ => rfl
  have HL := Lib.hid hl
  have HGg := Lib.hid hg
  have HD := Lib.hid hd
  obtain ⟨v, hb, ho, hS, hSv, hlt⟩ := hl
  obtain ⟨a0, cap, rfl, hc, -⟩ := own_form ho
  have c0 := blk_cell hb 0 rfl
  have f0 := blk_free hb 0
  have hLlt := blk_lt hb
  have F3 := Lib.hid ((((Fr.refl (fun _ => False) w).alloc (.cells #[.pointer (some ⟨L, 0, none⟩)] 92)).alloc (.cells C 63)).alloc (.cells #[.int .i64 xs.length] 3))
  have Hb := Lib.hid (F3.out.blk hb (fun h => h))
  have Ho := Lib.hid (own_fr ho F3.out (fun _ _ h => h))
  have Hs := Lib.hid hS
  have Hsv := Lib.hid hSv
  have Hlt := Lib.hid hlt
  have HZ := Lib.hid (show (((w.alloc (.cells #[.pointer (some ⟨L, 0, none⟩)] 92)).alloc (.cells C 63)).alloc (.cells #[.int .i64 xs.length] 3)).heap.size = w.heap.size + 3 from by simp)
  have Hl3 := Lib.hid (show ∀ k, S k → k < (((w.alloc (.cells #[.pointer (some ⟨L, 0, none⟩)] 92)).alloc (.cells C 63)).alloc (.cells #[.int .i64 xs.length] 3)).heap.size from fun k hk => by have := hlt k hk; have := HZ.out; omega)
  have Hn := Lib.hid (show (xs ++ [a]).flatMap Kp.cells = xs.flatMap Kp.cells ++ C.toList from by rw [List.flatMap_append, ← hC]; simp)
  have Hn2 := Lib.hid (show (xs ++ [a]).length = xs.length + 1 from by simp)
  have B0 := Lib.hid (blk_alloc (blk_alloc (heap_alloc_new w (.cells #[.pointer (some ⟨L, 0, none⟩)] 92)) (.cells C 63)) (.cells #[.int .i64 xs.length] 3))
  have B1 := Lib.hid (blk_alloc (blk1 w (.cells #[.pointer (some ⟨L, 0, none⟩)] 92) (.cells C 63)) (.cells #[.int .i64 xs.length] 3))
  have B2 := Lib.hid (blk2 w (.cells #[.pointer (some ⟨L, 0, none⟩)] 92) (.cells C 63) (.cells #[.int .i64 xs.length] 3))
  have Hne := Lib.hid (show ¬ (Value.slice a0 xs.length cap).ownBlock = some L from fun he => (hSv L he).2 rfl)
  have Hng := Lib.hid (show ∀ k, w.heap.size ≤ k → ¬ (Value.slice a0 xs.length cap).ownBlock = some k from fun k h1 he => by have := hlt _ (hSv _ he).1; omega)
  clear hb ho hlt hS hSv hg hd hC
  go_enter Tryd.func63, Tryd.ntmps63
  go_upto_region 4 with fail
  go_cut [] from 6 (fun w' => KepL w' (Gro S (((w.alloc (.cells #[.pointer (some ⟨L, 0, none⟩)] 92)).alloc (.cells C 63)).alloc (.cells #[.int .i64 xs.length] 3)) w') L B (xs ++ [a]) ∧ Fr S (((w.alloc (.cells #[.pointer (some ⟨L, 0, none⟩)] 92)).alloc (.cells C 63)).alloc (.cells #[.int .i64 xs.length] 3)) w')
  case first =>
    have c0w := blk_cell Hb.out 0 rfl
    have p0w := blk_cell B0.out 0 rfl
    have hfo : Array.foldl (fun cs (x : Value × Nat) => cs.setIfInBounds x.snd x.fst) #[Value.int .u64 0, Value.int .u64 0, Value.int .u64 0, Value.int .u64 0, Value.int .u64 0, Value.int .u64 0, Value.int .u64 0, Value.int .u64 0, Value.int .u64 0, Value.int .u64 0, Value.int .i64 0, Value.int .i64 0, Value.int .i64 0, Value.int .i64 0, Value.int .i64 0, Value.int .i64 0, Value.int .u64 0, Value.int .u64 0, Value.int .u64 0, Value.int .u64 0, Value.int .u64 0, Value.int .u64 0, Value.int .u64 0, Value.int .u64 0, Value.int .u64 0, Value.int .u64 0, Value.int .i64 0, Value.int .i64 0, Value.int .i64 0, Value.int .i64 0, Value.int .i64 0, Value.int .i64 0, Value.int .i64 0] C.zipIdx 0 33 = C := HFo.out
    have qw := ld_row (P := Tryd.prog) (W := (((w.alloc (.cells #[.pointer (some ⟨L, 0, none⟩)] 92)).alloc (.cells C 63)).alloc (.cells #[.int .i64 xs.length] 3)).drew) (w.heap.size + 1) C (n := 33) hCs (blk_drew B1.out)
    have c0x := blk_cell (blk_alloc Hb.out (.cells C 63)) 0 rfl
    have p0x := blk_cell (blk_alloc B0.out (.cells C 63)) 0 rfl
    have f0x := blk_free (blk_alloc Hb.out (.cells C 63)) 0
    go_region_law (first | (refine step_append_fresh _ (((w.alloc (.cells #[.pointer (some ⟨L, 0, none⟩)] 92)).alloc (.cells C 63)).alloc (.cells #[.int .i64 xs.length] 3)).drew rfl (.tmp 17) (.tmp 19) 44 rfl 63 i0 (.agg #[.int .u64 0, .int .u64 0, .int .u64 0, .int .u64 0, .int .u64 0, .int .u64 0, .int .u64 0, .int .u64 0, .int .u64 0, .int .u64 0, .int .i64 0, .int .i64 0, .int .i64 0, .int .i64 0, .int .i64 0, .int .i64 0, .int .u64 0, .int .u64 0, .int .u64 0, .int .u64 0, .int .u64 0, .int .u64 0, .int .u64 0, .int .u64 0, .int .u64 0, .int .u64 0, .int .i64 0, .int .i64 0, .int .i64 0, .int .i64 0, .int .i64 0, .int .i64 0, .int .i64 0]) 33 264 Tryd.underlying44 hi hz0 hz1 hz2 rfl (by decide) (.slice a0 xs.length cap) xs.length _ (by simp only [Act.eval, Act.put]; rfl) Ho.out.drew C rfl (by simp [Act.eval, Act.put]) hCs HCo.out (by omega) (by omega) ?_; intro g2 cap2 w2 hown2 hf2 hat2; have hb' := hf2.blk (blk_alloc (w := (((w.alloc (.cells #[.pointer (some ⟨L, 0, none⟩)] 92)).alloc (.cells C 63)).alloc (.cells #[.int .i64 xs.length] 3)).drew) Hb.out _) Hne.out; have c0' := blk_cell hb' 0 rfl; have f0' := blk_free hb' 0; have p0' := blk_cell (hf2.blk (blk_alloc (w := (((w.alloc (.cells #[.pointer (some ⟨L, 0, none⟩)] 92)).alloc (.cells C 63)).alloc (.cells #[.int .i64 xs.length] 3)).drew) B0.out _) (Hng.out _ (Nat.le_refl _))) 0 rfl))
    all_goals
      have HR := Lib.hid (rw_push Hb.out Hs.out Hsv.out Hl3.out ((Fr.refl _ (((w.alloc (.cells #[.pointer (some ⟨L, 0, none⟩)] 92)).alloc (.cells C 63)).alloc (.cells #[.int .i64 xs.length] 3))).drew.alloc (.cells C 63)) hown2 hf2 hat2)
      clear hown2 hf2 hat2
      go_wp2_with fail
      go_meet
      exact ⟨by have h := HR.out.1; unfold KepL; rw [Hn2.out, Hn.out]; exact h, HR.out.2⟩
  case rest =>
  obtain ⟨l2, f2⟩ := hcut
  have L2 := Lib.hid l2
  have F2 := Lib.hid f2
  have HSno := Lib.hid (show ∀ k, w.heap.size ≤ k → ¬ S k from fun k h1 hk => by have := Hlt.out k hk; omega)
  have b0 := f2.blk B0.out (HSno.out _ (Nat.le_refl _))
  have b2 := f2.blk B2.out (HSno.out _ (by omega))
  have d0 := blk_cell b0 0 rfl
  have d2 := blk_cell b2 0 rfl
  have HB2 := Lib.hid b2
  have HB0 := Lib.hid b0
  have hlog : wc.cell? ⟨L, 1, none⟩ = some (.pointer (some ⟨B, 0, none⟩)) := by
    obtain ⟨v, hb, -, -, -, -⟩ := l2
    exact blk_cell hb 1 rfl
  have G2 := Lib.hid (show LogAt wc G B rest n vs from Rw.fr (Rw.fr HGg.out F3.out (fun _ _ h => h)) f2 (fun k hk hs => HD.out k hs hk))
  have HK := Lib.hid (keepB wc G B rest n vs (.func 99) #[] #[.pointer (some ⟨w.heap.size, 0, none⟩), .pointer (some ⟨w.heap.size + 1 + 1, 0, none⟩)] G2.out (by omega))
  have HGlt := Lib.hid (show ∀ k, G k → k < w.heap.size from fun k hk => Rw.lt HGg.out hk)
  have HSz := Lib.hid (show w.heap.size + 3 ≤ wc.heap.size from by have := f2.size; have := HZ.out; omega)
  clear l2 f2 b0 b2
  go_wp2_with fail
  refine HK.out.mono ?_
  rintro e w3 ⟨rfl, g3, f3⟩
  have d2' := blk_cell (f3.blk HB2.out (fun hk => by have := HGlt.out _ hk; omega)) 0 rfl
  have G3 := Lib.hid g3
  have F4 := Lib.hid f3
  clear g3 f3
  go_wp2_with fail
  go_ret
  refine ⟨rfl, wc.heap.size, HSz.out, F4.out.size, ?_, ?_, ?_, F4.out.blk HB0.out (fun hk => by have := HGlt.out _ hk; omega), F4.out.blk HB2.out (fun hk => by have := HGlt.out _ hk; omega)⟩
  · have h := Rw.fr L2.out F4.out (fun k hk hgk => ?_)
    · refine Rw.mono h (fun k hk => hk.imp id (fun h => ⟨by have := HZ.out; have := h.1; omega, h.2⟩)) (fun k hk => ?_)
      rcases hk with hk | hk
      · exact Nat.lt_of_lt_of_le (Hlt.out k hk) (Nat.le_trans (by have := HSz.out; omega) F4.out.size)
      · exact Nat.lt_of_lt_of_le hk.2 F4.out.size
    · rcases hk with hk | hk
      · exact HD.out k hk hgk
      · have := HGlt.out k hgk; have := hk.1; have := HZ.out; omega
  · exact Rw.mono G3.out (fun k hk => hk) (fun k hk => hk.elim (fun h => Nat.lt_of_lt_of_le (HGlt.out k h) (Nat.le_trans (by have := HSz.out; omega) F4.out.size)) (fun h => h.2))
  · exact (((F3.out.mono (fun k h => h.elim)).then_ F2.out (fun k hk => .inl (.inl hk))) : Fr (fun k => S k ∨ G k) w wc) |>.then_ F4.out (fun k hk => .inl (.inr hk))
end Go.Proofs.YtjchjpmgbmeohaaDoor

/- Books: one more transfer; what is to end by itself. -/
set_option linter.unusedSimpArgs false
set_option linter.unusedVariables false
namespace Go.Proofs.YtjchjpmgbmeohaaDoor
open Go.RowKit

section
variable {w w' : World} {lab : Nat → Nat} {d : Dd} {r : Raw} {es : List Ent} {big : Nat}
theorem kepAddS (w : World) (lab : Nat → Nat) (d : Dd) (r : Raw) (es : List Ent) (big : Nat) (a : Kp) (h : Sta w lab d r es big) (hx : r.kept.length ≤ 100000) (hb : big ≤ 100000) :
    Calls Tryd.prog 63 #[.pointer (some ⟨d.K, 0, none⟩), .agg a.cells.toArray] w fun q w' => q = .returned (.int .i64 r.kept.length) ∧ ∃ lab', Sta w' lab' d { r with kept := r.kept ++ [a] } (.kepCut w.heap.size (w.heap.size + 1 + 1) r.kept.length :: es) (big + 1) ∧ Stp w.heap.size w lab w' lab' := by
  obtain ⟨lv, sv, qv, ps, hp, b⟩ := h.bb
  have hlen := h.len
  have h8 := h.labB
  refine (kepAdd w _ (fun k => lab k = 1 ∨ k = d.B) d.K d.B _ r.kept a es.length _ h.kep (h.logAt b) (fun k hk hg => ?_) hx (by omega)).mono ?_
  · rcases hg with hg | rfl
    · rw [hk] at hg; cases hg
    · rw [hk] at h8; cases h8
  rintro q w' ⟨rfl, m, hm0, hm1, ha, hg, hf, hb0, hb2⟩
  have hr : Rel w lab w' (lab3 lab w.heap.size m w'.heap.size 3) := lab3_rel h hm0 hm1
  have hk : ∀ k c, c ≠ 0 → lab k = c → lab3 lab w.heap.size m w'.heap.size 3 k = c := fun k c h0 h1 => by rw [hr.nz k (by rw [h1]; exact h0), h1]
  have hS : ∀ k, (lab k = 3 ∨ (lab k = 1 ∨ k = d.B)) → lab k = 3 ∨ lab k = 1 ∨ lab k = 8 := fun k hk => hk.imp id (fun hk => hk.imp id (fun e => by rw [e]; exact h8))
  have hne : ∀ c, c ≠ 1 → c ≠ 3 → c ≠ 8 → ∀ k, (lab k = 3 ∨ (lab k = 1 ∨ k = d.B)) → lab k ≠ c := fun c h1 h2 h8 k hs e => by
    rcases hS k hs with h | h | h
    · rw [h] at e; exact h2 e.symm
    · rw [h] at e; exact h1 e.symm
    · rw [h] at e; exact h8 e.symm
  refine ⟨rfl, lab3 lab w.heap.size m w'.heap.size 3, ⟨?_, hk _ 8 (by decide) h8, h.acc.rel (by decide) hf (hne 2 (by decide) (by decide) (by decide)) hr, ?_, tab_more (h.ids.rel (by decide) hf (hne 4 (by decide) (by decide) (by decide)) hr) (Nat.le_succ _), tab_more (h.nms.rel (by decide) hf (hne 5 (by decide) (by decide) (by decide)) hr) (Nat.le_succ _), hr.lt, ?_⟩, ?_⟩
  · obtain ⟨lv', hb', ho', _, hl', _⟩ := hg
    refine ⟨lv', sv, qv, ps, hp, ⟨hb', ?_, fun k hk => ?_, own_fr b.sts hf (fun k hk hs => hne 6 (by decide) (by decide) (by decide) k hs (b.stsl k hk)), fun k h => hk k 6 (by decide) (b.stsl k h), b.orel, own_fr b.ens hf (fun k hk hs => hne 7 (by decide) (by decide) (by decide) k hs (b.ensl k hk)), fun k h => hk k 7 (by decide) (b.ensl k h), b.qrel, Nat.le_succ_of_le b.psb, by have := b.hpb; simp only [List.length_cons]; omega⟩⟩
    · rw [show (Ent.kepCut w.heap.size (w.heap.size + 1 + 1) r.kept.length :: es).reverse.map Ent.val = es.reverse.map Ent.val ++ [addFnK w.heap.size (w.heap.size + 1 + 1)] from by simp [Ent.val, Ent.fn, Ent.caps, addFnK, pt], List.length_cons]
      exact ho'
    · rcases (hl' k hk).1 with (h1 | h1) | h1
      · rw [lab3_old (h.lt k (by rw [h1]; decide)), h1]
      · exact absurd h1 (hl' k hk).2
      · exact lab3_log hm0 h1.1 h1.2
  · refine Rw.mono ha (fun k hk => ?_) (fun k hk => hr.lt k (by rw [hk]; decide))
    rcases hk with hk | hk
    · show lab3 lab _ _ _ _ k = 3
      rw [lab3_old (h.lt k (by rw [hk]; decide)), hk]
    · exact lab3_row hk.1 hk.2
  · intro e he
    rcases List.mem_cons.1 he with rfl | he
    · exact ⟨⟨hb0, hb2⟩, fun k hk => lab3_ent hk⟩
    · exact ents_rel h.ents hf (hne 9 (by decide) (by decide) (by decide)) hr e he
  · refine ⟨hf.mono (fun k hk => ?_), Nat.le_refl _, fun k hk => lab3_old hk, fun k hk _ => lab3_old hk, fun k hk h0 => .inl (by rw [lab3_old hk, h0])⟩
    rcases hS k hk with h | h | h <;> rw [h] <;> decide
end
theorem kepLenS (w : World) (lab : Nat → Nat) (d : Dd) (r : Raw) (es : List Ent) (big : Nat) (h : Sta w lab d r es big) :
    Calls Tryd.prog 62 #[.pointer (some ⟨d.K, 0, none⟩)] w fun e w' => e = .returned (.int .i64 r.kept.length) ∧ w' = w := kepLen w _ d.K d.B r.kept h.kep
theorem roomS (w : World) (lab : Nat → Nat) (d : Dd) (r : Raw) (es : List Ent) (big : Nat) (h : Sta w lab d r es big) :
    Calls Tryd.prog 17 #[.pointer (some ⟨d.B, 0, none⟩)] w fun e w' => e = .returned (.bool (decide (r.kept.length < 96))) ∧ Fr (fun _ => False) w w' := by
  have HLen := Lib.hid (fun W (f : Fr (fun _ => False) w W) => kepLenS W lab d r es big (h.fr f (fun _ h => h.elim)))
  obtain ⟨-, c2, -, -, -, -, -, -⟩ := h.cells
  obtain ⟨n, hn⟩ : ∃ n, r.kept.length = n := ⟨_, rfl⟩
  rw [hn] at HLen
  rw [hn]
  clear h hn
  obtain ⟨q, hq⟩ : ∃ q, decide ((n : Int) < 96) = q := ⟨_, rfl⟩
  have e : decide (n < 96) = q := by rw [← hq]; simp; omega
  rw [e]
  clear e
  go_enter Tryd.func17, Tryd.ntmps17
  go_wp2_with fail
  refine (HLen.out _ (by repeat (first | (with_reducible exact Fr.refl _ _) | (with_reducible refine Fr.drew ?_) | (with_reducible refine Fr.drewN ?_ _) | (with_reducible refine Fr.alloc ?_ _) | (with_reducible refine Fr.set1 ?_ _) | (with_reducible refine Fr.setNew ?_ (by omega) _)))).mono ?_
  rintro e w1 ⟨rfl, rfl⟩
  go_wp2_with fail
  go_ret
  exact ⟨by first | rfl | rw [← hq] | simp [hq], by repeat (first | (with_reducible exact Fr.refl _ _) | (with_reducible refine Fr.drew ?_) | (with_reducible refine Fr.drewN ?_ _) | (with_reducible refine Fr.alloc ?_ _) | (with_reducible refine Fr.set1 ?_ _) | (with_reducible refine Fr.setNew ?_ (by omega) _))⟩
theorem clockS (w : World) (lab : Nat → Nat) (d : Dd) (r : Raw) (es : List Ent) (big : Nat) (h : Sta w lab d r es big) :
    Calls Tryd.prog 37 #[.pointer (some ⟨d.B, 0, none⟩)] w fun e w' => e = .returned (.int .i64 r.clock) ∧ Fr (fun _ => False) w w' := by
  obtain ⟨-, -, -, -, c7, -, -, -⟩ := h.cells
  clear h
  go_enter Tryd.func37, Tryd.ntmps37
  go_wp2_with fail
  go_ret
  exact ⟨rfl, by repeat (first | (with_reducible exact Fr.refl _ _) | (with_reducible refine Fr.drew ?_) | (with_reducible refine Fr.drewN ?_ _) | (with_reducible refine Fr.alloc ?_ _) | (with_reducible refine Fr.set1 ?_ _) | (with_reducible refine Fr.setNew ?_ (by omega) _))⟩
theorem stampS (w : World) (lab : Nat → Nat) (d : Dd) (r : Raw) (es : List Ent) (big : Nat) (h : Sta w lab d r es big) :
    Calls Tryd.prog 21 #[.pointer (some ⟨d.B, 0, none⟩)] w fun e w' => e = .returned (.int .i64 r.stamp) ∧ Fr (fun _ => False) w w' := by
  obtain ⟨-, -, -, -, -, c8, -, -⟩ := h.cells
  clear h
  go_enter Tryd.func21, Tryd.ntmps21
  go_wp2_with fail
  go_ret
  exact ⟨rfl, by repeat (first | (with_reducible exact Fr.refl _ _) | (with_reducible refine Fr.drew ?_) | (with_reducible refine Fr.drewN ?_ _) | (with_reducible refine Fr.alloc ?_ _) | (with_reducible refine Fr.set1 ?_ _) | (with_reducible refine Fr.setNew ?_ (by omega) _))⟩
end Go.Proofs.YtjchjpmgbmeohaaDoor

/- A row that a block's place holds as a slice, and owns: as Rw, at any place. No program in sight. -/
set_option linter.unusedSimpArgs false
set_option linter.unusedVariables false
namespace Go.Proofs.YtjchjpmgbmeohaaDoor
open Go.RowKit

/-- A block's place j, all its other cells known. -/
structure Bq (j : Nat) where
  b : Nat
  row : Value → Array Value
  get : ∀ v, (row v)[j]? = some v
  set : ∀ v u, (row v).setIfInBounds j u = row u
/-- Place j of block L.b: a slice, which owns its row of n things (vs); S: its blocks. -/
def Rq (w : World) (S : Nat → Prop) {j0 : Nat} (L : Bq j0) (T et : TypeId) (sz : Nat) (n : Nat) (vs : List Value) : Prop :=
  ∃ v, w.heap[L.b]? = some (.cells (L.row v) T (0, 0)) ∧ w.ownsRow 0 et sz v n vs ∧ S L.b ∧ (∀ k, v.ownBlock = some k → S k ∧ k ≠ L.b) ∧ ∀ k, S k → k < w.heap.size

section
variable {w w' : World} {S S2 : Nat → Prop} {j0 : Nat} {L : Bq j0} {T et : TypeId} {sz : Nat} {n : Nat} {vs : List Value}
theorem Rq.fr (h : Rq w S L T et sz n vs) (hf : Fr S2 w w') (hd : ∀ k, S k → ¬ S2 k) : Rq w' S L T et sz n vs := by
  obtain ⟨v, hb, ho, hg, hv, hl⟩ := h
  exact ⟨v, hf.blk hb (hd _ hg), own_fr ho hf (fun k hk => hd _ (hv k hk).1), hg, hv, fun k hk => Nat.lt_of_lt_of_le (hl k hk) hf.size⟩
theorem Rq.alloc (h : Rq w S L T et sz n vs) (o : Obj) : Rq (w.alloc o) S L T et sz n vs := h.fr ((Fr.refl (fun _ => False) w).alloc o) (fun _ _ h => h)
theorem Rq.drew (h : Rq w S L T et sz n vs) : Rq w.drew S L T et sz n vs := h
theorem Rq.lt (h : Rq w S L T et sz n vs) {k : Nat} (hk : S k) : k < w.heap.size := by
  obtain ⟨v, _, _, _, _, hl⟩ := h
  exact hl k hk
theorem Rq.at_ (h : Rq w S L T et sz n vs) : S L.b := by
  obtain ⟨v, _, _, hb, _, _⟩ := h
  exact hb
/-- The set may be any that holds it. -/
theorem Rq.mono (h : Rq w S L T et sz n vs) (hs : ∀ k, S k → S2 k) (hl : ∀ k, S2 k → k < w.heap.size) : Rq w S2 L T et sz n vs := by
  obtain ⟨v, hb, ho, hg, hv, _⟩ := h
  exact ⟨v, hb, ho, hs _ hg, fun k hk => ⟨hs _ (hv k hk).1, (hv k hk).2⟩, hl⟩

/-- What an append and the store of the new slice leave. -/
theorem rq_push {W0 w2 : World} {cap2 N : Nat} {a2 : Option Addr} {v : Value} {xs : List Value} (hb : w.heap[L.b]? = some (.cells (L.row v) T (0, 0)))
    (hSb : S L.b) (hSv : ∀ k, v.ownBlock = some k → S k ∧ k ≠ L.b) (hl : ∀ k, S k → k < w.heap.size) (h0 : Fr (fun _ => False) w W0)
    (hown2 : w2.ownsRow 0 et sz (.slice a2 N cap2) N xs) (hf2 : Fr (fun k => v.ownBlock = some k) W0 w2) (hat2 : ∀ k, (Value.slice a2 N cap2).ownBlock = some k → v.ownBlock = some k ∨ W0.heap.size ≤ k) :
    Rq (w2.setCell ⟨L.b, j0, none⟩ (.slice a2 N cap2)) (Gro S w (w2.setCell ⟨L.b, j0, none⟩ (.slice a2 N cap2))) L T et sz N xs ∧ Fr S w (w2.setCell ⟨L.b, j0, none⟩ (.slice a2 N cap2)) := by
  have hs0 := h0.size
  have hs2 := hf2.size
  have hblt := hl L.b hSb
  have hne : ¬ v.ownBlock = some L.b := fun he => (hSv L.b he).2 rfl
  have hb2 : w2.heap[L.b]? = some (.cells (L.row v) T (0, 0)) := hf2.blk (h0.blk hb (fun h => h)) hne
  have h2g : ∀ k, (Value.slice a2 N cap2).ownBlock = some k → k ≠ L.b := fun k hk => by rcases hat2 k hk with h | h; (exact (hSv k h).2); omega
  have hfr : Fr S w w2 := (h0.mono (fun _ h => h.elim)).then_ hf2 (fun k hk => .inl (hSv k hk).1)
  have hsz : (w2.setCell ⟨L.b, j0, none⟩ (.slice a2 N cap2)).heap.size = w2.heap.size := by simp [World.setCell]
  refine ⟨⟨.slice a2 N cap2, ?_, own_fr hown2 ((Fr.refl (fun k => k = L.b) w2).setCell (.inl rfl) _) (fun k hk => h2g k hk), .inl hSb, fun k hk => ?_, fun k hk => ?_⟩, hfr.setCell (p := ⟨L.b, j0, none⟩) (.inl hSb) _⟩
  · have h := blk_set hb2 j0 (.slice a2 N cap2)
    rwa [L.set] at h
  · have hk2 := own_lt hown2 hk
    refine ⟨?_, h2g k hk⟩
    rcases hat2 k hk with h | h
    · exact .inl (hSv k h).1
    · exact .inr ⟨by omega, by omega⟩
  · rcases hk with h | h
    · have := hl k h; omega
    · exact h.2

/-- .. and the store of the cut slice. -/
theorem rq_cut {v : Value} {a : Option Addr} {cap m : Nat} (hb : w.heap[L.b]? = some (.cells (L.row v) T (0, 0))) (ho : w.ownsRow 0 et sz v n vs) (hSb : S L.b) (hSv : ∀ k, v.ownBlock = some k → S k ∧ k ≠ L.b) (hl : ∀ k, S k → k < w.heap.size)
    (hv : v = .slice a n cap) (hm : m ≤ n) : Rq (w.setCell ⟨L.b, j0, none⟩ (.slice a m cap)) S L T et sz m (vs.take (m * sz)) ∧ Fr S w (w.setCell ⟨L.b, j0, none⟩ (.slice a m cap)) := by
  have e : ∀ k, (Value.slice a m cap).ownBlock = some k → v.ownBlock = some k := fun k hk => by
    subst hv
    cases a with
    | none => simp [Value.ownBlock] at hk
    | some x => exact hk
  refine ⟨⟨.slice a m cap, ?_, own_fr (own_cut ho hv hm) ((Fr.refl (fun k => k = L.b) w).setCell (.inl rfl) _) (fun k hk => (hSv k (e k hk)).2), hSb, fun k hk => hSv k (e k hk), fun k hk => ?_⟩, (Fr.refl S w).setCell (p := ⟨L.b, j0, none⟩) (.inl hSb) _⟩
  · have h := blk_set hb j0 (.slice a m cap)
    rwa [L.set] at h
  · have := hl k hk
    simpa [World.setCell] using this
/-- A thing of the row is written. -/
theorem rq_put {g cap j : Nat} {u : Value} (hb : w.heap[L.b]? = some (.cells (L.row (Value.slice (some ⟨g, 0, none⟩) n cap)) T (0, 0))) (ho : w.ownsRow 0 et sz (.slice (some ⟨g, 0, none⟩) n cap) n vs) (hSb : S L.b)
    (hSv : ∀ k, (Value.slice (some ⟨g, 0, none⟩) n cap).ownBlock = some k → S k ∧ k ≠ L.b) (hl : ∀ k, S k → k < w.heap.size) :
    Rq (w.setCell ⟨g, j, none⟩ u) S L T et sz n (vs.set j u) ∧ Fr S w (w.setCell ⟨g, j, none⟩ u) := by
  obtain ⟨ho2, _⟩ := ho.stored j u
  have hg := hSv g rfl
  refine ⟨⟨_, blk_far2 hb (fun e => hg.2 e.symm) u, ho2, hSb, hSv, fun k hk => ?_⟩, (Fr.refl S w).setCell (p := ⟨g, j, none⟩) (.inl hg.1) _⟩
  have := hl k hk
  simpa [World.setCell] using this
end

end Go.Proofs.YtjchjpmgbmeohaaDoor

/- Package order: a list of pairs; find. -/
set_option linter.unusedSimpArgs false
set_option linter.unusedVariables false
namespace Go.Proofs.YtjchjpmgbmeohaaDoor
open Go.RowKit

theorem prs_len (ps : List Pr) : (prs ps).length = ps.length * 2 := flat_len (f := Pr.cells) (n := 2) (fun _ => rfl) ps
theorem prs_get (ps : List Pr) {i : Nat} (hi : i < ps.length) (j : Nat) (hj : j < 2) : (prs ps)[i * 2 + j]? = (Pr.cells ps[i])[j]? := flat_get (f := Pr.cells) (n := 2) (fun _ => rfl) ps i hi j hj
/-- A list of stamps. -/
def IsO (w : World) (S : Nat → Prop) (L : Bq 5) (ps : List Pr) : Prop := Rq w S L 100 121 2 ps.length (prs ps)
theorem IsO.fr {w w' : World} {S S2 : Nat → Prop} {L : Bq 5} {ps : List Pr} (h : IsO w S L ps) (hf : Fr S2 w w') (hd : ∀ k, S k → ¬ S2 k) : IsO w' S L ps := Rq.fr h hf hd
theorem own_pair {w : World} {g n cap : Nat} {ps : List Pr} (h : w.ownsRow 0 121 2 (.slice (some ⟨g, 0, none⟩) n cap) n (prs ps)) (hn : ps.length = n) {i : Nat} (hi : i < ps.length) :
    w.cell? ⟨g, i * 2, none⟩ = some (.int .i64 ps[i].1) ∧ w.cell? ⟨g, i * 2 + 1, none⟩ = some (.int .i64 ps[i].2) := by
  have e0 := prs_get ps hi 0 (by omega)
  have e1 := prs_get ps hi 1 (by omega)
  rw [Nat.add_zero] at e0
  exact ⟨(h.cellAt (i * 2) (by omega)).trans e0, (h.cellAt (i * 2 + 1) (by omega)).trans e1⟩

set_option maxHeartbeats 1600000 in
/-- find's closure. -/
theorem oless_any (w : World) (bl bs : Nat) (L : Bq 5) (i : Nat) (S : Nat → Prop) (ps : List Pr) (s : Int) (hbl : w.heap[bl]? = some (.cells #[.pointer (some ⟨L.b, 5, none⟩)] 142 (0, 0))) (hbs : w.heap[bs]? = some (.cells #[.int .i64 s] 3 (0, 0))) (h : IsO w S L ps) (hi : i < ps.length) (hn : ps.length ≤ 1000000) :
    Calls Tryd.prog 108 #[.int .i64 i, .pointer (some ⟨bl, 0, none⟩), .pointer (some ⟨bs, 0, none⟩)] w fun e w' => e = .returned (.bool (decide (s ≤ ps[i].1))) ∧ Fr (fun _ => False) w w' := by
  obtain ⟨v, hb, ho, -, -, -⟩ := h
  obtain ⟨g, cap, rfl⟩ := own_some ho (by omega)
  have c0 := blk_cell hb 5 (L.get _)
  have cl := blk_cell hbl 0 rfl
  have cs := blk_cell hbs 0 rfl
  obtain ⟨p0, -⟩ := own_pair ho rfl hi
  obtain ⟨x, hx⟩ : ∃ x, ps[i].1 = x := ⟨_, rfl⟩
  rw [hx] at p0 ⊢
  have hi2 : (i : Int) < ps.length := by omega
  clear hb ho hbl hbs hx
  go_enter Tryd.func108, Tryd.ntmps108
  go_wp2_with fail
  go_region
  all_goals
    go_wp2_with fail
    go_ret
    exact ⟨rfl, by repeat (first | (with_reducible exact Fr.refl _ _) | (with_reducible refine Fr.drew ?_) | (with_reducible refine Fr.drewN ?_ _) | (with_reducible refine Fr.alloc ?_ _) | (with_reducible refine Fr.set1 ?_ _) | (with_reducible refine Fr.setNew ?_ (by omega) _))⟩
end Go.Proofs.YtjchjpmgbmeohaaDoor

/- sort.Search; find. -/
set_option linter.unusedSimpArgs false
set_option linter.unusedVariables false
namespace Go.Proofs.YtjchjpmgbmeohaaDoor
open Go.RowKit

set_option maxRecDepth 20000 in
set_option maxHeartbeats 3200000 in
theorem osearch_any (w : World) (bl bs : Nat) (L : Bq 5) (r : Nat) (S : Nat → Prop) (ps : List Pr) (s : Int) (hbl : w.heap[bl]? = some (.cells #[.pointer (some ⟨L.b, 5, none⟩)] 142 (0, 0))) (hbs : w.heap[bs]? = some (.cells #[.int .i64 s] 3 (0, 0))) (h : IsO w S L ps) (hn : ps.length ≤ 1000000)
    (hr : r ≤ ps.length) (hlo : ∀ i (hi : i < ps.length), i < r → ps[i].1 < s) (hhi : ∀ i (hi : i < ps.length), r ≤ i → s ≤ ps[i].1) :
    Calls Tryd.prog 107 #[.int .i64 ps.length, .func (.func 108) #[] #[.pointer (some ⟨bl, 0, none⟩), .pointer (some ⟨bs, 0, none⟩)]] w fun e w' => e = .returned (.int .i64 r) ∧ Fr (fun _ => False) w w' := by
  have HC := Lib.hid (show ∀ W i, Fr (fun _ => False) w W → i < ps.length → Calls Tryd.prog 108 #[.int .i64 i, .pointer (some ⟨bl, 0, none⟩), .pointer (some ⟨bs, 0, none⟩)] W fun e w' => e = .returned (.bool (decide (r ≤ i))) ∧ Fr (fun _ => False) W w' from fun W i hf hi => by
    have q := oless_any W bl bs L i S ps s (hf.blk hbl (fun h => h)) (hf.blk hbs (fun h => h)) (IsO.fr (S2 := fun _ => False) h hf (fun _ _ h => h)) hi hn
    have e : decide (s ≤ ps[i].1) = decide (r ≤ i) := by
      by_cases hc : r ≤ i
      · rw [decide_eq_true hc, decide_eq_true (hhi i hi hc)]
      · rw [decide_eq_false hc, decide_eq_false (by have := hlo i hi (by omega); omega)]
    rwa [e] at q)
  obtain ⟨n, hnn⟩ : ∃ n, ps.length = n := ⟨_, rfl⟩
  rw [hnn] at hn hr HC ⊢
  clear hbl hbs h hlo hhi hnn
  go_enter Tryd.func107, Tryd.ntmps107
  go_wp2_with fail
  go_loopw [5, 6] (fun a b wr => ∃ i j : Nat, i ≤ r ∧ r ≤ j ∧ j ≤ n ∧ a = .int .i64 i ∧ b = .int .i64 j ∧ Fr (fun _ => False) w wr) (fun a b _ => (intOf b - intOf a).toNat)
  case atStart => exact ⟨0, n, by omega, hr, Nat.le_refl _, rfl, rfl, Fr.refl _ _⟩
  case round =>
    obtain ⟨i, j, hi, hj, hjn, rfl, rfl, hf⟩ := hrel
    have HF := Lib.hid hf
    clear hf
    by_cases hlt : (i : Int) < j
    · have w1 : IntKind.i64.wrap ((i : Int) + j) = i + j := IntWalk.i64_in _ (by omega)
      have w2 : IntKind.u64.wrap ((i : Int) + j) = i + j := by rw [IntKind.wrap_u64]; omega
      go_wp2_with fail
      obtain ⟨m, hm⟩ : ∃ m : Nat, ((i : Int) + j) / 2 = m := ⟨(i + j) / 2, by omega⟩
      have hmi : i ≤ m := by omega
      have hmj : m < j := by omega
      rw [hm]
      clear hm w1 w2
      with_reducible refine (HC.out wr m HF.out (by omega)).mono ?_
      rintro e w2 ⟨rfl, f2⟩
      have F2 := Lib.hid f2
      have w3 : IntKind.i64.wrap ((m : Int) + 1) = m + 1 := IntWalk.i64_in _ (by omega)
      clear f2
      by_cases hc : r ≤ m
      · rw [decide_eq_true hc]
        go_wp2_with fail
        go_roundw
        case rel => exact ⟨i, m, hi, hc, by omega, rfl, rfl, HF.out.then_ F2.out (fun _ h => h.elim)⟩
        case measure => simp [intOf]; omega
      · rw [decide_eq_false hc]
        go_wp2_with fail
        go_roundw
        case rel => exact ⟨m + 1, j, by omega, hj, by omega, by go_num, rfl, HF.out.then_ F2.out (fun _ h => h.elim)⟩
        case measure => simp [intOf]; omega
    · obtain rfl : i = r := by omega
      go_wp2_with fail
      go_ret
      exact ⟨rfl, HF.out⟩

/-- The place of the first stamp that isn't below one. -/
def low : List Pr → Int → Nat
  | [], _ => 0
  | p :: ps, s => if p.1 < s then low ps s + 1 else 0
theorem low_le (ps : List Pr) (s : Int) : low ps s ≤ ps.length := by
  induction ps with
  | nil => simp [low]
  | cons p ps ih =>
    simp only [low, List.length_cons]
    split <;> omega
/-- Strictly rising. -/
def Ris (ps : List Pr) : Prop := ps.Pairwise (fun p q => p.1 < q.1)
theorem low_lo {ps : List Pr} {s : Int} {i : Nat} (hi : i < ps.length) (h : i < low ps s) : ps[i].1 < s := by
  induction ps generalizing i with
  | nil => simp at hi
  | cons p ps ih =>
    simp only [low] at h
    split at h
    · rename_i hp
      cases i with
      | zero => exact hp
      | succ i => exact ih (by simpa using hi) (by omega)
    · omega
theorem low_hi {ps : List Pr} (hR : Ris ps) {s : Int} {i : Nat} (hi : i < ps.length) (h : low ps s ≤ i) : s ≤ ps[i].1 := by
  induction ps generalizing i with
  | nil => simp at hi
  | cons p ps ih =>
    have hr := List.pairwise_cons.1 hR
    simp only [low] at h
    split at h
    · rename_i hp
      cases i with
      | zero => omega
      | succ i => exact ih hr.2 (by simpa using hi) (by omega)
    · rename_i hp
      cases i with
      | zero => simp; omega
      | succ i =>
        have h1 : i < ps.length := by simpa using hi
        have := hr.1 ps[i] (List.getElem_mem h1)
        simp only [List.getElem_cons_succ]
        omega

set_option maxHeartbeats 1600000 in
theorem ofind_any (w : World) (L : Bq 5) (S : Nat → Prop) (ps : List Pr) (s : Int) (h : IsO w S L ps) (hn : ps.length ≤ 1000000) (hR : Ris ps) :
    Calls Tryd.prog 100 #[.pointer (some ⟨L.b, 5, none⟩), .int .i64 s] w fun e w' => e = .returned (.int .i64 (low ps s)) ∧ Fr (fun _ => False) w w' := by
  have H := Lib.hid h
  have hmf : ∀ (fn : Fn) (first cap : Array Value) (w : World), (Instr.makeFunc fn first cap).run Tryd.prog w = .ok (.func fn first cap) w := fun _ _ _ _ => rfl
  have HS := Lib.hid (show ∀ W bl bs, W.heap[bl]? = some (.cells #[.pointer (some ⟨L.b, 5, none⟩)] 142 (0, 0)) → W.heap[bs]? = some (.cells #[.int .i64 s] 3 (0, 0)) → IsO W S L ps → Calls Tryd.prog 107 #[.int .i64 ps.length, .func (.func 108) #[] #[.pointer (some ⟨bl, 0, none⟩), .pointer (some ⟨bs, 0, none⟩)]] W fun e w' => e = .returned (.int .i64 (low ps s)) ∧ Fr (fun _ => False) W w' from fun W bl bs h1 h2 h3 =>
    osearch_any W bl bs L (low ps s) S ps s h1 h2 h3 hn (low_le ps s) (fun i hi h => low_lo hi h) (fun i hi h => low_hi hR hi h))
  obtain ⟨v, hb, ho, -, -, -⟩ := h
  obtain ⟨a, cap, rfl, -, -⟩ := own_form ho
  have c0 := blk_cell hb 5 (L.get _)
  have hLlt := blk_lt hb
  have B1 := Lib.hid (blk_alloc (heap_alloc_new w (.cells #[.pointer (some ⟨L.b, 5, none⟩)] 142)) (.cells #[.int .i64 s] 3))
  have B2 := Lib.hid (show ((w.alloc (.cells #[.pointer (some ⟨L.b, 5, none⟩)] 142)).alloc (.cells #[.int .i64 s] 3)).heap[w.heap.size + 1]? = some (.cells #[.int .i64 s] 3 (0, 0)) from by
    have h := heap_alloc_new (w.alloc (.cells #[.pointer (some ⟨L.b, 5, none⟩)] 142)) (.cells #[.int .i64 s] 3)
    rwa [show (w.alloc (.cells #[.pointer (some ⟨L.b, 5, none⟩)] 142)).heap.size = w.heap.size + 1 from Array.size_push ..] at h)
  clear hb ho
  go_enter Tryd.func100, Tryd.ntmps100
  go_wp2_with (go_at_call 107; go_must (with_reducible refine (HS.out _ _ _ B1.out B2.out (IsO.fr (S2 := fun _ => False) H.out (by repeat (first | (with_reducible exact Fr.refl _ _) | (with_reducible refine Fr.drew ?_) | (with_reducible refine Fr.drewN ?_ _) | (with_reducible refine Fr.alloc ?_ _) | (with_reducible refine Fr.set1 ?_ _) | (with_reducible refine Fr.setNew ?_ (by omega) _))) (fun _ _ h => h))).mono ?_); rintro e w2 ⟨rfl, f2⟩; have F2 := Lib.hid f2; clear f2)
  go_ret
  exact ⟨rfl, Fr.then_ (by repeat (first | (with_reducible exact Fr.refl _ _) | (with_reducible refine Fr.drew ?_) | (with_reducible refine Fr.drewN ?_ _) | (with_reducible refine Fr.alloc ?_ _) | (with_reducible refine Fr.set1 ?_ _) | (with_reducible refine Fr.setNew ?_ (by omega) _))) F2.out (fun _ h => h.elim)⟩
end Go.Proofs.YtjchjpmgbmeohaaDoor

/- copy of things of more cells than one, within a block that is known whole. No program in sight. -/
set_option linter.unusedSimpArgs false
set_option linter.unusedVariables false
namespace Go.Proofs.YtjchjpmgbmeohaaDoor
open Go.RowKit

theorem run_copy_z {P : Program} (w : World) (dT sT ty elem : TypeId) (g o dLen dCap : Nat) (a : Addr) (sLen sCap : Nat) (cur : Array Value) (t : TypeId) (cs : List Value) (z m : Nat)
    (hu : P.underlying dT = some (.slice elem)) (hs : (P.info? elem).map (·.size) = some z) (hg : w.heap[g]? = some (.cells cur t (0, 0))) (hm : m = Nat.min sLen dLen) (hn : cs.length = m * z)
    (hsrc : ∀ j v, cs[j]? = some v → w.cell? (a.add j) = some v) (hfit : o + cs.length ≤ cur.size) (h1 : ∀ v ∈ cs, v.oneCell' = true) :
    (Builtin.copy_ #[dT, sT] ty #[.slice (some ⟨g, o, none⟩) dLen dCap, .slice (some a) sLen sCap]).run P w = .ok (goInt m) (w.setRow g (cur.toList.take o ++ cs ++ cur.toList.drop (o + cs.length)).toArray) := by
  have hl := run_loadCells_list (P := P) w a cs hsrc
  have hst := run_storeCells_at P g o t cs 0 cur w hg (by simpa using hfit) h1
  cases hq : P.info? elem with
  | none => simp [hq] at hs
  | some i =>
    have hi : i.size = z := by simpa [hq] using hs
    rw [hn] at hl
    simp [Builtin.copy_, run_underlying hu, Builtin.lenOf, Builtin.firstCells, sizeOf, typeInfo, hq, hi, ← hm, hl, hst]
theorem run_copy_z0 {P : Program} (w : World) (dT sT ty elem : TypeId) (dp sp : Option Addr) (dLen dCap sLen sCap z : Nat) (hu : P.underlying dT = some (.slice elem)) (hs : (P.info? elem).map (·.size) = some z) (hn : Nat.min sLen dLen = 0) :
    (Builtin.copy_ #[dT, sT] ty #[.slice dp dLen dCap, .slice sp sLen sCap]).run P w = .ok (goInt 0) w := by
  cases hq : P.info? elem with
  | none => simp [hq] at hs
  | some i => cases dp <;> cases sp <;> simp [Builtin.copy_, run_underlying hu, Builtin.lenOf, Builtin.firstCells, sizeOf, typeInfo, hq, hn, storeCells, loadCells, loadCellsFrom]
theorem fr_row (w : World) (g : Nat) (c : Array Value) : Fr (fun k => k = g) w (w.setRow g c) := ⟨rfl, rfl, rfl, Nat.le_of_eq (by simp [World.setRow]), fun k _ hk => setRow_other w g k _ hk⟩
theorem step_copy_z {P : Program} {ops : Array Oper} {o : Oper} {a : Act} {w : World} {K : Act → World → Prop} {Q : Exit → Act → World → Prop} {E : Prop} (hgd : o.guard = none) (d s : Operand) (dT sT : TypeId)
    (ho : o.op = .call { callee := .builtin .copy, args := #[d, s], argTypes := #[dT, sT] }) (elem : TypeId) (z : Nat) (hu : P.underlying dT = some (.slice elem)) (hsz : (P.info? elem).map (·.size) = some z)
    (dp sp : Option Addr) (dLen dCap sLen sCap : Nat) (hd : a.eval d = .slice dp dLen dCap) (hs : a.eval s = .slice sp sLen sCap)
    (g off : Nat) (cur : List Value) (t : TypeId) (hg : w.heap[g]? = some (.cells cur.toArray t (0, 0))) (cs : List Value) (m : Nat) (hm : m = Nat.min sLen dLen) (hn : cs.length = m * z)
    (hpos : 0 < m → dp = some ⟨g, off, none⟩ ∧ ∃ ad, sp = some ad ∧ ∀ j v, cs[j]? = some v → w.cell? (ad.add j) = some v)
    (hfit : off + cs.length ≤ cur.length) (h1 : ∀ v ∈ cs, v.oneCell' = true)
    (h : ∀ w', RowKit.Hid (w'.heap[g]? = some (.cells (splice cur off cs).toArray t (0, 0))) → Fr (fun k => k = g) w w' → K (a.put o.dst (goInt m)) w') :
    if Region.wanted o (yielded ops a.tmps) = true then Oper.wp P o a w K Q else E := by
  have hw : Region.wanted o (yielded ops a.tmps) = true := by simp [Region.wanted, hgd]
  rw [if_pos hw]
  by_cases h0 : m = 0
  · subst h0
    obtain rfl : cs = [] := List.eq_nil_of_length_eq_zero (by rw [hn]; simp)
    have hrun := run_copy_z0 (P := P) w dT sT o.type elem dp sp dLen dCap sLen sCap z hu hsz hm.symm
    unfold Oper.wp
    simp [execOp, ho, resolve, invoke, builtin, hd, hs, hrun, Result.andThen]
    exact h w (show _ = _ by simpa [splice] using hg) (Fr.refl _ _)
  · obtain ⟨rfl, ad, rfl, hsrc⟩ := hpos (by omega)
    have hrun := run_copy_z (P := P) w dT sT o.type elem g off dLen dCap ad sLen sCap cur.toArray t cs z m hu hsz hg hm hn hsrc (by simpa using hfit) h1
    unfold Oper.wp
    simp [execOp, ho, resolve, invoke, builtin, hd, hs, hrun, Result.andThen]
    exact h _ (show _ = _ by simpa [splice] using setRow_heap w g _ _ t _ hg) (fr_row _ _ _)
end Go.Proofs.YtjchjpmgbmeohaaDoor

/- Rows of pairs. -/
set_option linter.unusedSimpArgs false
set_option linter.unusedVariables false
namespace Go.Proofs.YtjchjpmgbmeohaaDoor
open Go.RowKit

theorem Tryd.infoPair : (Tryd.prog.info? 121).map (fun i => (i.zero, i.size, i.bytes)) = some (some (.agg #[.int .i64 0, .int .i64 0]), 2, 16) := by kernel_rfl
theorem szPair : (Tryd.prog.info? 121).map (·.size) = some 2 := by kernel_rfl
theorem prs_app (a b : List Pr) : prs (a ++ b) = prs a ++ prs b := List.flatMap_append
theorem prs_take (ps : List Pr) (k : Nat) : (prs ps).take (k * 2) = prs (ps.take k) := by
  induction ps generalizing k with
  | nil => simp [prs]
  | cons p ps ih =>
    cases k with
    | zero => simp [prs]
    | succ k =>
      have e : prs (p :: ps) = .int .i64 p.1 :: .int .i64 p.2 :: prs ps := rfl
      rw [e, show (k + 1) * 2 = k * 2 + 1 + 1 by omega, List.take_succ_cons, List.take_succ_cons, ih, List.take_succ_cons]
      rfl
theorem prs_drop (ps : List Pr) (k : Nat) : (prs ps).drop (k * 2) = prs (ps.drop k) := by
  induction ps generalizing k with
  | nil => simp [prs]
  | cons p ps ih =>
    cases k with
    | zero => simp [prs]
    | succ k =>
      have e : prs (p :: ps) = .int .i64 p.1 :: .int .i64 p.2 :: prs ps := rfl
      rw [e, show (k + 1) * 2 = k * 2 + 1 + 1 by omega, List.drop_succ_cons, List.drop_succ_cons, ih, List.drop_succ_cons]
theorem prs_one (ps : List Pr) : ∀ u ∈ prs ps, u.oneCell' = true := by
  intro u hu
  obtain ⟨p, _, hp⟩ := List.mem_flatMap.1 hu
  simp only [Pr.cells, List.mem_cons, List.not_mem_nil, or_false] at hp
  rcases hp with rfl | rfl <;> rfl
theorem prs_set1 (ps : List Pr) {i : Nat} (hi : i < ps.length) (v : Int) : (prs ps).set (i * 2 + 1) (.int .i64 v) = prs (ps.set i (ps[i].1, v)) := by
  induction ps generalizing i with
  | nil => simp at hi
  | cons p ps ih =>
    have e : ∀ (p : Pr) ps, prs (p :: ps) = .int .i64 p.1 :: .int .i64 p.2 :: prs ps := fun _ _ => rfl
    cases i with
    | zero => rfl
    | succ i =>
      rw [e, show (i + 1) * 2 + 1 = i * 2 + 1 + 1 + 1 by omega, List.set_cons_succ, List.set_cons_succ, ih (by simpa using hi)]
      rfl
theorem prs_set0 (ps : List Pr) {i : Nat} (hi : i < ps.length) (v : Int) : (prs ps).set (i * 2) (.int .i64 v) = prs (ps.set i (v, ps[i].2)) := by
  induction ps generalizing i with
  | nil => simp at hi
  | cons p ps ih =>
    have e : ∀ (p : Pr) ps, prs (p :: ps) = .int .i64 p.1 :: .int .i64 p.2 :: prs ps := fun _ _ => rfl
    cases i with
    | zero => rfl
    | succ i =>
      rw [e, show (i + 1) * 2 = i * 2 + 1 + 1 by omega, List.set_cons_succ, List.set_cons_succ, ih (by simpa using hi)]
      rfl
/-- A row whose tail was pushed on by one. -/
theorem splice_prs {cur : List Value} {ps : List Pr} {z : Pr} {i : Nat} (hi : i ≤ ps.length) (hc : cur.take ((ps.length + 1) * 2) = prs (ps ++ [z])) :
    ∃ X, (splice cur ((i + 1) * 2) ((prs ps).drop (i * 2))).take ((ps.length + 1) * 2) = prs (ps.take i ++ X :: ps.drop i) := by
  have hl : (prs (ps ++ [z])).length = (ps.length + 1) * 2 := by rw [prs_len]; simp
  have hcl : (ps.length + 1) * 2 ≤ cur.length := by
    have h := congrArg List.length hc
    rw [List.length_take, hl] at h
    omega
  have hdl : ((prs ps).drop (i * 2)).length = (ps.length - i) * 2 := by rw [List.length_drop, prs_len]; omega
  have h1 : cur.take ((i + 1) * 2) = prs ((ps ++ [z]).take (i + 1)) := by
    rw [← prs_take, ← hc, List.take_take, Nat.min_eq_left (by omega)]
  have hi2 : i < (ps ++ [z]).length := by simp; omega
  refine ⟨(ps ++ [z])[i], ?_⟩
  have hA : (cur.take ((i + 1) * 2)).length = (i + 1) * 2 := by rw [List.length_take]; omega
  unfold splice
  rw [← List.append_assoc, List.take_left' (by rw [List.length_append, hA, hdl]; omega), h1, prs_drop, List.take_succ_eq_append_getElem hi2, List.take_append_of_le_length hi, ← prs_app, List.append_assoc]
  rfl

/-- Behind the copy: the row is pushed on by one. -/
theorem iso_spliced {W w4 : World} {S1 : Nat → Prop} {L : Bq 5} {g cap1 i : Nat} {cur : Array Value} {ps : List Pr} {z : Pr} (hi : i ≤ ps.length) (hb1 : W.heap[L.b]? = some (.cells (L.row (.slice (some ⟨g, 0, none⟩) (ps.length + 1) cap1)) 100 (0, 0))) (hS1 : S1 L.b)
    (hSv1 : ∀ k, (Value.slice (some ⟨g, 0, none⟩) (ps.length + 1) cap1).ownBlock = some k → S1 k ∧ k ≠ L.b) (hl1 : ∀ k, S1 k → k < W.heap.size) (hnc : ps.length + 1 ≤ cap1) (hcm : cap1 ≤ maxLen) (hcs : cur.size = cap1 * 2) (htk : cur.toList.take ((ps.length + 1) * 2) = prs (ps ++ [z]))
    (hg4 : w4.heap[g]? = some (.cells (splice cur.toList ((i + 1) * 2) ((prs ps).drop (i * 2))).toArray 121 (0, 0))) (hf4 : Fr (fun k => k = g) W w4) : ∃ X, IsO w4 S1 L (ps.take i ++ X :: ps.drop i) ∧ Fr S1 W w4 := by
  obtain ⟨X, hX⟩ := splice_prs hi htk
  have hg := hSv1 g rfl
  have hlen : (ps.take i ++ X :: ps.drop i).length = ps.length + 1 := by simp; omega
  have hsl : (splice cur.toList ((i + 1) * 2) ((prs ps).drop (i * 2))).length = cur.toList.length := length_splice _ _ _ (by rw [List.length_drop, prs_len, show cur.toList.length = cap1 * 2 from (Array.length_toList).trans hcs]; omega)
  refine ⟨X, ⟨.slice (some ⟨g, 0, none⟩) (ps.length + 1) cap1, hf4.blk hb1 (fun e => hg.2 e.symm), ?_, hS1, hSv1, fun k hk => Nat.lt_of_lt_of_le (hl1 k hk) hf4.size⟩, hf4.mono (fun k hk => by have hk : k = g := hk; rw [hk]; exact hg.1)⟩
  rw [hlen]
  refine ⟨by rw [prs_len, hlen], .inr ⟨g, cap1, _, rfl, Nat.zero_le _, hg4, hnc, hcm, by simp only [List.size_toArray]; rw [hsl, Array.length_toList, hcs], ?_⟩⟩
  simpa using hX

/-- A pair of the row is written. -/
theorem rq_put2 {w : World} {S : Nat → Prop} {L : Bq 5} {g cap n j : Nat} {x y : Int} {qs : List Pr} (hb : w.heap[L.b]? = some (.cells (L.row (.slice (some ⟨g, 0, none⟩) n cap)) 100 (0, 0))) (ho : w.ownsRow 0 121 2 (.slice (some ⟨g, 0, none⟩) n cap) n (prs qs)) (hS : S L.b)
    (hSv : ∀ k, (Value.slice (some ⟨g, 0, none⟩) n cap).ownBlock = some k → S k ∧ k ≠ L.b) (hl : ∀ k, S k → k < w.heap.size) (hn : qs.length = n) (hj : j < qs.length) :
    IsO ((w.setCell ⟨g, j * 2, none⟩ (.int .i64 x)).setCell ⟨g, j * 2 + 1, none⟩ (.int .i64 y)) S L (qs.set j (x, y)) ∧ Fr S w ((w.setCell ⟨g, j * 2, none⟩ (.int .i64 x)).setCell ⟨g, j * 2 + 1, none⟩ (.int .i64 y)) := by
  subst hn
  obtain ⟨h1, f1⟩ := rq_put (j := j * 2) (u := .int .i64 x) hb ho hS hSv hl
  have hg := hSv g rfl
  have hb1 : (w.setCell ⟨g, j * 2, none⟩ (.int .i64 x)).heap[L.b]? = some (.cells (L.row (.slice (some ⟨g, 0, none⟩) qs.length cap)) 100 (0, 0)) := blk_far2 hb (fun e => hg.2 e.symm) _
  obtain ⟨ho1, _⟩ := ho.stored (j * 2) (.int .i64 x)
  rw [prs_set0 qs hj x] at ho1
  have hl1 : ∀ k, S k → k < (w.setCell ⟨g, j * 2, none⟩ (.int .i64 x)).heap.size := fun k hk => Nat.lt_of_lt_of_le (hl k hk) f1.size
  obtain ⟨h2, f2⟩ := rq_put (j := j * 2 + 1) (u := .int .i64 y) hb1 ho1 hS hSv hl1
  have hj2 : j < (qs.set j (x, qs[j].2)).length := by simpa using hj
  rw [prs_set1 _ hj2 y] at h2
  refine ⟨?_, f1.then_ f2 (fun k hk => .inl hk)⟩
  unfold IsO
  rw [List.length_set]
  have e : ((qs.set j (x, qs[j].2)).set j ((qs.set j (x, qs[j].2))[j].1, y)) = qs.set j (x, y) := by simp
  rw [e] at h2
  exact h2
/-- The list behind Put; was it new? -/
def isAt (ps : List Pr) (s : Int) : Prop := ∃ h : low ps s < ps.length, ps[low ps s].1 = s
def putL (ps : List Pr) (s at_ : Int) : List Pr := if low ps s < ps.length ∧ (ps.map (·.1))[low ps s]? = some s then ps.set (low ps s) (s, at_) else ps.take (low ps s) ++ (s, at_) :: ps.drop (low ps s)

end Go.Proofs.YtjchjpmgbmeohaaDoor

/- Package order: Put. -/
set_option linter.unusedSimpArgs false
set_option linter.unusedVariables false
namespace Go.Proofs.YtjchjpmgbmeohaaDoor
open Go.RowKit

set_option maxRecDepth 20000 in
set_option maxHeartbeats 3200000 in
theorem oput_any (w : World) (S : Nat → Prop) (L : Bq 5) (ps : List Pr) (s at_ : Int) (h : IsO w S L ps) (hn : ps.length ≤ 100000) (hR : Ris ps) :
    Calls Tryd.prog 64 #[.pointer (some ⟨L.b, 5, none⟩), .int .i64 s, .int .i64 at_] w fun e w' => e = .returned (.bool (!decide (low ps s < ps.length ∧ (ps.map (·.1))[low ps s]? = some s))) ∧ ∃ S', IsO w' S' L (putL ps s at_) ∧ Fr S w w' ∧ ∀ k, S' k → S k ∨ w.heap.size ≤ k := by
  obtain ⟨i0, hi0, hz0, hz1, hz2⟩ := info_parts Tryd.infoPair
  have H := Lib.hid h
  have HF := Lib.hid (ofind_any w L S ps s h (by omega) hR)
  have hle := low_le ps s
  obtain ⟨i, hi⟩ : ∃ i, low ps s = i := ⟨_, rfl⟩
  unfold putL
  rw [hi] at HF hle ⊢
  clear h hi
  by_cases hlt : i < ps.length
  · have hget : (ps.map (·.1))[i]? = some ps[i].1 := by rw [List.getElem?_map, List.getElem?_eq_getElem hlt]; rfl
    rw [hget]
    by_cases he : ps[i].1 = s
    · have hc : i < ps.length ∧ some ps[i].1 = some s := ⟨hlt, by rw [he]⟩
      rw [decide_eq_true hc, if_pos hc]
      have HP := Lib.hid (prs_set1 ps hlt at_)
      have HE := Lib.hid he
      have hltI : (i : Int) < ps.length := by omega
      go_enter Tryd.func64, Tryd.ntmps64
      go_wp2_with fail
      refine HF.out.mono ?_
      rintro e w2 ⟨rfl, f2⟩
      obtain ⟨v, hb, ho, hS, hSv, hl⟩ := IsO.fr (S2 := fun _ => False) H.out f2 (fun _ _ h => h)
      obtain ⟨g, cap, rfl⟩ := own_some ho (by omega)
      have c0 := blk_cell hb 5 (L.get _)
      obtain ⟨p0, p1⟩ := own_pair ho rfl hlt
      rw [he] at p0
      have fz := ho.frozenAt (i * 2 + 1)
      have HR := Lib.hid (rq_put (j := i * 2 + 1) (u := .int .i64 at_) hb ho hS hSv hl)
      have F2 := Lib.hid f2
      clear hb ho hS hSv hl he hget hc f2
      go_wp2_with fail
      go_ret
      refine ⟨rfl, S, ?_, (F2.out.mono (fun _ h => h.elim)).then_ HR.out.2 (fun k hk => .inl hk), fun k hk => .inl hk⟩
      have h := HR.out.1
      rw [HP.out, HE.out] at h
      unfold IsO
      rw [List.length_set]
      exact h
    · have hc : ¬ (i < ps.length ∧ some ps[i].1 = some s) := fun h => he (Option.some.inj h.2)
      rw [decide_eq_false hc, if_neg hc]
      have hltI : (i : Int) < ps.length := by omega
      have hne : (ps[i].1 == s) = false := by simpa using he
      go_enter Tryd.func64, Tryd.ntmps64
      go_wp2_with fail
      refine HF.out.mono ?_
      rintro e w2 ⟨rfl, f2⟩
      have hO2 := IsO.fr (S2 := fun _ => False) H.out f2 (fun _ _ h => h)
      have HO2 := Lib.hid hO2
      have F2 := Lib.hid f2
      obtain ⟨v, hb, ho, hS, hSv, hl⟩ := hO2
      obtain ⟨gg, cap, rfl⟩ := own_some ho (by omega)
      have c0 := blk_cell hb 5 (L.get _)
      obtain ⟨p0, -⟩ := own_pair ho rfl hlt
      have Hb := Lib.hid hb
      have Ho := Lib.hid ho
      have Hl := Lib.hid hl
      have Hs := Lib.hid hS
      have Hsv := Lib.hid hSv
      have Hne := Lib.hid (show ¬ (Value.slice (some ⟨gg, 0, none⟩) ps.length cap).ownBlock = some L.b from fun he => (Hsv.out L.b he).2 rfl)
      have Hn := Lib.hid (show prs (ps ++ [(0, 0)]) = prs ps ++ [.int .i64 0, .int .i64 0] from by rw [prs_app]; rfl)
      clear hb ho hl hS hSv f2 he hget hc
      go_upto_region 8 with (at_builtin; go_must (refine wpList_append_fresh _ w2 rfl (.tmp 44) (.tmp 46) 93 rfl 121 i0 (.agg #[.int .i64 0, .int .i64 0]) 2 16 Tryd.underlying93 hi0 hz0 hz1 hz2 rfl (by decide) (.slice (some ⟨gg, 0, none⟩) ps.length cap) ps.length _ rfl Ho.out #[.int .i64 0, .int .i64 0] rfl rfl rfl (by intro u hu; simp at hu; subst hu; rfl) (by omega) (by omega) ?_); intro g2 cap2 w3 hown3 hf3 hat3; have hb' := hf3.blk (blk_alloc Hb.out _) Hne.out; have c0' := blk_cell hb' 5 (L.get _); have f0' := blk_free hb' 5; have HR := Lib.hid (rq_push Hb.out Hs.out Hsv.out Hl.out ((Fr.refl _ w2).alloc (.cells #[.int .i64 0, .int .i64 0] 121)) hown3 hf3 hat3); clear hb' hown3 hf3 hat3)
      obtain ⟨W, hW⟩ : ∃ W, w3.setCell ⟨L.b, 5, none⟩ (.slice (some ⟨g2, 0, none⟩) (ps.length + 1) cap2) = W := ⟨_, rfl⟩
      rw [hW] at HR ⊢
      have HR2 := Lib.hid (show Rq W (Gro S w2 W) L 100 121 2 (ps.length + 1) (prs (ps ++ [(0, 0)])) from by rw [Hn.out]; exact HR.out.1)
      have HFW := Lib.hid (show Fr S w2 W from HR.out.2)
      clear hW c0' f0' HR
      go_cut [] from 8 (fun w' => ∃ S' X, IsO w' S' L (ps.take i ++ X :: ps.drop i) ∧ Fr S w2 w' ∧ ∀ k, S' k → S k ∨ w2.heap.size ≤ k)
      case first =>
        obtain ⟨v1, hb1, ho1, hS1, hSv1, hl1⟩ := HR2.out
        obtain ⟨g, cap1, rfl⟩ := own_some ho1 (by omega)
        have c1 := blk_cell hb1 5 (L.get _)
        have ho1' := ho1
        obtain ⟨-, hno | ⟨g', cp', cur, hv', -, hg1, hnc, hcm, hcs, htk⟩⟩ := ho1'
        · exact absurd hno.2 (by omega)
        simp only [Value.slice.injEq, Option.some.injEq, Addr.mk.injEq, and_true, true_and] at hv'
        obtain ⟨rfl, rfl⟩ := hv'
        have w1 : IntKind.i64.wrap ((i : Int) + 1) = i + 1 := IntWalk.i64_in _ (by omega)
        have b1 : (i : Int) + 1 ≤ ps.length + 1 := by omega
        have b0 : 0 ≤ (i : Int) + 1 := by omega
        have b5 : (i : Int) ≤ ps.length + 1 := by omega
        have b2 : ps.length + 1 ≤ cap1 := hnc
        have b3 : i ≤ ps.length + 1 := by omega
        have b4 : i + 1 ≤ ps.length + 1 := by omega
        have HG1 := Lib.hid hg1
        have HTK := Lib.hid htk
        have HCS := Lib.hid hcs
        have HB1 := Lib.hid hb1
        have HSV1 := Lib.hid hSv1
        have HS1 := Lib.hid hS1
        have HL1 := Lib.hid hl1
        have HCM := Lib.hid hcm
        have hG : W.drew.heap[g]? = some (.cells cur.toList.toArray 121 (0, 0)) := by rw [Array.toArray_toList]; exact hg1
        have HGd := Lib.hid hG
        have Hm := Lib.hid (show ps.length - i = Nat.min (ps.length + 1 - i) (ps.length - i) from by show ps.length - i = min (ps.length + 1 - i) (ps.length - i); omega)
        have Hnn := Lib.hid (show ((prs ps).drop (i * 2)).length = (ps.length - i) * 2 from by rw [List.length_drop, prs_len]; omega)
        have Hpos := Lib.hid (show 0 < ps.length - i → (if cap1 = i + 1 then some (⟨g, 0, none⟩ : Addr) else some ⟨g, (i + 1) * 2, none⟩) = some ⟨g, (i + 1) * 2, none⟩ ∧ ∃ ad, (if cap1 = i then some (⟨g, 0, none⟩ : Addr) else some ⟨g, i * 2, none⟩) = some ad ∧ ∀ j v, ((prs ps).drop (i * 2))[j]? = some v → W.drew.cell? (ad.add j) = some v from fun h0 => by
          refine ⟨if_neg (by omega), ⟨g, i * 2, none⟩, if_neg (by omega), fun j v hv => ?_⟩
          rw [List.getElem?_drop] at hv
          have hx : (prs (ps ++ [(0, 0)]))[i * 2 + j]? = some v := by rw [prs_app, List.getElem?_append_left (by have := (List.getElem?_eq_some_iff.1 hv).1; exact this)]; exact hv
          have hc := ho1.cells (g := g) rfl (i * 2 + j) v hx
          have e1 : (⟨g, 0, none⟩ : Addr).add (i * 2 + j) = ⟨g, i * 2 + j, none⟩ := by unfold Addr.add; split <;> simp_all
          have e2 : (⟨g, i * 2, none⟩ : Addr).add j = ⟨g, i * 2 + j, none⟩ := by unfold Addr.add; split <;> simp_all
          rw [e1] at hc
          rw [e2]
          exact hc)
        have Hfit := Lib.hid (show (i + 1) * 2 + ((prs ps).drop (i * 2)).length ≤ cur.toList.length from by rw [List.length_drop, prs_len, show cur.toList.length = cap1 * 2 from (Array.length_toList).trans hcs]; omega)
        have Hone := Lib.hid (show ∀ v ∈ (prs ps).drop (i * 2), v.oneCell' = true from fun v hv => prs_one ps v (List.mem_of_mem_drop hv))
        have HNC := Lib.hid hnc
        clear hb1 ho1 hS1 hSv1 hl1 hg1 htk hcs hnc hcm hG
        go_region_law (first | (refine step_copy_z rfl (.tmp 56) (.tmp 62) 93 93 rfl 121 2 Tryd.underlying93 szPair _ _ _ _ _ _ (by simp only [Act.eval, Act.put]; rfl) (by simp only [Act.eval, Act.put]; rfl) g ((i + 1) * 2) cur.toList 121 HGd.out ((prs ps).drop (i * 2)) (ps.length - i) Hm.out Hnn.out Hpos.out Hfit.out Hone.out ?_; intro w4 hg4 hf4))
        all_goals
          obtain ⟨X, x1, x2⟩ := iso_spliced (W := W) (w4 := w4) hle HB1.out HS1.out HSV1.out HL1.out HNC.out HCM.out HCS.out HTK.out hg4.out ((Fr.refl (fun k => k = g) W).drew.then_ hf4 (fun k hk => .inl hk))
          have HX := Lib.hid x1
          have HX2 := Lib.hid x2
          clear x1 x2 hg4 hf4
          go_wp2_with fail
        all_goals go_meet
        all_goals exact ⟨_, X, HX.out, HFW.out.then_ HX2.out (fun k hk => hk.imp id (fun h => h.1)), fun k hk => hk.imp id (fun h => h.1)⟩
      case rest =>
        obtain ⟨S3, X, o3, f3, g3⟩ := hcut
        have HF3 := Lib.hid f3
        have HG3 := Lib.hid g3
        have hlen : (ps.take i ++ X :: ps.drop i).length = ps.length + 1 := by simp; omega
        have hil : i < (ps.take i ++ X :: ps.drop i).length := by omega
        obtain ⟨v3, hb3, ho3, hS3, hSv3, hl3⟩ := o3
        rw [hlen] at ho3
        obtain ⟨g, cap3, rfl⟩ := own_some ho3 (by omega)
        have c3 := blk_cell hb3 5 (L.get _)
        obtain ⟨p0, p1⟩ := own_pair ho3 hlen hil
        have fz0 := ho3.frozenAt (i * 2)
        have fz1 := ho3.frozenAt (i * 2 + 1)
        have hb5 : (i : Int) < ps.length + 1 := by omega
        have HR3 := Lib.hid (rq_put2 (j := i) (x := s) (y := at_) hb3 ho3 hS3 hSv3 hl3 hlen hil)
        have HL := Lib.hid (show (ps.take i ++ X :: ps.drop i).set i (s, at_) = ps.take i ++ (s, at_) :: ps.drop i from by
          have e : (ps.take i).length = i := by rw [List.length_take]; omega
          rw [List.set_append, if_neg (by omega), e, Nat.sub_self]; rfl)
        have Hlen := Lib.hid hlen
        clear hb3 ho3 hS3 hSv3 hl3 f3 g3 hlen
        go_wp2_with fail
        go_ret
        have h3 := HR3.out
        rw [HL.out] at h3
        exact ⟨rfl, S3, h3.1, ((F2.out.mono (fun _ h => h.elim)).then_ HF3.out (fun k hk => .inl hk)).then_ h3.2 (fun k hk => (HG3.out k hk).imp id (fun h => Nat.le_trans F2.out.size h)), fun k hk => (HG3.out k hk).imp id (fun h => Nat.le_trans F2.out.size h)⟩
  · have hc : ¬ (i < ps.length ∧ (ps.map (·.1))[i]? = some s) := fun h => hlt h.1
    rw [decide_eq_false hc, if_neg hc]
    have hltI : ¬ (i : Int) < ps.length := by omega
    go_enter Tryd.func64, Tryd.ntmps64
    go_wp2_with fail
    refine HF.out.mono ?_
    rintro e w2 ⟨rfl, f2⟩
    have hO2 := IsO.fr (S2 := fun _ => False) H.out f2 (fun _ _ h => h)
    have HO2 := Lib.hid hO2
    have F2 := Lib.hid f2
    obtain ⟨v, hb, ho, hS, hSv, hl⟩ := hO2
    obtain ⟨a, cap, rfl, -, -⟩ := own_form ho
    have c0 := blk_cell hb 5 (L.get _)
    skip
    have Hb := Lib.hid hb
    have Ho := Lib.hid ho
    have Hl := Lib.hid hl
    have Hs := Lib.hid hS
    have Hsv := Lib.hid hSv
    have Hne := Lib.hid (show ¬ (Value.slice a ps.length cap).ownBlock = some L.b from fun he => (Hsv.out L.b he).2 rfl)
    have Hn := Lib.hid (show prs (ps ++ [(0, 0)]) = prs ps ++ [.int .i64 0, .int .i64 0] from by rw [prs_app]; rfl)
    clear hb ho hl hS hSv f2 hc
    go_upto_region 8 with (at_builtin; go_must (refine wpList_append_fresh _ w2 rfl (.tmp 44) (.tmp 46) 93 rfl 121 i0 (.agg #[.int .i64 0, .int .i64 0]) 2 16 Tryd.underlying93 hi0 hz0 hz1 hz2 rfl (by decide) (.slice a ps.length cap) ps.length _ rfl Ho.out #[.int .i64 0, .int .i64 0] rfl rfl rfl (by intro u hu; simp at hu; subst hu; rfl) (by omega) (by omega) ?_); intro g2 cap2 w3 hown3 hf3 hat3; have hb' := hf3.blk (blk_alloc Hb.out _) Hne.out; have c0' := blk_cell hb' 5 (L.get _); have f0' := blk_free hb' 5; have HR := Lib.hid (rq_push Hb.out Hs.out Hsv.out Hl.out ((Fr.refl _ w2).alloc (.cells #[.int .i64 0, .int .i64 0] 121)) hown3 hf3 hat3); clear hb' hown3 hf3 hat3)
    obtain ⟨W, hW⟩ : ∃ W, w3.setCell ⟨L.b, 5, none⟩ (.slice (some ⟨g2, 0, none⟩) (ps.length + 1) cap2) = W := ⟨_, rfl⟩
    rw [hW] at HR ⊢
    have HR2 := Lib.hid (show Rq W (Gro S w2 W) L 100 121 2 (ps.length + 1) (prs (ps ++ [(0, 0)])) from by rw [Hn.out]; exact HR.out.1)
    have HFW := Lib.hid (show Fr S w2 W from HR.out.2)
    clear hW c0' f0' HR
    go_cut [] from 8 (fun w' => ∃ S' X, IsO w' S' L (ps.take i ++ X :: ps.drop i) ∧ Fr S w2 w' ∧ ∀ k, S' k → S k ∨ w2.heap.size ≤ k)
    case first =>
      obtain ⟨v1, hb1, ho1, hS1, hSv1, hl1⟩ := HR2.out
      obtain ⟨g, cap1, rfl⟩ := own_some ho1 (by omega)
      have c1 := blk_cell hb1 5 (L.get _)
      have ho1' := ho1
      obtain ⟨-, hno | ⟨g', cp', cur, hv', -, hg1, hnc, hcm, hcs, htk⟩⟩ := ho1'
      · exact absurd hno.2 (by omega)
      simp only [Value.slice.injEq, Option.some.injEq, Addr.mk.injEq, and_true, true_and] at hv'
      obtain ⟨rfl, rfl⟩ := hv'
      have w1 : IntKind.i64.wrap ((i : Int) + 1) = i + 1 := IntWalk.i64_in _ (by omega)
      have b1 : (i : Int) + 1 ≤ ps.length + 1 := by omega
      have b0 : 0 ≤ (i : Int) + 1 := by omega
      have b5 : (i : Int) ≤ ps.length + 1 := by omega
      have b2 : ps.length + 1 ≤ cap1 := hnc
      have b3 : i ≤ ps.length + 1 := by omega
      have b4 : i + 1 ≤ ps.length + 1 := by omega
      have HG1 := Lib.hid hg1
      have HTK := Lib.hid htk
      have HCS := Lib.hid hcs
      have HB1 := Lib.hid hb1
      have HSV1 := Lib.hid hSv1
      have HS1 := Lib.hid hS1
      have HL1 := Lib.hid hl1
      have HCM := Lib.hid hcm
      have hG : W.drew.heap[g]? = some (.cells cur.toList.toArray 121 (0, 0)) := by rw [Array.toArray_toList]; exact hg1
      have HGd := Lib.hid hG
      have Hm := Lib.hid (show ps.length - i = Nat.min (ps.length + 1 - i) (ps.length - i) from by show ps.length - i = min (ps.length + 1 - i) (ps.length - i); omega)
      have Hnn := Lib.hid (show ((prs ps).drop (i * 2)).length = (ps.length - i) * 2 from by rw [List.length_drop, prs_len]; omega)
      have Hpos := Lib.hid (show 0 < ps.length - i → (if cap1 = i + 1 then some (⟨g, 0, none⟩ : Addr) else some ⟨g, (i + 1) * 2, none⟩) = some ⟨g, (i + 1) * 2, none⟩ ∧ ∃ ad, (if cap1 = i then some (⟨g, 0, none⟩ : Addr) else some ⟨g, i * 2, none⟩) = some ad ∧ ∀ j v, ((prs ps).drop (i * 2))[j]? = some v → W.drew.cell? (ad.add j) = some v from fun h0 => by
        refine ⟨if_neg (by omega), ⟨g, i * 2, none⟩, if_neg (by omega), fun j v hv => ?_⟩
        rw [List.getElem?_drop] at hv
        have hx : (prs (ps ++ [(0, 0)]))[i * 2 + j]? = some v := by rw [prs_app, List.getElem?_append_left (by have := (List.getElem?_eq_some_iff.1 hv).1; exact this)]; exact hv
        have hc := ho1.cells (g := g) rfl (i * 2 + j) v hx
        have e1 : (⟨g, 0, none⟩ : Addr).add (i * 2 + j) = ⟨g, i * 2 + j, none⟩ := by unfold Addr.add; split <;> simp_all
        have e2 : (⟨g, i * 2, none⟩ : Addr).add j = ⟨g, i * 2 + j, none⟩ := by unfold Addr.add; split <;> simp_all
        rw [e1] at hc
        rw [e2]
        exact hc)
      have Hfit := Lib.hid (show (i + 1) * 2 + ((prs ps).drop (i * 2)).length ≤ cur.toList.length from by rw [List.length_drop, prs_len, show cur.toList.length = cap1 * 2 from (Array.length_toList).trans hcs]; omega)
      have Hone := Lib.hid (show ∀ v ∈ (prs ps).drop (i * 2), v.oneCell' = true from fun v hv => prs_one ps v (List.mem_of_mem_drop hv))
      have HNC := Lib.hid hnc
      clear hb1 ho1 hS1 hSv1 hl1 hg1 htk hcs hnc hcm hG
      go_region_law (first | (refine step_copy_z rfl (.tmp 56) (.tmp 62) 93 93 rfl 121 2 Tryd.underlying93 szPair _ _ _ _ _ _ (by simp only [Act.eval, Act.put]; rfl) (by simp only [Act.eval, Act.put]; rfl) g ((i + 1) * 2) cur.toList 121 HGd.out ((prs ps).drop (i * 2)) (ps.length - i) Hm.out Hnn.out Hpos.out Hfit.out Hone.out ?_; intro w4 hg4 hf4))
      all_goals
        obtain ⟨X, x1, x2⟩ := iso_spliced (W := W) (w4 := w4) hle HB1.out HS1.out HSV1.out HL1.out HNC.out HCM.out HCS.out HTK.out hg4.out ((Fr.refl (fun k => k = g) W).drew.then_ hf4 (fun k hk => .inl hk))
        have HX := Lib.hid x1
        have HX2 := Lib.hid x2
        clear x1 x2 hg4 hf4
        go_wp2_with fail
      all_goals go_meet
      all_goals exact ⟨_, X, HX.out, HFW.out.then_ HX2.out (fun k hk => hk.imp id (fun h => h.1)), fun k hk => hk.imp id (fun h => h.1)⟩
    case rest =>
      obtain ⟨S3, X, o3, f3, g3⟩ := hcut
      have HF3 := Lib.hid f3
      have HG3 := Lib.hid g3
      have hlen : (ps.take i ++ X :: ps.drop i).length = ps.length + 1 := by simp; omega
      have hil : i < (ps.take i ++ X :: ps.drop i).length := by omega
      obtain ⟨v3, hb3, ho3, hS3, hSv3, hl3⟩ := o3
      rw [hlen] at ho3
      obtain ⟨g, cap3, rfl⟩ := own_some ho3 (by omega)
      have c3 := blk_cell hb3 5 (L.get _)
      obtain ⟨p0, p1⟩ := own_pair ho3 hlen hil
      have fz0 := ho3.frozenAt (i * 2)
      have fz1 := ho3.frozenAt (i * 2 + 1)
      have hb5 : (i : Int) < ps.length + 1 := by omega
      have HR3 := Lib.hid (rq_put2 (j := i) (x := s) (y := at_) hb3 ho3 hS3 hSv3 hl3 hlen hil)
      have HL := Lib.hid (show (ps.take i ++ X :: ps.drop i).set i (s, at_) = ps.take i ++ (s, at_) :: ps.drop i from by
          have e : (ps.take i).length = i := by rw [List.length_take]; omega
          rw [List.set_append, if_neg (by omega), e, Nat.sub_self]; rfl)
      have Hlen := Lib.hid hlen
      clear hb3 ho3 hS3 hSv3 hl3 f3 g3 hlen
      go_wp2_with fail
      go_ret
      have h3 := HR3.out
      rw [HL.out] at h3
      exact ⟨rfl, S3, h3.1, ((F2.out.mono (fun _ h => h.elim)).then_ HF3.out (fun k hk => .inl hk)).then_ h3.2 (fun k hk => (HG3.out k hk).imp id (fun h => Nat.le_trans F2.out.size h)), fun k hk => (HG3.out k hk).imp id (fun h => Nat.le_trans F2.out.size h)⟩
end Go.Proofs.YtjchjpmgbmeohaaDoor

/- Package order: Drop. -/
set_option linter.unusedSimpArgs false
set_option linter.unusedVariables false
namespace Go.Proofs.YtjchjpmgbmeohaaDoor
open Go.RowKit

theorem iso_of {w : World} {S : Nat → Prop} {L : Bq 5} {n : Nat} {vs : List Value} {qs : List Pr} (h : Rq w S L 100 121 2 n vs) (hn : qs.length = n) (hv : prs qs = vs) : IsO w S L qs := by
  subst hn
  subst hv
  exact h
theorem gro_low {w w2 W : World} {S : Nat → Prop} (f : Fr (fun _ => False) w w2) : ∀ k, Gro S w2 W k → S k ∨ w.heap.size ≤ k := fun k hk => hk.imp id (fun h => Nat.le_trans f.size h.1)
def dropL (ps : List Pr) (s : Int) : List Pr := if low ps s < ps.length ∧ (ps.map (·.1))[low ps s]? = some s then ps.take (low ps s) ++ ps.drop (low ps s + 1) else ps

set_option maxRecDepth 20000 in
set_option maxHeartbeats 3200000 in
theorem odrop_any (w : World) (S : Nat → Prop) (L : Bq 5) (ps : List Pr) (s : Int) (h : IsO w S L ps) (hn : ps.length ≤ 100000) (hR : Ris ps) :
    Calls Tryd.prog 66 #[.pointer (some ⟨L.b, 5, none⟩), .int .i64 s] w fun e w' => e = .returned (.bool (decide (low ps s < ps.length ∧ (ps.map (·.1))[low ps s]? = some s))) ∧ ∃ S', IsO w' S' L (dropL ps s) ∧ Fr S w w' ∧ ∀ k, S' k → S k ∨ w.heap.size ≤ k := by
  obtain ⟨i0, hi0, hz0, hz1, hz2⟩ := info_parts Tryd.infoPair
  have H := Lib.hid h
  have HF := Lib.hid (ofind_any w L S ps s h (by omega) hR)
  have hle := low_le ps s
  obtain ⟨i, hi⟩ : ∃ i, low ps s = i := ⟨_, rfl⟩
  unfold dropL
  rw [hi] at HF hle ⊢
  clear h hi
  by_cases hlt : i < ps.length
  · have hget : (ps.map (·.1))[i]? = some ps[i].1 := by rw [List.getElem?_map, List.getElem?_eq_getElem hlt]; rfl
    rw [hget]
    by_cases he : ps[i].1 = s
    · have hc : i < ps.length ∧ some ps[i].1 = some s := ⟨hlt, by rw [he]⟩
      rw [decide_eq_true hc, if_pos hc]
      have hltI : (i : Int) < ps.length := by omega
      have hne : ((i : Int) == ps.length) = false := by simp; omega
      go_enter Tryd.func66, Tryd.ntmps66
      go_wp2_with fail
      refine HF.out.mono ?_
      rintro e w2 ⟨rfl, f2⟩
      have F2 := Lib.hid f2
      obtain ⟨v, hb, ho, hS, hSv, hl⟩ := IsO.fr (S2 := fun _ => False) H.out f2 (fun _ _ h => h)
      obtain ⟨g, cap, rfl⟩ := own_some ho (by omega)
      have c0 := blk_cell hb 5 (L.get _)
      obtain ⟨p0, -⟩ := own_pair ho rfl hlt
      rw [he] at p0
      have hse : (s != s) = false := by simp
      have hcap : ps.length ≤ cap := by
        obtain ⟨a', c', e', hc', -⟩ := own_form ho
        simp only [Value.slice.injEq] at e'
        omega
      have w1 : IntKind.i64.wrap ((i : Int) + 1) = i + 1 := IntWalk.i64_in _ (by omega)
      have b0 : 0 ≤ (i : Int) + 1 := by omega
      have b1 : (i : Int) + 1 ≤ ps.length := by omega
      have b2 : i ≤ cap := by omega
      have Hcut := Lib.hid (show w2.ownsRow 0 121 2 (.slice (some ⟨g, 0, none⟩) i cap) i (prs (ps.take i)) from by have h := own_cut ho rfl (m := i) (by omega); rwa [prs_take] at h)
      have HD := Lib.hid (prs_drop ps (i + 1))
      have HSrc := Lib.hid (show ∀ (ad : Option Addr) c, (0 < ps.length - (i + 1) → ad = some ⟨g, (i + 1) * 2, none⟩) → Src Tryd.prog 2 93 (.slice ad (ps.length - (i + 1)) c) (ps.length - (i + 1)) (prs (ps.drop (i + 1))) w2.drew from fun ad c hp => by
        by_cases h0 : ps.length - (i + 1) = 0
        · rw [h0, show ps.drop (i + 1) = [] from List.drop_eq_nil_of_le (by omega)]
          cases ad with
          | none => exact Src.ofNil _ Tryd.underlying93 c
          | some b => exact Src.ofSlice _ Tryd.underlying93 b 0 c [] (by simp) (fun j u hu => by simp at hu) (fun u hu => by simp at hu)
        · rw [hp (by omega)]
          refine Src.ofSlice _ Tryd.underlying93 _ _ c _ (by rw [prs_len, List.length_drop]) (fun j u hu => ?_) (prs_one _)
          rw [← prs_drop, List.getElem?_drop] at hu
          have hc := ho.cells (g := g) rfl ((i + 1) * 2 + j) u hu
          have e1 : (⟨g, 0, none⟩ : Addr).add ((i + 1) * 2 + j) = ⟨g, (i + 1) * 2 + j, none⟩ := by unfold Addr.add; split <;> simp_all
          have e2 : (⟨g, (i + 1) * 2, none⟩ : Addr).add j = ⟨g, (i + 1) * 2 + j, none⟩ := by unfold Addr.add; split <;> simp_all
          rw [e1] at hc
          rw [e2]
          exact hc)
      have Hb := Lib.hid hb
      have Hs := Lib.hid hS
      have Hsv := Lib.hid hSv
      have Hl := Lib.hid hl
      have hNL : i + (ps.length - (i + 1)) ≤ 140737488355328 := by omega
      have hNB : (i + (ps.length - (i + 1))) * 16 ≤ 140737488355328 := by omega
      have hq : cap = i + 1 → ¬ 0 < ps.length - (i + 1) := by omega
      clear hb ho hS hSv hl he hget hc f2
      go_upto_region 6 with fail
      go_region_law (first | (refine step_append_src w2.drew rfl (.tmp 36) (.tmp 43) 93 93 rfl 121 i0 (.agg #[.int .i64 0, .int .i64 0]) 2 16 Tryd.underlying93 hi0 hz0 hz1 hz2 rfl (by decide) (.slice (some ⟨g, 0, none⟩) i cap) i _ (by simp only [Act.eval, Act.put]; rfl) Hcut.out.drew _ (ps.length - (i + 1)) _ (by simp only [Act.eval, Act.put]; rfl) (HSrc.out _ _ (fun h0 => by first | rfl | (rw [if_neg (by omega)]))) hNL hNB ?_; intro g2 cap2 w3 hown3 hf3 hat3; have hb' := hf3.blk (w := w2.drew) Hb.out (fun he => by have h := Hsv.out L.b he; exact h.2 rfl); have c0' := blk_cell hb' 5 (L.get _); have f0' := blk_free hb' 5))
      all_goals
        have HR := Lib.hid (rq_push Hb.out Hs.out Hsv.out Hl.out ((Fr.refl (fun _ => False) w2).drew) hown3 (by exact hf3) (by exact hat3))
        clear hb' hown3 hf3 hat3
        go_wp2_with fail
        all_goals go_ret
        all_goals exact ⟨rfl, _, iso_of HR.out.1 (by rw [List.length_append, List.length_take, List.length_drop]; omega) (prs_app _ _), (F2.out.mono (fun _ h => h.elim)).then_ HR.out.2 (fun k hk => .inl hk), gro_low F2.out⟩
    · have hc : ¬ (i < ps.length ∧ some ps[i].1 = some s) := fun h => he (Option.some.inj h.2)
      rw [decide_eq_false hc, if_neg hc]
      have hltI : (i : Int) < ps.length := by omega
      have hne : ((i : Int) == ps.length) = false := by simp; omega
      obtain ⟨x, hx⟩ : ∃ x, ps[i].1 = x := ⟨_, rfl⟩
      have hxs : (x != s) = true := by rw [← hx]; simpa using he
      go_enter Tryd.func66, Tryd.ntmps66
      go_wp2_with fail
      refine HF.out.mono ?_
      rintro e w2 ⟨rfl, f2⟩
      have F2 := Lib.hid f2
      have HO := Lib.hid (IsO.fr (S2 := fun _ => False) H.out f2 (fun _ _ h => h))
      obtain ⟨v, hb, ho, -, -, -⟩ := HO.out
      obtain ⟨g, cap, rfl⟩ := own_some ho (by omega)
      have c0 := blk_cell hb 5 (L.get _)
      obtain ⟨p0, -⟩ := own_pair ho rfl hlt
      rw [hx] at p0
      clear hb ho he hget hc f2 hx
      go_wp2_with fail
      go_ret
      exact ⟨rfl, S, HO.out, F2.out.mono (fun _ h => h.elim), fun k hk => .inl hk⟩
  · have hc : ¬ (i < ps.length ∧ (ps.map (·.1))[i]? = some s) := fun h => hlt h.1
    rw [decide_eq_false hc, if_neg hc]
    have hne : ((i : Int) == ps.length) = true := by simp; omega
    have hge : (ps.length : Int) ≤ i := by omega
    have hle2 : (i : Int) ≤ ps.length := by omega
    go_enter Tryd.func66, Tryd.ntmps66
    go_wp2_with fail
    refine HF.out.mono ?_
    rintro e w2 ⟨rfl, f2⟩
    have F2 := Lib.hid f2
    have HO := Lib.hid (IsO.fr (S2 := fun _ => False) H.out f2 (fun _ _ h => h))
    obtain ⟨v, hb, ho, -, -, -⟩ := HO.out
    obtain ⟨a, cap, rfl, -, -⟩ := own_form ho
    have c0 := blk_cell hb 5 (L.get _)
    clear hb ho hc f2
    go_wp2_with fail
    go_ret
    exact ⟨rfl, S, HO.out, F2.out.mono (fun _ h => h.elim), fun k hk => .inl hk⟩
end Go.Proofs.YtjchjpmgbmeohaaDoor

/- Books: stamps go on. -/
set_option linter.unusedSimpArgs false
set_option linter.unusedVariables false
namespace Go.Proofs.YtjchjpmgbmeohaaDoor
open Go.RowKit

theorem putL_len (ps : List Pr) (s a : Int) : (putL ps s a).length ≤ ps.length + 1 := by
  have := low_le ps s
  unfold putL
  split <;> simp
  omega
theorem dropL_len (ps : List Pr) (s : Int) : (dropL ps s).length ≤ ps.length := by
  unfold dropL
  split
  · simp; omega
  · exact Nat.le_refl _
theorem ris_drop {ps : List Pr} (h : Ris ps) (s : Int) : Ris (dropL ps s) := by
  unfold dropL
  split
  · refine List.Pairwise.sublist ?_ h
    have e : ps.take (low ps s) ++ ps.drop (low ps s) = ps := List.take_append_drop _ _
    conv => rhs; rw [← e]
    refine List.Sublist.append (List.Sublist.refl _) ?_
    rw [← List.drop_drop]
    exact List.drop_sublist _ _
  · exact h
theorem ris_put {ps : List Pr} (h : Ris ps) (s a : Int) : Ris (putL ps s a) := by
  have hle := low_le ps s
  unfold putL
  split
  · rename_i hc
    obtain ⟨hl, hg⟩ := hc
    rw [List.getElem?_map, List.getElem?_eq_getElem hl] at hg
    simp only [Option.map_some, Option.some.injEq] at hg
    have e : (ps.set (low ps s) (s, a)).map (·.1) = ps.map (·.1) := by
      apply List.ext_getElem (by simp)
      intro j h1 h2
      rw [List.getElem_map, List.getElem_map, List.getElem_set]
      split
      · rename_i hj
        subst hj
        exact hg.symm
      · rfl
    have h1 : (ps.map (·.1)).Pairwise (· < ·) := List.pairwise_map.2 h
    rw [← e] at h1
    exact List.pairwise_map.1 h1
  · rename_i hc
    have e : ps.take (low ps s) ++ ps.drop (low ps s) = ps := List.take_append_drop _ _
    have hp : (ps.take (low ps s) ++ ps.drop (low ps s)).Pairwise (fun p q => p.1 < q.1) := by rw [e]; exact h
    rw [List.pairwise_append] at hp
    obtain ⟨h1, h2, h3⟩ := hp
    have hlt : ∀ p ∈ ps.take (low ps s), p.1 < s := fun p hp => by
      obtain ⟨i, hi, rfl⟩ := List.getElem_of_mem hp
      have hi2 : i < low ps s := by rw [List.length_take] at hi; omega
      rw [List.getElem_take]
      exact low_lo (by omega) hi2
    have hgt : ∀ p ∈ ps.drop (low ps s), s < p.1 := fun p hp => by
      obtain ⟨i, hi, rfl⟩ := List.getElem_of_mem hp
      have hi2 : low ps s + i < ps.length := by rw [List.length_drop] at hi; omega
      rw [List.getElem_drop]
      have h4 := low_hi (s := s) h hi2 (by omega)
      by_cases h5 : low ps s < ps.length
      · have h6 : ps[low ps s].1 ≠ s := fun h7 => hc ⟨h5, by rw [List.getElem?_map, List.getElem?_eq_getElem h5]; simp [h7]⟩
        have h7 := low_hi h h5 (Nat.le_refl _)
        by_cases h8 : i = 0
        · subst h8
          simp only [Nat.add_zero]
          omega
        · have := List.pairwise_iff_getElem.1 h (low ps s) (low ps s + i) h5 hi2 (by omega)
          omega
      · omega
    unfold Ris
    rw [List.pairwise_append]
    refine ⟨h1, List.pairwise_cons.2 ⟨fun q hq => hgt q hq, h2⟩, fun p hp q hq => ?_⟩
    rcases List.mem_cons.1 hq with rfl | hq
    · exact hlt p hp
    · exact h3 p hp q hq
section
variable {ps : List Pr} {f : Int → Option Int}
theorem low_at (hR : Ris ps) {k : Nat} (hk : k < ps.length) : low ps ps[k].1 = k := by
  have h1 : ¬ k < low ps ps[k].1 := fun h => by have := low_lo hk h; omega
  by_cases h2 : low ps ps[k].1 = k
  · exact h2
  · have hl : low ps ps[k].1 < ps.length := by omega
    have h3 := low_hi hR hl (Nat.le_refl _)
    have := List.pairwise_iff_getElem.1 hR (low ps ps[k].1) k hl hk (by omega)
    omega
/-- Found is what is there. -/
theorem found_iff (h : ORel ps f) (s : Int) : (low ps s < ps.length ∧ (ps.map (·.1))[low ps s]? = some s) ↔ (f s).isSome = true := by
  constructor
  · rintro ⟨h1, h2⟩
    rw [List.getElem?_map, List.getElem?_eq_getElem h1] at h2
    have e : ps[low ps s].1 = s := by simpa using h2
    have hm : (s, ps[low ps s].2) ∈ ps := by
      have := List.getElem_mem h1
      rw [show ps[low ps s] = (s, ps[low ps s].2) from Prod.ext e rfl] at this
      exact this
    rw [(h.iff _ _).1 hm]; rfl
  · intro hs
    obtain ⟨a, ha⟩ := Option.isSome_iff_exists.1 hs
    obtain ⟨k, hk, e⟩ := List.getElem_of_mem ((h.iff s a).2 ha)
    have hl := low_at h.up hk
    rw [e] at hl
    have hl : low ps s = k := hl
    refine ⟨by omega, ?_⟩
    rw [hl, List.getElem?_map, List.getElem?_eq_getElem hk, e]; rfl
theorem orel_put (h : ORel ps f) (s a : Int) : ORel (putL ps s a) (upd f s (some a)) := by
  refine ⟨ris_put h.up s a, fun t b => ?_⟩
  by_cases hc : low ps s < ps.length ∧ (ps.map (·.1))[low ps s]? = some s
  · have e0 : putL ps s a = ps.set (low ps s) (s, a) := by unfold putL; rw [if_pos hc]
    have e : ps[low ps s].1 = s := by have := hc.2; rw [List.getElem?_map, List.getElem?_eq_getElem hc.1] at this; simpa using this
    have key : (t, b) ∈ ps.set (low ps s) (s, a) ↔ (t = s ∧ b = a) ∨ (t ≠ s ∧ (t, b) ∈ ps) := by
      constructor
      · intro hm
        obtain ⟨k, hk, ek⟩ := List.getElem_of_mem hm
        rw [List.getElem_set] at ek
        split at ek
        · cases ek; exact .inl ⟨rfl, rfl⟩
        · rename_i hne
          have hk' : k < ps.length := by simpa using hk
          refine .inr ⟨fun ht => hne ?_, ek ▸ List.getElem_mem hk'⟩
          have hl := low_at h.up hk'
          rw [ek] at hl
          rw [← ht]; exact hl
      · rintro (⟨rfl, rfl⟩ | ⟨hne, hm⟩)
        · exact List.mem_iff_getElem.2 ⟨low ps t, by simpa using hc.1, by simp⟩
        · obtain ⟨k, hk, ek⟩ := List.getElem_of_mem hm
          refine List.mem_iff_getElem.2 ⟨k, by simpa using hk, ?_⟩
          rw [List.getElem_set, if_neg (fun e2 => ?_), ek]
          have : ps[k].1 = s := by subst e2; exact e
          rw [ek] at this
          exact hne this
    rw [e0, key]
    by_cases ht : t = s
    · subst ht; rw [upd_self]; simp [eq_comm]
    · rw [upd_ne _ _ ht, ← h.iff]; simp [ht]
  · have e0 : putL ps s a = ps.take (low ps s) ++ (s, a) :: ps.drop (low ps s) := by unfold putL; rw [if_neg hc]
    have hno : f s = none := by
      cases hx : f s with
      | none => rfl
      | some v => exact absurd ((found_iff h s).2 (by rw [hx]; rfl)) hc
    rw [e0, List.mem_append, List.mem_cons, or_left_comm, ← List.mem_append, List.take_append_drop]
    by_cases ht : t = s
    · subst ht
      rw [upd_self]
      constructor
      · rintro (he | hm)
        · cases he; rfl
        · rw [h.iff, hno] at hm; cases hm
      · rintro ⟨⟩; exact .inl rfl
    · rw [upd_ne _ _ ht, ← h.iff]
      exact ⟨fun h => h.elim (fun he => absurd (by cases he; rfl) ht) id, .inr⟩
theorem orel_drop (h : ORel ps f) (s : Int) : ORel (dropL ps s) (upd f s none) := by
  refine ⟨ris_drop h.up s, fun t b => ?_⟩
  by_cases hc : low ps s < ps.length ∧ (ps.map (·.1))[low ps s]? = some s
  · have e0 : dropL ps s = ps.take (low ps s) ++ ps.drop (low ps s + 1) := by unfold dropL; rw [if_pos hc]
    have e : ps[low ps s].1 = s := by have := hc.2; rw [List.getElem?_map, List.getElem?_eq_getElem hc.1] at this; simpa using this
    have hsplit : ps = ps.take (low ps s) ++ ps[low ps s] :: ps.drop (low ps s + 1) := by rw [← List.drop_eq_getElem_cons hc.1, List.take_append_drop]
    have hm : (t, b) ∈ ps ↔ (t, b) = ps[low ps s] ∨ (t, b) ∈ ps.take (low ps s) ++ ps.drop (low ps s + 1) := by
      conv => lhs; rw [hsplit]
      rw [List.mem_append, List.mem_cons, or_left_comm, ← List.mem_append]
    have hnd : ∀ p ∈ ps.take (low ps s) ++ ps.drop (low ps s + 1), p.1 ≠ s := fun p hp hs => by
      have hp2 : ps.Pairwise (fun p q => p.1 < q.1) := h.up
      rw [hsplit, List.pairwise_append] at hp2
      obtain ⟨_, h2, h3⟩ := hp2
      rw [List.pairwise_cons] at h2
      rcases List.mem_append.1 hp with hp | hp
      · have := h3 p hp _ (List.mem_cons_self ..); omega
      · have := h2.1 p hp; omega
    rw [e0]
    by_cases ht : t = s
    · subst ht
      rw [upd_self]
      exact ⟨fun h => (hnd _ h rfl).elim, fun h => (by cases h)⟩
    · rw [upd_ne _ _ ht, ← h.iff, hm]
      exact ⟨.inr, fun h => h.elim (fun he => absurd (by rw [← e, ← he]) ht) id⟩
  · have e0 : dropL ps s = ps := by unfold dropL; rw [if_neg hc]
    have hno : f s = none := by
      cases hx : f s with
      | none => rfl
      | some v => exact absurd ((found_iff h s).2 (by rw [hx]; rfl)) hc
    have ef : upd f s none = f := by
      funext y
      by_cases e : y = s
      · rw [e, upd_self, hno]
      · rw [upd_ne _ _ e]
    rw [e0, ef]
    exact h.iff t b
end
/-- The stamps' place in the state's block. -/
def Dd.L5 (d : Dd) (lv qv : Value) (c s : Int) : Bq 5 := ⟨d.B, fun v => #[lv, .pointer (some ⟨d.A, 0, none⟩), .pointer (some ⟨d.K, 0, none⟩), .pointer (some ⟨d.I, 0, none⟩), .pointer (some ⟨d.N, 0, none⟩), v, qv, .int .i64 c, .int .i64 s], fun _ => rfl, fun _ _ => rfl⟩
section
variable {w w' : World} {lab : Nat → Nat} {d : Dd} {r : Raw} {es : List Ent} {big : Nat} {lv sv qv : Value} {ps : List Pr} {hp : List Itm}
theorem Sta.stsAt (h : Sta w lab d r es big) (b : SB w lab d r es big lv sv qv ps hp) : IsO w (fun k => lab k = 6 ∨ k = d.B) (d.L5 lv qv r.clock r.stamp) ps := by
  refine ⟨sv, b.blk, b.sts, .inr rfl, fun k hk => ⟨.inl (b.stsl k hk), fun e => ?_⟩, fun k hk => ?_⟩
  · have h1 := b.stsl k hk
    have h8 := h.labB
    rw [show k = d.B from e, h8] at h1
    cases h1
  · rcases hk with hk | rfl
    · exact h.lt k (by rw [hk]; decide)
    · exact h.lt _ (by rw [h.labB]; decide)
theorem Sta.rests (h : Sta w lab d r es big) (b : SB w lab d r es big lv sv qv ps hp) {S' : Nat → Prop} {qs : List Pr} {f : Int → Option Int} {big' : Nat} (hf : Fr (fun k => lab k = 6 ∨ k = d.B) w w')
    (ho : IsO w' S' (d.L5 lv qv r.clock r.stamp) qs) (hS : ∀ k, S' k → (lab k = 6 ∨ k = d.B) ∨ w.heap.size ≤ k) (hR : ORel qs f) (hb : big ≤ big') (hl : qs.length ≤ big') : Sta w' (ext lab w.heap.size w'.heap.size 6) d { r with sts := f } es big' := by
  have hr := ext_rel (c := 6) h hf.size
  have hn : ∀ k, (lab k = 6 ∨ k = d.B) → lab k = 6 ∨ lab k = 8 := fun k hk => hk.imp id (fun e => by rw [e]; exact h.labB)
  have hne : ∀ c, c ≠ 6 → c ≠ 8 → ∀ k, (lab k = 6 ∨ k = d.B) → lab k ≠ c := fun c h1 h8 k hs e => by
    rcases hn k hs with h | h
    · rw [h] at e; exact h1 e.symm
    · rw [h] at e; exact h8 e.symm
  have hk : ∀ k c, c ≠ 0 → lab k = c → ext lab w.heap.size w'.heap.size 6 k = c := fun k c h0 h1 => by rw [hr.nz k (by rw [h1]; exact h0), h1]
  obtain ⟨sv', hb', ho', _, hl', hlt'⟩ := ho
  refine ⟨⟨lv, sv', qv, qs, hp, ⟨hb', own_fr b.log hf (fun k hk hs => hne 1 (by decide) (by decide) k hs (b.logl k hk)), fun k h => hk k 1 (by decide) (b.logl k h), ho', fun k hk' => ?_, hR, own_fr b.ens hf (fun k hk hs => hne 7 (by decide) (by decide) k hs (b.ensl k hk)), fun k h => hk k 7 (by decide) (b.ensl k h), b.qrel, hl, Nat.le_trans b.hpb hb⟩⟩, hk _ 8 (by decide) h.labB, h.acc.rel (by decide) hf (hne 2 (by decide) (by decide)) hr, h.kep.rel (by decide) hf (hne 3 (by decide) (by decide)) hr, tab_more (h.ids.rel (by decide) hf (hne 4 (by decide) (by decide)) hr) hb, tab_more (h.nms.rel (by decide) hf (hne 5 (by decide) (by decide)) hr) hb, hr.lt, ents_rel h.ents hf (hne 9 (by decide) (by decide)) hr⟩
  have hs := hl' k hk'
  rcases hS k hs.1 with (h6 | rfl) | hge
  · exact hk k 6 (by decide) h6
  · exact absurd rfl hs.2
  · rw [ext, if_neg (by omega), if_pos (hlt' k hs.1)]
theorem Sta.stp6 (h : Sta w lab d r es big) (hf : Fr (fun k => lab k = 6 ∨ k = d.B) w w') : Stp w.heap.size w lab w' (ext lab w.heap.size w'.heap.size 6) := ext_stp (Nat.le_refl _) (hf.mono (fun k hk => by
  rcases hk with hk | rfl
  · rw [hk]; decide
  · rw [h.labB]; decide))
theorem stsPutS (w : World) (lab : Nat → Nat) (d : Dd) (r : Raw) (es : List Ent) (big : Nat) (s a : Int) (h : Sta w lab d r es big) (hb : big ≤ 90000) :
    Calls Tryd.prog 64 #[.pointer (some ⟨d.B, 5, none⟩), .int .i64 s, .int .i64 a] w fun e w' => e = .returned (.bool (r.sts s).isNone) ∧ ∃ lab', Sta w' lab' d { r with sts := upd r.sts s (some a) } es (big + 1) ∧ Stp w.heap.size w lab w' lab' := by
  obtain ⟨lv, sv, qv, ps, hp, b⟩ := h.bb
  have hpb := b.psb
  refine (oput_any w _ (d.L5 lv qv r.clock r.stamp) ps s a (h.stsAt b) (by omega) b.orel.up).mono ?_
  rintro e w' ⟨rfl, S', ho, hf, hS⟩
  refine ⟨?_, _, h.rests b hf ho hS (orel_put b.orel s a) (Nat.le_succ _) (Nat.le_trans (putL_len _ _ _) (by omega)), h.stp6 hf⟩
  have hfi := found_iff b.orel s
  cases hx : r.sts s with
  | none => rw [hx] at hfi; rw [decide_eq_false (fun h => by have := hfi.1 h; cases this)]; rfl
  | some v => rw [hx] at hfi; rw [decide_eq_true (hfi.2 rfl)]; rfl
theorem stsDropS (w : World) (lab : Nat → Nat) (d : Dd) (r : Raw) (es : List Ent) (big : Nat) (s : Int) (h : Sta w lab d r es big) (hb : big ≤ 90000) :
    Calls Tryd.prog 66 #[.pointer (some ⟨d.B, 5, none⟩), .int .i64 s] w fun e w' => e = .returned (.bool (r.sts s).isSome) ∧ ∃ lab', Sta w' lab' d { r with sts := upd r.sts s none } es big ∧ Stp w.heap.size w lab w' lab' := by
  obtain ⟨lv, sv, qv, ps, hp, b⟩ := h.bb
  have hpb := b.psb
  refine (odrop_any w _ (d.L5 lv qv r.clock r.stamp) ps s (h.stsAt b) (by omega) b.orel.up).mono ?_
  rintro e w' ⟨rfl, S', ho, hf, hS⟩
  refine ⟨?_, _, h.rests b hf ho hS (orel_drop b.orel s) (Nat.le_refl _) (Nat.le_trans (dropL_len _ _) (by omega)), h.stp6 hf⟩
  have hfi := found_iff b.orel s
  cases hx : r.sts s with
  | none => rw [hx] at hfi; rw [decide_eq_false (fun h => by have := hfi.1 h; cases this)]; rfl
  | some v => rw [hx] at hfi; rw [decide_eq_true (hfi.2 rfl)]; rfl
end
end Go.Proofs.YtjchjpmgbmeohaaDoor
