/- Several texts in one, for the law BooksBack: BkR, LoadEq, BkV, BkX, EqK, Slot, RowSet, RfA, BkW, BkSet, BoA, BoB, Copy. Each says what it shows; conditions: what each theorem names. -/
import Derived.Test.YtjchjpmgbmeohaaDoorMk5
import Derived.WalkKit
import Derived.Laws.Rows
import Derived.Deep.MidRow
import Derived.Test.YtjchjpmgbmeohaaDoorMk3
import Derived.Test.YtjchjpmgbmeohaaDoorMk1
import Derived.Test.YtjchjpmgbmeohaaDoorMk4
import Derived.Test.YtjchjpmgbmeohaaDoorMk2
import Derived.Deep.QuietTactic
import Derived.Deep.RegionHeld3
import Derived.BigQuiet
import Derived.Lib.Hide
import Derived.Deep.DeepMust
import Derived.Deep.CutBlock
import Derived.Deep.RegionLaw
import Derived.KernelRfl
import Derived.Test.YtjchjpmgbmeohaaDoorProg
import Derived.Laws.CopyOwn
/- Books: New. -/
set_option linter.unusedSimpArgs false
set_option linter.unusedVariables false
namespace Go.Proofs.YtjchjpmgbmeohaaDoor
open Go.RowKit

theorem ofA (w : World) (B : Nat) : Calls Tryd.prog 52 #[.pointer (some ⟨B, 0, none⟩)] w fun e w' => e = .returned (.pointer (some ⟨w.heap.size, 0, none⟩)) ∧ w' = w.alloc (.cells #[.slice none 0 0, .pointer (some ⟨B, 0, none⟩)] 137) := by
  go_enter Tryd.func52, Tryd.ntmps52
  go_wp2_with fail
  go_ret
  exact ⟨rfl, rfl⟩
theorem ofK (w : World) (B : Nat) : Calls Tryd.prog 53 #[.pointer (some ⟨B, 0, none⟩)] w fun e w' => e = .returned (.pointer (some ⟨w.heap.size, 0, none⟩)) ∧ w' = w.alloc (.cells #[.slice none 0 0, .pointer (some ⟨B, 0, none⟩)] 139) := by
  go_enter Tryd.func53, Tryd.ntmps53
  go_wp2_with fail
  go_ret
  exact ⟨rfl, rfl⟩
def Raw.empty : Raw := ⟨[], [], fun _ => none, fun _ => none, fun _ => none, fun _ => none, 0, 0⟩
def NewBooks (w : World) (e : Ending) (w' : World) : Prop := ∃ lab d, e = .returned (.pointer (some ⟨d.B, 0, none⟩)) ∧ Sta w' lab d Raw.empty [] 0 ∧ (∀ k, lab k ≠ 0 → w.heap.size ≤ k) ∧ Fr (fun _ => False) w w'
/-- What New leaves. -/
structure Made (w w3 : World) (B A K T1 T2 : Nat) : Prop where
  blk : w3.heap[B]? = some (.cells #[.slice none 0 0, .pointer (some ⟨A, 0, none⟩), .pointer (some ⟨K, 0, none⟩), .pointer (some ⟨T1, 0, none⟩), .pointer (some ⟨T2, 0, none⟩), .slice none 0 0, .slice none 0 0, .int .i64 0, .int .i64 0] 100 (0, 0))
  a : w3.heap[A]? = some (.cells #[.slice none 0 0, .pointer (some ⟨B, 0, none⟩)] 137 (0, 0))
  k : w3.heap[K]? = some (.cells #[.slice none 0 0, .pointer (some ⟨B, 0, none⟩)] 139 (0, 0))
  f : Fr (fun k => k = B) w w3
open Classical in
/-- .. is an empty state. -/
theorem made_sta {w0 w1 w2 w3 : World} {B A K T1 T2 : Nat} {S1 S2 : Nat → Prop} (t1 : IsT w1 S1 T1 empty8) (h1 : ∀ k, S1 k → w0.heap.size ≤ k) (f1 : Fr (fun _ => False) w0 w1) (t2 : IsT w2 S2 T2 empty8) (h2 : ∀ k, S2 k → w1.heap.size ≤ k) (f2 : Fr (fun _ => False) w1 w2)
    (m : Made w2 w3 B A K T1 T2) (hB : w2.heap.size ≤ B) (hA : B < A) (hK : B < K) (hne : A ≠ K) : ∃ lab, Sta w3 lab ⟨B, A, K, T1, T2⟩ Raw.empty [] 0 ∧ (∀ k, lab k ≠ 0 → w0.heap.size ≤ k) ∧ Fr (fun _ => False) w0 w3 := by
  have s1 := f1.size
  have s2 := f2.size
  have lB := blk_lt m.blk
  have lA := blk_lt m.a
  have lK := blk_lt m.k
  have l1 : ∀ k, S1 k → k < w1.heap.size := fun k hk => Rw.lt t1.is hk
  have l2 : ∀ k, S2 k → k < w2.heap.size := fun k hk => Rw.lt t2.is hk
  have hbl : ∀ k, k < w2.heap.size → k ≠ B ∧ k ≠ A ∧ k ≠ K := fun k hk => ⟨by omega, by omega, by omega⟩
  let lab : Nat → Nat := fun k => if k = B then 8 else if k = A then 2 else if k = K then 3 else if S1 k then 4 else if S2 k then 5 else 0
  have eB : lab B = 8 := if_pos rfl
  have eA : lab A = 2 := by show (if A = B then 8 else _) = 2; rw [if_neg (by omega), if_pos rfl]
  have eK : lab K = 3 := by show (if K = B then 8 else _) = 3; rw [if_neg (by omega), if_neg (fun e => hne e.symm), if_pos rfl]
  have e1 : ∀ k, S1 k → lab k = 4 := fun k hk => by
    have := hbl k (by have := l1 k hk; omega)
    show (if k = B then 8 else _) = 4
    rw [if_neg this.1, if_neg this.2.1, if_neg this.2.2, if_pos hk]
  have e2 : ∀ k, S2 k → lab k = 5 := fun k hk => by
    have := hbl k (l2 k hk)
    show (if k = B then 8 else _) = 5
    rw [if_neg this.1, if_neg this.2.1, if_neg this.2.2, if_neg (fun h => by have := l1 k h; have := h2 k hk; omega), if_pos hk]
  have inv : ∀ k, lab k ≠ 0 → k = B ∨ k = A ∨ k = K ∨ S1 k ∨ S2 k := fun k hk => by
    by_cases h1 : k = B
    · exact .inl h1
    by_cases h2 : k = A
    · exact .inr (.inl h2)
    by_cases h3 : k = K
    · exact .inr (.inr (.inl h3))
    by_cases h4 : S1 k
    · exact .inr (.inr (.inr (.inl h4)))
    by_cases h5 : S2 k
    · exact .inr (.inr (.inr (.inr h5)))
    exact absurd (show (if k = B then 8 else if k = A then 2 else if k = K then 3 else if S1 k then 4 else if S2 k then 5 else 0) = 0 by rw [if_neg h1, if_neg h2, if_neg h3, if_neg h4, if_neg h5]) hk
  have lt : ∀ k, lab k ≠ 0 → k < w3.heap.size := fun k hk => by
    have s3 := m.f.size
    rcases inv k hk with h | h | h | h | h
    · omega
    · omega
    · omega
    · have := l1 k h; omega
    · have := l2 k h; omega
  refine ⟨lab, ⟨⟨.slice none 0 0, .slice none 0 0, .slice none 0 0, [], [], ⟨m.blk, World.ownsRow_nil _ 0 _ 1, fun k hk => (by cases hk), World.ownsRow_nil _ 0 _ 2, fun k hk => (by cases hk), ⟨List.Pairwise.nil, fun s a => ⟨fun h => (by cases h), fun h => (by cases h)⟩⟩, World.ownsRow_nil _ 0 _ 4, fun k hk => (by cases hk), ⟨fun i x y _ h => by simp at h, List.Pairwise.nil, fun s x => ⟨fun h => (by cases h), fun h => (by cases h.1)⟩⟩, Nat.le_refl _, Nat.le_refl _⟩⟩, eB, ?_, ?_, ?_, ?_, lt, fun e he => (by cases he)⟩, fun k hk => ?_, ?_⟩
  · exact ⟨.slice none 0 0, m.a, World.ownsRow_nil _ 0 _ 14, eA, fun k hk => (by cases hk), fun k hk => lt k (by rw [hk]; decide)⟩
  · exact ⟨.slice none 0 0, m.k, World.ownsRow_nil _ 0 _ 33, eK, fun k hk => (by cases hk), fun k hk => lt k (by rw [hk]; decide)⟩
  · exact ⟨empty8, ((t1.fr f2 (fun _ _ h => h)).fr m.f (fun k hk e => by have := l1 k hk; omega)).mono e1 (fun k hk => lt k (by rw [hk]; decide)), fun y a => ⟨fun h => (empty8_has y a h).elim, fun h => by cases h⟩, by rw [empty8_cnt 1 (by decide)]; exact Nat.le_refl _⟩
  · exact ⟨empty8, (t2.fr m.f (fun k hk e => by have := l2 k hk; omega)).mono e2 (fun k hk => lt k (by rw [hk]; decide)), fun y a => ⟨fun h => (empty8_has y a h).elim, fun h => by cases h⟩, by rw [empty8_cnt 1 (by decide)]; exact Nat.le_refl _⟩
  · rcases inv k hk with h | h | h | h | h
    · omega
    · omega
    · omega
    · exact h1 k h
    · have := h2 k h; omega
  · exact (f1.then_ f2 (fun _ h => h.elim)).then_ m.f (fun k hk => .inr (by omega))
set_option maxRecDepth 4000 in
set_option maxHeartbeats 3200000 in
theorem newS (w : World) : Calls Tryd.prog 15 #[] w (NewBooks w) := by
  have HOA := Lib.hid (fun W B => ofA W B)
  have HOK := Lib.hid (fun W B => ofK W B)
  go_enter Tryd.func15, Tryd.ntmps15
  go_wp2_with fail
  refine (new_any w).mono ?_
  rintro e w1 ⟨T1, S1, rfl, t1, h1, f1⟩
  have HN := Lib.hid (new_any w1)
  have H1 := Lib.hid (And.intro t1 (And.intro h1 f1))
  clear t1 h1 f1
  go_wp2_with fail
  refine HN.out.mono ?_
  rintro e w2 ⟨T2, S2, rfl, t2, h2, f2⟩
  have H2 := Lib.hid (And.intro t2 (And.intro h2 f2))
  clear t2 h2 f2
  go_upto_region 2 with fail
  go_cut [] from 6 (fun w' => ∃ A K, Made w2 w' w2.heap.size A K T1 T2 ∧ w2.heap.size < A ∧ w2.heap.size < K ∧ A ≠ K)
  case first =>
    go_region_held3 (fun w' => True) (trivial)
      (first
        | (go_at_call 52; go_must (with_reducible refine (HOA.out _ _).mono ?_); rintro e w3 ⟨rfl, rfl⟩)
        | (go_at_call 53; go_must (with_reducible refine (HOK.out _ _).mono ?_); rintro e w3 ⟨rfl, rfl⟩))
    go_wp2_with fail
    go_meet
    exact ⟨w2.heap.size + 1, w2.heap.size + 1 + 1, ⟨blk_drew (blk_alloc (blk_alloc (heap_alloc_new w2 _) _) _), blk_drew (blk_alloc (blk1 w2 _ _) _), blk_drew (blk2 w2 _ _ _), (((Fr.refl _ w2).alloc _).alloc _).alloc _ |>.drew⟩, by omega, by omega, by omega⟩
  case rest =>
  obtain ⟨A, K, hm, hA, hK, hne⟩ := hcut
  have HM := Lib.hid (made_sta H1.out.1 H1.out.2.1 H1.out.2.2 H2.out.1 H2.out.2.1 H2.out.2.2 hm (Nat.le_refl _) hA hK hne)
  clear hm hA hK hne
  go_wp2_with fail
  go_ret
  obtain ⟨lab, h, hl, hf⟩ := HM.out
  exact ⟨lab, _, rfl, h, hl, hf⟩
end Go.Proofs.YtjchjpmgbmeohaaDoor

/- The load of a whole struct out of a block that is known whole, as an equation. -/
set_option linter.unusedSimpArgs false
set_option linter.unusedVariables false
namespace Go.Proofs.YtjchjpmgbmeohaaDoor
open Go.RowKit

/-- The same as an equation, for a world at hand: a text that lays 'attribute [-go_sem] loadCells' walks a load by it, in a region that draws too (as a limb of S). -/
theorem ld_row {P : Program} {W : World} (g : Nat) (cs : Array Value) {t : TypeId} {fr : Nat × Nat} {n : Nat} (hn : cs.size = n) (h : W.heap[g]? = some (.cells cs t fr)) : (loadCells ⟨g, 0, none⟩ n).run P W = .ok cs W := by
  have hl := run_loadCells_list (P := P) W ⟨g, 0, none⟩ cs.toList (fun j v hv => by
    have hadd : (⟨g, 0, none⟩ : Addr).add j = ⟨g, j, none⟩ := by unfold Addr.add; split <;> simp_all
    rw [hadd, cell_of_row W g j cs _ _ h]
    simpa using hv)
  rw [Array.length_toList, hn] at hl
  simpa using hl
/-- What a slice that is built of one struct holds. -/
theorem fold_setL {V : Type} : ∀ (l : List V) (k : Nat) (Z : Array V), Z.size = k + l.length → (List.foldl (fun (cs : Array V) (x : V × Nat) => cs.setIfInBounds x.snd x.fst) Z (l.zipIdx k)).toList = Z.toList.take k ++ l
  | [], k, Z, h => by
    simp only [List.zipIdx_nil, List.foldl_nil, List.append_nil]
    rw [List.take_of_length_le]
    simp at h ⊢; omega
  | v :: l, k, Z, h => by
    rw [List.zipIdx_cons, List.foldl_cons, fold_setL l (k + 1) _ (by simp at h ⊢; omega)]
    have hk : k < Z.toList.length := by simp at h ⊢; omega
    rw [Array.toList_setIfInBounds, List.take_add_one, List.getElem?_set_self hk, List.take_set, List.set_eq_of_length_le (by simp; omega)]
    simp
theorem fold_set {V : Type} (Z C : Array V) (n : Nat) (hz : Z.size = n) (hc : C.size = n) : Array.foldl (fun (cs : Array V) (x : V × Nat) => cs.setIfInBounds x.snd x.fst) Z C.zipIdx 0 n = C := by
  subst hc
  have e : C.size = C.zipIdx.size := by simp
  rw [e, ← Array.foldl_toList, Array.toList_zipIdx]
  apply Array.ext'
  rw [fold_setL C.toList 0 Z (by simpa using hz)]
  simp
end Go.Proofs.YtjchjpmgbmeohaaDoor

/- Books' list of transfers: Add. -/
set_option linter.unusedSimpArgs false
set_option linter.unusedVariables false
namespace Go.Proofs.YtjchjpmgbmeohaaDoor
open Go.RowKit

theorem Tryd.infoKep : (Tryd.prog.info? 63).map (fun i => (i.zero, i.size, i.bytes)) = some (some (.agg #[.int .u64 0, .int .u64 0, .int .u64 0, .int .u64 0, .int .u64 0, .int .u64 0, .int .u64 0, .int .u64 0, .int .u64 0, .int .u64 0, .int .i64 0, .int .i64 0, .int .i64 0, .int .i64 0, .int .i64 0, .int .i64 0, .int .u64 0, .int .u64 0, .int .u64 0, .int .u64 0, .int .u64 0, .int .u64 0, .int .u64 0, .int .u64 0, .int .u64 0, .int .u64 0, .int .i64 0, .int .i64 0, .int .i64 0, .int .i64 0, .int .i64 0, .int .i64 0, .int .i64 0]), 33, 264) := by kernel_rfl
attribute [-go_sem] loadCells
def addFnK (L1 N1 : Nat) : Value := .func (.func 99) #[] #[.pointer (some ⟨L1, 0, none⟩), .pointer (some ⟨N1, 0, none⟩)]
set_option maxRecDepth 4000 in
set_option maxHeartbeats 3200000 in
theorem kepAdd (w : World) (S G : Nat → Prop) (L B : Nat) (rest : List Value) (xs : List Kp) (a : Kp) (n : Nat) (vs : List Value) (hl : KepL w S L B xs) (hg : LogAt w G B rest n vs) (hd : ∀ k, S k → ¬ G k) (hx : xs.length ≤ 100000) (hn : n ≤ 100000) :
    Calls Tryd.prog 63 #[.pointer (some ⟨L, 0, none⟩), .agg a.cells.toArray] w fun r w' => r = .returned (.int .i64 xs.length) ∧ ∃ m, w.heap.size + 3 ≤ m ∧ m ≤ w'.heap.size ∧ KepL w' (fun k => S k ∨ (w.heap.size + 3 ≤ k ∧ k < m)) L B (xs ++ [a]) ∧ LogAt w' (fun k => G k ∨ (m ≤ k ∧ k < w'.heap.size)) B rest (n + 1) (vs ++ [addFnK w.heap.size (w.heap.size + 1 + 1)]) ∧ Fr (fun k => S k ∨ G k) w w' ∧ w'.heap[w.heap.size]? = some (.cells #[.pointer (some ⟨L, 0, none⟩)] 92 (0, 0)) ∧ w'.heap[w.heap.size + 1 + 1]? = some (.cells #[.int .i64 xs.length] 3 (0, 0)) := by
  obtain ⟨C, hC⟩ : ∃ C, a.cells.toArray = C := ⟨_, rfl⟩
  have hCs : C.size = 33 := by rw [← hC]; rfl
  have HCo := Lib.hid (show ∀ u ∈ C.toList, u.oneCell' = true from by rw [← hC]; simp [Kp.cells, Tx.cells, Value.oneCell'])
  have HFo := Lib.hid (show Array.foldl (fun cs (x : Value × Nat) => cs.setIfInBounds x.snd x.fst) #[Value.int .u64 0, Value.int .u64 0, Value.int .u64 0, Value.int .u64 0, Value.int .u64 0, Value.int .u64 0, Value.int .u64 0, Value.int .u64 0, Value.int .u64 0, Value.int .u64 0, Value.int .i64 0, Value.int .i64 0, Value.int .i64 0, Value.int .i64 0, Value.int .i64 0, Value.int .i64 0, Value.int .u64 0, Value.int .u64 0, Value.int .u64 0, Value.int .u64 0, Value.int .u64 0, Value.int .u64 0, Value.int .u64 0, Value.int .u64 0, Value.int .u64 0, Value.int .u64 0, Value.int .i64 0, Value.int .i64 0, Value.int .i64 0, Value.int .i64 0, Value.int .i64 0, Value.int .i64 0, Value.int .i64 0] C.zipIdx 0 33 = C from fold_set _ C 33 rfl hCs)
  rw [hC]
  have HC := Lib.hid hC
  obtain ⟨i0, hi, hz0, hz1, hz2⟩ := info_parts Tryd.infoKep
  have hmf : ∀ (fn : Fn) (first cap : Array Value) (w : World), (Instr.makeFunc fn first cap).run Tryd.prog w = .ok (.func fn first cap) w := fun _ _ _ _ => rfl
  have HL := Lib.hid hl
  have HGg := Lib.hid hg
  have HD := Lib.hid hd
  obtain ⟨v, hb, ho, hS, hSv, hlt⟩ := hl
  obtain ⟨a0, cap, rfl, hc, -⟩ := own_form ho
  have c0 := blk_cell hb 0 rfl
  have f0 := blk_free hb 0
  have hLlt := blk_lt hb
  have F3 := Lib.hid ((((Fr.refl (fun _ => False) w).alloc (.cells #[.pointer (some ⟨L, 0, none⟩)] 92)).alloc (.cells C 63)).alloc (.cells #[.int .i64 xs.length] 3))
  have Hb := Lib.hid (F3.out.blk hb (fun h => h))
  have Ho := Lib.hid (own_fr ho F3.out (fun _ _ h => h))
  have Hs := Lib.hid hS
  have Hsv := Lib.hid hSv
  have Hlt := Lib.hid hlt
  have HZ := Lib.hid (show (((w.alloc (.cells #[.pointer (some ⟨L, 0, none⟩)] 92)).alloc (.cells C 63)).alloc (.cells #[.int .i64 xs.length] 3)).heap.size = w.heap.size + 3 from by simp)
  have Hl3 := Lib.hid (show ∀ k, S k → k < (((w.alloc (.cells #[.pointer (some ⟨L, 0, none⟩)] 92)).alloc (.cells C 63)).alloc (.cells #[.int .i64 xs.length] 3)).heap.size from fun k hk => by have := hlt k hk; have := HZ.out; omega)
  have Hn := Lib.hid (show (xs ++ [a]).flatMap Kp.cells = xs.flatMap Kp.cells ++ C.toList from by rw [List.flatMap_append, ← hC]; simp)
  have Hn2 := Lib.hid (show (xs ++ [a]).length = xs.length + 1 from by simp)
  have B0 := Lib.hid (blk_alloc (blk_alloc (heap_alloc_new w (.cells #[.pointer (some ⟨L, 0, none⟩)] 92)) (.cells C 63)) (.cells #[.int .i64 xs.length] 3))
  have B1 := Lib.hid (blk_alloc (blk1 w (.cells #[.pointer (some ⟨L, 0, none⟩)] 92) (.cells C 63)) (.cells #[.int .i64 xs.length] 3))
  have B2 := Lib.hid (blk2 w (.cells #[.pointer (some ⟨L, 0, none⟩)] 92) (.cells C 63) (.cells #[.int .i64 xs.length] 3))
  have Hne := Lib.hid (show ¬ (Value.slice a0 xs.length cap).ownBlock = some L from fun he => (hSv L he).2 rfl)
  have Hng := Lib.hid (show ∀ k, w.heap.size ≤ k → ¬ (Value.slice a0 xs.length cap).ownBlock = some k from fun k h1 he => by have := hlt _ (hSv _ he).1; omega)
  clear hb ho hlt hS hSv hg hd hC
  go_enter Tryd.func63, Tryd.ntmps63
  go_upto_region 4 with fail
  go_cut [] from 6 (fun w' => KepL w' (Gro S (((w.alloc (.cells #[.pointer (some ⟨L, 0, none⟩)] 92)).alloc (.cells C 63)).alloc (.cells #[.int .i64 xs.length] 3)) w') L B (xs ++ [a]) ∧ Fr S (((w.alloc (.cells #[.pointer (some ⟨L, 0, none⟩)] 92)).alloc (.cells C 63)).alloc (.cells #[.int .i64 xs.length] 3)) w')
  case first =>
    have c0w := blk_cell Hb.out 0 rfl
    have p0w := blk_cell B0.out 0 rfl
    have hfo : Array.foldl (fun cs (x : Value × Nat) => cs.setIfInBounds x.snd x.fst) #[Value.int .u64 0, Value.int .u64 0, Value.int .u64 0, Value.int .u64 0, Value.int .u64 0, Value.int .u64 0, Value.int .u64 0, Value.int .u64 0, Value.int .u64 0, Value.int .u64 0, Value.int .i64 0, Value.int .i64 0, Value.int .i64 0, Value.int .i64 0, Value.int .i64 0, Value.int .i64 0, Value.int .u64 0, Value.int .u64 0, Value.int .u64 0, Value.int .u64 0, Value.int .u64 0, Value.int .u64 0, Value.int .u64 0, Value.int .u64 0, Value.int .u64 0, Value.int .u64 0, Value.int .i64 0, Value.int .i64 0, Value.int .i64 0, Value.int .i64 0, Value.int .i64 0, Value.int .i64 0, Value.int .i64 0] C.zipIdx 0 33 = C := HFo.out
    have qw := ld_row (P := Tryd.prog) (W := (((w.alloc (.cells #[.pointer (some ⟨L, 0, none⟩)] 92)).alloc (.cells C 63)).alloc (.cells #[.int .i64 xs.length] 3)).drew) (w.heap.size + 1) C (n := 33) hCs (blk_drew B1.out)
    have c0x := blk_cell (blk_alloc Hb.out (.cells C 63)) 0 rfl
    have p0x := blk_cell (blk_alloc B0.out (.cells C 63)) 0 rfl
    have f0x := blk_free (blk_alloc Hb.out (.cells C 63)) 0
    go_region_law (first | (refine step_append_fresh _ (((w.alloc (.cells #[.pointer (some ⟨L, 0, none⟩)] 92)).alloc (.cells C 63)).alloc (.cells #[.int .i64 xs.length] 3)).drew rfl (.tmp 17) (.tmp 19) 44 rfl 63 i0 (.agg #[.int .u64 0, .int .u64 0, .int .u64 0, .int .u64 0, .int .u64 0, .int .u64 0, .int .u64 0, .int .u64 0, .int .u64 0, .int .u64 0, .int .i64 0, .int .i64 0, .int .i64 0, .int .i64 0, .int .i64 0, .int .i64 0, .int .u64 0, .int .u64 0, .int .u64 0, .int .u64 0, .int .u64 0, .int .u64 0, .int .u64 0, .int .u64 0, .int .u64 0, .int .u64 0, .int .i64 0, .int .i64 0, .int .i64 0, .int .i64 0, .int .i64 0, .int .i64 0, .int .i64 0]) 33 264 Tryd.underlying44 hi hz0 hz1 hz2 rfl (by decide) (.slice a0 xs.length cap) xs.length _ (by simp only [Act.eval, Act.put]; rfl) Ho.out.drew C rfl (by simp [Act.eval, Act.put]) hCs HCo.out (by omega) (by omega) ?_; intro g2 cap2 w2 hown2 hf2 hat2; have hb' := hf2.blk (blk_alloc (w := (((w.alloc (.cells #[.pointer (some ⟨L, 0, none⟩)] 92)).alloc (.cells C 63)).alloc (.cells #[.int .i64 xs.length] 3)).drew) Hb.out _) Hne.out; have c0' := blk_cell hb' 0 rfl; have f0' := blk_free hb' 0; have p0' := blk_cell (hf2.blk (blk_alloc (w := (((w.alloc (.cells #[.pointer (some ⟨L, 0, none⟩)] 92)).alloc (.cells C 63)).alloc (.cells #[.int .i64 xs.length] 3)).drew) B0.out _) (Hng.out _ (Nat.le_refl _))) 0 rfl))
    all_goals
      have HR := Lib.hid (rw_push Hb.out Hs.out Hsv.out Hl3.out ((Fr.refl _ (((w.alloc (.cells #[.pointer (some ⟨L, 0, none⟩)] 92)).alloc (.cells C 63)).alloc (.cells #[.int .i64 xs.length] 3))).drew.alloc (.cells C 63)) hown2 hf2 hat2)
      clear hown2 hf2 hat2
      go_wp2_with fail
      go_meet
      exact ⟨by have h := HR.out.1; unfold KepL; rw [Hn2.out, Hn.out]; exact h, HR.out.2⟩
  case rest =>
  obtain ⟨l2, f2⟩ := hcut
  have L2 := Lib.hid l2
  have F2 := Lib.hid f2
  have HSno := Lib.hid (show ∀ k, w.heap.size ≤ k → ¬ S k from fun k h1 hk => by have := Hlt.out k hk; omega)
  have b0 := f2.blk B0.out (HSno.out _ (Nat.le_refl _))
  have b2 := f2.blk B2.out (HSno.out _ (by omega))
  have d0 := blk_cell b0 0 rfl
  have d2 := blk_cell b2 0 rfl
  have HB2 := Lib.hid b2
  have HB0 := Lib.hid b0
  have hlog : wc.cell? ⟨L, 1, none⟩ = some (.pointer (some ⟨B, 0, none⟩)) := by
    obtain ⟨v, hb, -, -, -, -⟩ := l2
    exact blk_cell hb 1 rfl
  have G2 := Lib.hid (show LogAt wc G B rest n vs from Rw.fr (Rw.fr HGg.out F3.out (fun _ _ h => h)) f2 (fun k hk hs => HD.out k hs hk))
  have HK := Lib.hid (keepB wc G B rest n vs (.func 99) #[] #[.pointer (some ⟨w.heap.size, 0, none⟩), .pointer (some ⟨w.heap.size + 1 + 1, 0, none⟩)] G2.out (by omega))
  have HGlt := Lib.hid (show ∀ k, G k → k < w.heap.size from fun k hk => Rw.lt HGg.out hk)
  have HSz := Lib.hid (show w.heap.size + 3 ≤ wc.heap.size from by have := f2.size; have := HZ.out; omega)
  clear l2 f2 b0 b2
  go_wp2_with fail
  refine HK.out.mono ?_
  rintro e w3 ⟨rfl, g3, f3⟩
  have d2' := blk_cell (f3.blk HB2.out (fun hk => by have := HGlt.out _ hk; omega)) 0 rfl
  have G3 := Lib.hid g3
  have F4 := Lib.hid f3
  clear g3 f3
  go_wp2_with fail
  go_ret
  refine ⟨rfl, wc.heap.size, HSz.out, F4.out.size, ?_, ?_, ?_, F4.out.blk HB0.out (fun hk => by have := HGlt.out _ hk; omega), F4.out.blk HB2.out (fun hk => by have := HGlt.out _ hk; omega)⟩
  · have h := Rw.fr L2.out F4.out (fun k hk hgk => ?_)
    · refine Rw.mono h (fun k hk => hk.imp id (fun h => ⟨by have := HZ.out; have := h.1; omega, h.2⟩)) (fun k hk => ?_)
      rcases hk with hk | hk
      · exact Nat.lt_of_lt_of_le (Hlt.out k hk) (Nat.le_trans (by have := HSz.out; omega) F4.out.size)
      · exact Nat.lt_of_lt_of_le hk.2 F4.out.size
    · rcases hk with hk | hk
      · exact HD.out k hk hgk
      · have := HGlt.out k hgk; have := hk.1; have := HZ.out; omega
  · exact Rw.mono G3.out (fun k hk => hk) (fun k hk => hk.elim (fun h => Nat.lt_of_lt_of_le (HGlt.out k h) (Nat.le_trans (by have := HSz.out; omega) F4.out.size)) (fun h => h.2))
  · exact (((F3.out.mono (fun k h => h.elim)).then_ F2.out (fun k hk => .inl (.inl hk))) : Fr (fun k => S k ∨ G k) w wc) |>.then_ F4.out (fun k hk => .inl (.inr hk))
end Go.Proofs.YtjchjpmgbmeohaaDoor

/- Books: all accounts, all transfers. -/
set_option linter.unusedSimpArgs false
set_option linter.unusedVariables false
namespace Go.Proofs.YtjchjpmgbmeohaaDoor
open Go.RowKit

theorem acc_one (a : Acc) : ∀ u ∈ a.cells, u.oneCell' = true := by simp [Acc.cells, Value.oneCell']
theorem kp_one (a : Kp) : ∀ u ∈ a.cells, u.oneCell' = true := by simp [Kp.cells, Tx.cells, Value.oneCell']
theorem src_own {P : Program} {w : World} {et tx e' : TypeId} {sz n : Nat} {v : Value} {vs : List Value} (hk : P.underlying tx = some (.slice e')) (h : w.ownsRow 0 et sz v n vs) (h1 : ∀ u ∈ vs, u.oneCell' = true) : Src P sz tx v n vs w := by
  rcases h.2 with ⟨rfl, rfl⟩ | ⟨g, cap, cur, rfl, r⟩
  · obtain rfl : vs = [] := List.eq_nil_of_length_eq_zero (by simpa using h.1)
    exact Src.ofNil w hk 0
  · exact Src.ofSlice w hk _ _ _ _ h.1 (h.cells rfl) h1
/-- The end of a slice. -/
theorem accAll (w : World) (S : Nat → Prop) (L B : Nat) (xs : List Acc) (h : AccL w S L B xs) (hn : xs.length ≤ 100000) :
    Calls Tryd.prog 71 #[.pointer (some ⟨L, 0, none⟩)] w fun e w' => ∃ g cap, e = .returned (.slice g xs.length cap) ∧ w'.ownsRow 0 26 14 (.slice g xs.length cap) xs.length (xs.flatMap Acc.cells) ∧ (∀ k, (Value.slice g xs.length cap).ownBlock = some k → w.heap.size ≤ k) ∧ Fr (fun _ => False) w w' := by
  obtain ⟨i0, hi, hz0, hz1, hz2⟩ := info_parts Tryd.infoAcc
  obtain ⟨v, hb, ho, -, -, -⟩ := h
  have c0 := blk_cell hb 0 rfl
  have HS := Lib.hid (src_own (P := Tryd.prog) (tx := 42) Tryd.underlying42 ho (fun u hu => by obtain ⟨x, -, hx⟩ := List.mem_flatMap.1 hu; exact acc_one x u hx))
  clear hb ho
  go_enter Tryd.func71, Tryd.ntmps71
  go_wp2_with (at_builtin; go_must (refine wpList_append_src w rfl (.const (.slice none 0 0)) (.tmp 8) 42 42 rfl 26 i0 (.agg #[.int .u64 0, .int .u64 0, .int .u64 0, .int .u64 0, .int .u64 0, .int .u64 0, .int .u64 0, .int .u64 0, .int .u64 0, .int .u64 0, .int .i64 0, .int .i64 0, .int .i64 0, .int .i64 0]) 14 112 Tryd.underlying42 hi hz0 hz1 hz2 rfl (by decide) (.slice none 0 0) 0 [] rfl (World.ownsRow_nil _ _ _ _) v xs.length _ rfl HS.out (by omega) (by omega) ?_; intro g2 cap2 w2 hown2 hf2 hat2; have HO := Lib.hid hown2; have HF := Lib.hid hf2; have HT := Lib.hid hat2; clear hown2 hf2 hat2))
  go_ret
  have ho := HO.out
  have ht := HT.out
  rw [Nat.zero_add, List.nil_append] at ho
  rw [Nat.zero_add] at ht
  (try rw [Nat.zero_add])
  exact ⟨g2, cap2, rfl, ho, fun k hk => (ht k hk).resolve_left (fun h => by cases h), HF.out.mono (fun k hk => by cases hk)⟩
theorem kepAll (w : World) (S : Nat → Prop) (L B : Nat) (xs : List Kp) (h : KepL w S L B xs) (hn : xs.length ≤ 100000) :
    Calls Tryd.prog 72 #[.pointer (some ⟨L, 0, none⟩)] w fun e w' => ∃ g cap, e = .returned (.slice g xs.length cap) ∧ w'.ownsRow 0 63 33 (.slice g xs.length cap) xs.length (xs.flatMap Kp.cells) ∧ (∀ k, (Value.slice g xs.length cap).ownBlock = some k → w.heap.size ≤ k) ∧ Fr (fun _ => False) w w' := by
  obtain ⟨i0, hi, hz0, hz1, hz2⟩ := info_parts Tryd.infoKep
  obtain ⟨v, hb, ho, -, -, -⟩ := h
  have c0 := blk_cell hb 0 rfl
  have HS := Lib.hid (src_own (P := Tryd.prog) (tx := 44) Tryd.underlying44 ho (fun u hu => by obtain ⟨x, -, hx⟩ := List.mem_flatMap.1 hu; exact kp_one x u hx))
  clear hb ho
  go_enter Tryd.func72, Tryd.ntmps72
  go_wp2_with (at_builtin; go_must (refine wpList_append_src w rfl (.const (.slice none 0 0)) (.tmp 8) 44 44 rfl 63 i0 (.agg #[.int .u64 0, .int .u64 0, .int .u64 0, .int .u64 0, .int .u64 0, .int .u64 0, .int .u64 0, .int .u64 0, .int .u64 0, .int .u64 0, .int .i64 0, .int .i64 0, .int .i64 0, .int .i64 0, .int .i64 0, .int .i64 0, .int .u64 0, .int .u64 0, .int .u64 0, .int .u64 0, .int .u64 0, .int .u64 0, .int .u64 0, .int .u64 0, .int .u64 0, .int .u64 0, .int .i64 0, .int .i64 0, .int .i64 0, .int .i64 0, .int .i64 0, .int .i64 0, .int .i64 0]) 33 264 Tryd.underlying44 hi hz0 hz1 hz2 rfl (by decide) (.slice none 0 0) 0 [] rfl (World.ownsRow_nil _ _ _ _) v xs.length _ rfl HS.out (by omega) (by omega) ?_; intro g2 cap2 w2 hown2 hf2 hat2; have HO := Lib.hid hown2; have HF := Lib.hid hf2; have HT := Lib.hid hat2; clear hown2 hf2 hat2))
  go_ret
  have ho := HO.out
  have ht := HT.out
  rw [Nat.zero_add, List.nil_append] at ho
  rw [Nat.zero_add] at ht
  (try rw [Nat.zero_add])
  exact ⟨g2, cap2, rfl, ho, fun k hk => (ht k hk).resolve_left (fun h => by cases h), HF.out.mono (fun k hk => by cases hk)⟩
theorem accountsS (w : World) (lab : Nat → Nat) (d : Dd) (r : Raw) (es : List Ent) (big : Nat) (h : Sta w lab d r es big) (hn : r.accs.length ≤ 100000) :
    Calls Tryd.prog 19 #[.pointer (some ⟨d.B, 0, none⟩)] w fun e w' => ∃ g cap, e = .returned (.slice g r.accs.length cap) ∧ w'.ownsRow 0 26 14 (.slice g r.accs.length cap) r.accs.length (r.accs.flatMap Acc.cells) ∧ (∀ k, (Value.slice g r.accs.length cap).ownBlock = some k → w.heap.size ≤ k) ∧ Fr (fun _ => False) w w' := by
  have HA := Lib.hid (accAll w _ d.A d.B r.accs h.acc hn)
  obtain ⟨c1, c2, -, -, -, -, -, -⟩ := h.cells
  clear h
  go_enter Tryd.func19, Tryd.ntmps19
  go_wp2_with fail
  refine HA.out.mono ?_
  rintro e w2 ⟨g, cap, rfl, ho, ht, hf⟩
  have HO := Lib.hid ho; have HT := Lib.hid ht; have HF := Lib.hid hf
  clear ho ht hf
  go_wp2_with fail
  go_ret
  exact ⟨g, cap, rfl, HO.out, HT.out, HF.out⟩
theorem keepsS (w : World) (lab : Nat → Nat) (d : Dd) (r : Raw) (es : List Ent) (big : Nat) (h : Sta w lab d r es big) (hn : r.kept.length ≤ 100000) :
    Calls Tryd.prog 20 #[.pointer (some ⟨d.B, 0, none⟩)] w fun e w' => ∃ g cap, e = .returned (.slice g r.kept.length cap) ∧ w'.ownsRow 0 63 33 (.slice g r.kept.length cap) r.kept.length (r.kept.flatMap Kp.cells) ∧ (∀ k, (Value.slice g r.kept.length cap).ownBlock = some k → w.heap.size ≤ k) ∧ Fr (fun _ => False) w w' := by
  have HA := Lib.hid (kepAll w _ d.K d.B r.kept h.kep hn)
  obtain ⟨c1, c2, -, -, -, -, -, -⟩ := h.cells
  clear h
  go_enter Tryd.func20, Tryd.ntmps20
  go_wp2_with fail
  refine HA.out.mono ?_
  rintro e w2 ⟨g, cap, rfl, ho, ht, hf⟩
  have HO := Lib.hid ho; have HT := Lib.hid ht; have HF := Lib.hid hf
  clear ho ht hf
  go_wp2_with fail
  go_ret
  exact ⟨g, cap, rfl, HO.out, HT.out, HF.out⟩
end Go.Proofs.YtjchjpmgbmeohaaDoor

/- '==' of what is the same; a part of a block that is known. -/
set_option linter.unusedSimpArgs false
set_option linter.unusedVariables false
namespace Go.Proofs.YtjchjpmgbmeohaaDoor
open Go.RowKit

theorem eqm_Kp (k : Kp) (w : World) : (Op.equalIn 10000 63 (.agg k.cells.toArray) (.agg k.cells.toArray)).run Tryd.prog w = .ok true w := by
  have hT : ∀ a : Tx, (Op.equalIn 9999 40 (.agg a.cells.toArray) (.agg a.cells.toArray)).run Tryd.prog w = .ok true w := fun a => by
    have h := eq_Tx 9996 w a.id.hi a.id.hi a.id.lo a.id.lo a.debit.hi a.debit.hi a.debit.lo a.debit.lo a.credit.hi a.credit.hi a.credit.lo a.credit.lo a.amount.hi a.amount.hi a.amount.lo a.amount.lo a.pending.hi a.pending.hi a.pending.lo a.pending.lo a.timeout a.timeout a.ledger a.ledger a.code a.code a.flags a.flags a.stamp a.stamp a.born a.born
    simp only [beq_self_eq_true, Bool.and_self] at h
    exact h
  refine eqs_of (d := 9999) (r := true) Tryd.underlying63 (by kernel_rfl) ?_
  refine eqs_cons (r := true) (s := true) (a := .agg k.asked.cells.toArray) (b := .agg k.asked.cells.toArray) (by decide) (by go_simp; rfl) (by go_simp; rfl) (hT _) ?_
  refine eqs_cons (r := true) (s := true) (a := .agg k.move.cells.toArray) (b := .agg k.move.cells.toArray) (by decide) (by go_simp; rfl) (by go_simp; rfl) (hT _) ?_
  exact eqs_last (by decide) (by go_simp; rfl) (by go_simp; rfl) (by go_simp)
theorem ld_range {P : Program} {W : World} {g o n : Nat} (cs : Array Value) (h : W.rangeAt g o cs.toList) (hn : cs.size = n) : (loadCells ⟨g, o, none⟩ n).run P W = .ok cs W := by
  have hl := run_loadCells_list (P := P) W ⟨g, o, none⟩ cs.toList (fun j v hv => by rw [Addr.add_mid]; exact h j v hv)
  rw [Array.length_toList, hn] at hl
  simpa using hl
theorem eqm_AccS (a : Acc) (w : World) : (Op.equalIn 10000 26 (.agg a.cells.toArray) (.agg a.cells.toArray)).run Tryd.prog w = .ok true w := by
  have h := eqm_Acc w a.id.hi a.id.hi a.id.lo a.id.lo a.dp.hi a.dp.hi a.dp.lo a.dp.lo a.dq.hi a.dq.hi a.dq.lo a.dq.lo a.cp.hi a.cp.hi a.cp.lo a.cp.lo a.cq.hi a.cq.hi a.cq.lo a.cq.lo a.ledger a.ledger a.code a.code a.flags a.flags a.stamp a.stamp
  simp only [beq_self_eq_true, Bool.and_self] at h
  exact h
end Go.Proofs.YtjchjpmgbmeohaaDoor

/- A row that a block's place holds as a slice, and owns: as Rw, at any place. No program in sight. -/
set_option linter.unusedSimpArgs false
set_option linter.unusedVariables false
namespace Go.Proofs.YtjchjpmgbmeohaaDoor
open Go.RowKit

/-- A block's place j, all its other cells known. -/
structure Bq (j : Nat) where
  b : Nat
  row : Value → Array Value
  get : ∀ v, (row v)[j]? = some v
  set : ∀ v u, (row v).setIfInBounds j u = row u
/-- Place j of block L.b: a slice, which owns its row of n things (vs); S: its blocks. -/
def Rq (w : World) (S : Nat → Prop) {j0 : Nat} (L : Bq j0) (T et : TypeId) (sz : Nat) (n : Nat) (vs : List Value) : Prop :=
  ∃ v, w.heap[L.b]? = some (.cells (L.row v) T (0, 0)) ∧ w.ownsRow 0 et sz v n vs ∧ S L.b ∧ (∀ k, v.ownBlock = some k → S k ∧ k ≠ L.b) ∧ ∀ k, S k → k < w.heap.size

section
variable {w w' : World} {S S2 : Nat → Prop} {j0 : Nat} {L : Bq j0} {T et : TypeId} {sz : Nat} {n : Nat} {vs : List Value}
theorem Rq.fr (h : Rq w S L T et sz n vs) (hf : Fr S2 w w') (hd : ∀ k, S k → ¬ S2 k) : Rq w' S L T et sz n vs := by
  obtain ⟨v, hb, ho, hg, hv, hl⟩ := h
  exact ⟨v, hf.blk hb (hd _ hg), own_fr ho hf (fun k hk => hd _ (hv k hk).1), hg, hv, fun k hk => Nat.lt_of_lt_of_le (hl k hk) hf.size⟩
theorem Rq.alloc (h : Rq w S L T et sz n vs) (o : Obj) : Rq (w.alloc o) S L T et sz n vs := h.fr ((Fr.refl (fun _ => False) w).alloc o) (fun _ _ h => h)
theorem Rq.drew (h : Rq w S L T et sz n vs) : Rq w.drew S L T et sz n vs := h
theorem Rq.lt (h : Rq w S L T et sz n vs) {k : Nat} (hk : S k) : k < w.heap.size := by
  obtain ⟨v, _, _, _, _, hl⟩ := h
  exact hl k hk
theorem Rq.at_ (h : Rq w S L T et sz n vs) : S L.b := by
  obtain ⟨v, _, _, hb, _, _⟩ := h
  exact hb
/-- The set may be any that holds it. -/
theorem Rq.mono (h : Rq w S L T et sz n vs) (hs : ∀ k, S k → S2 k) (hl : ∀ k, S2 k → k < w.heap.size) : Rq w S2 L T et sz n vs := by
  obtain ⟨v, hb, ho, hg, hv, _⟩ := h
  exact ⟨v, hb, ho, hs _ hg, fun k hk => ⟨hs _ (hv k hk).1, (hv k hk).2⟩, hl⟩

/-- What an append and the store of the new slice leave. -/
theorem rq_push {W0 w2 : World} {cap2 N : Nat} {a2 : Option Addr} {v : Value} {xs : List Value} (hb : w.heap[L.b]? = some (.cells (L.row v) T (0, 0)))
    (hSb : S L.b) (hSv : ∀ k, v.ownBlock = some k → S k ∧ k ≠ L.b) (hl : ∀ k, S k → k < w.heap.size) (h0 : Fr (fun _ => False) w W0)
    (hown2 : w2.ownsRow 0 et sz (.slice a2 N cap2) N xs) (hf2 : Fr (fun k => v.ownBlock = some k) W0 w2) (hat2 : ∀ k, (Value.slice a2 N cap2).ownBlock = some k → v.ownBlock = some k ∨ W0.heap.size ≤ k) :
    Rq (w2.setCell ⟨L.b, j0, none⟩ (.slice a2 N cap2)) (Gro S w (w2.setCell ⟨L.b, j0, none⟩ (.slice a2 N cap2))) L T et sz N xs ∧ Fr S w (w2.setCell ⟨L.b, j0, none⟩ (.slice a2 N cap2)) := by
  have hs0 := h0.size
  have hs2 := hf2.size
  have hblt := hl L.b hSb
  have hne : ¬ v.ownBlock = some L.b := fun he => (hSv L.b he).2 rfl
  have hb2 : w2.heap[L.b]? = some (.cells (L.row v) T (0, 0)) := hf2.blk (h0.blk hb (fun h => h)) hne
  have h2g : ∀ k, (Value.slice a2 N cap2).ownBlock = some k → k ≠ L.b := fun k hk => by rcases hat2 k hk with h | h; (exact (hSv k h).2); omega
  have hfr : Fr S w w2 := (h0.mono (fun _ h => h.elim)).then_ hf2 (fun k hk => .inl (hSv k hk).1)
  have hsz : (w2.setCell ⟨L.b, j0, none⟩ (.slice a2 N cap2)).heap.size = w2.heap.size := by simp [World.setCell]
  refine ⟨⟨.slice a2 N cap2, ?_, own_fr hown2 ((Fr.refl (fun k => k = L.b) w2).setCell (.inl rfl) _) (fun k hk => h2g k hk), .inl hSb, fun k hk => ?_, fun k hk => ?_⟩, hfr.setCell (p := ⟨L.b, j0, none⟩) (.inl hSb) _⟩
  · have h := blk_set hb2 j0 (.slice a2 N cap2)
    rwa [L.set] at h
  · have hk2 := own_lt hown2 hk
    refine ⟨?_, h2g k hk⟩
    rcases hat2 k hk with h | h
    · exact .inl (hSv k h).1
    · exact .inr ⟨by omega, by omega⟩
  · rcases hk with h | h
    · have := hl k h; omega
    · exact h.2

/-- .. and the store of the cut slice. -/
theorem rq_cut {v : Value} {a : Option Addr} {cap m : Nat} (hb : w.heap[L.b]? = some (.cells (L.row v) T (0, 0))) (ho : w.ownsRow 0 et sz v n vs) (hSb : S L.b) (hSv : ∀ k, v.ownBlock = some k → S k ∧ k ≠ L.b) (hl : ∀ k, S k → k < w.heap.size)
    (hv : v = .slice a n cap) (hm : m ≤ n) : Rq (w.setCell ⟨L.b, j0, none⟩ (.slice a m cap)) S L T et sz m (vs.take (m * sz)) ∧ Fr S w (w.setCell ⟨L.b, j0, none⟩ (.slice a m cap)) := by
  have e : ∀ k, (Value.slice a m cap).ownBlock = some k → v.ownBlock = some k := fun k hk => by
    subst hv
    cases a with
    | none => simp [Value.ownBlock] at hk
    | some x => exact hk
  refine ⟨⟨.slice a m cap, ?_, own_fr (own_cut ho hv hm) ((Fr.refl (fun k => k = L.b) w).setCell (.inl rfl) _) (fun k hk => (hSv k (e k hk)).2), hSb, fun k hk => hSv k (e k hk), fun k hk => ?_⟩, (Fr.refl S w).setCell (p := ⟨L.b, j0, none⟩) (.inl hSb) _⟩
  · have h := blk_set hb j0 (.slice a m cap)
    rwa [L.set] at h
  · have := hl k hk
    simpa [World.setCell] using this
/-- A thing of the row is written. -/
theorem rq_put {g cap j : Nat} {u : Value} (hb : w.heap[L.b]? = some (.cells (L.row (Value.slice (some ⟨g, 0, none⟩) n cap)) T (0, 0))) (ho : w.ownsRow 0 et sz (.slice (some ⟨g, 0, none⟩) n cap) n vs) (hSb : S L.b)
    (hSv : ∀ k, (Value.slice (some ⟨g, 0, none⟩) n cap).ownBlock = some k → S k ∧ k ≠ L.b) (hl : ∀ k, S k → k < w.heap.size) :
    Rq (w.setCell ⟨g, j, none⟩ u) S L T et sz n (vs.set j u) ∧ Fr S w (w.setCell ⟨g, j, none⟩ u) := by
  obtain ⟨ho2, _⟩ := ho.stored j u
  have hg := hSv g rfl
  refine ⟨⟨_, blk_far2 hb (fun e => hg.2 e.symm) u, ho2, hSb, hSv, fun k hk => ?_⟩, (Fr.refl S w).setCell (p := ⟨g, j, none⟩) (.inl hg.1) _⟩
  have := hl k hk
  simpa [World.setCell] using this
end

end Go.Proofs.YtjchjpmgbmeohaaDoor

/- A thing of several cells is stored whole in an owned row. No program in sight. -/
set_option linter.unusedSimpArgs false
set_option linter.unusedVariables false
namespace Go.Proofs.YtjchjpmgbmeohaaDoor
open Go.RowKit

theorem setL_mid : ∀ (us A B C : List Value), B.length = us.length → setL (A ++ B ++ C) A.length us = A ++ us ++ C
  | [], A, B, C, h => by
    obtain rfl : B = [] := List.eq_nil_of_length_eq_zero h
    rfl
  | u :: us, A, [], C, h => by cases h
  | u :: us, A, b :: B, C, h => by
    have e : (A ++ b :: B ++ C).set A.length u = (A ++ [u]) ++ B ++ C := by simp
    have hl : A.length + 1 = (A ++ [u]).length := by simp
    rw [setL, e, hl, setL_mid us (A ++ [u]) B C (by simpa using h)]
    simp
theorem flat_set {α : Type} {f : α → List Value} {n : Nat} (hf : ∀ x, (f x).length = n) (l : List α) {p : Nat} (hp : p < l.length) (d : α) : setL (l.flatMap f) (p * n) (f d) = (l.set p d).flatMap f := by
  have e1 : l = l.take p ++ l[p] :: l.drop (p + 1) := by rw [← List.drop_eq_getElem_cons hp, List.take_append_drop]
  have e2 : l.flatMap f = (l.take p).flatMap f ++ f l[p] ++ (l.drop (p + 1)).flatMap f := by
    conv => lhs; rw [e1]
    rw [List.flatMap_append, List.flatMap_cons, List.append_assoc]
  have e3 : p * n = ((l.take p).flatMap f).length := by rw [flat_len hf, List.length_take, Nat.min_eq_left (Nat.le_of_lt hp)]
  rw [e2, e3, setL_mid _ _ _ _ (by rw [hf, hf]), List.set_eq_take_append_cons_drop, if_pos hp, List.flatMap_append, List.flatMap_cons, List.append_assoc]
theorem own_flat {α : Type} {f : α → List Value} {sz : Nat} (hf : ∀ x, (f x).length = sz) {w : World} {et : TypeId} {n g cap p : Nat} {l : List α} (ho : w.ownsRow 0 et sz (.slice (some ⟨g, 0, none⟩) n cap) n (l.flatMap f)) (hp : p < l.length) (d : α) :
    (w.setCells g (p * sz) (f d)).ownsRow 0 et sz (.slice (some ⟨g, 0, none⟩) n cap) n ((l.set p d).flatMap f) := by
  have h := own_setCells (w := w) (vs := l.flatMap f) (f d) (p * sz) w (l.flatMap f) ho
  rwa [flat_set hf l hp d] at h
theorem there_flat {α : Type} {f : α → List Value} {sz : Nat} (hf : ∀ x, (f x).length = sz) {w : World} {et : TypeId} {n g cap p : Nat} {l : List α} (ho : w.ownsRow 0 et sz (.slice (some ⟨g, 0, none⟩) n cap) n (l.flatMap f)) (hl : l.length = n) (hp : p < l.length) : w.there g (p * sz) sz := fun j hj => by
  have hlt : p * sz + j < n * sz := by
    have : (p + 1) * sz ≤ n * sz := Nat.mul_le_mul_right _ (by omega)
    rw [Nat.succ_mul] at this
    omega
  refine ⟨?_, ho.frozenAt _⟩
  rw [ho.cellAt (p * sz + j) hlt, flat_get hf l p hp j hj, List.getElem?_eq_getElem (by rw [hf]; exact hj)]
  rfl
/-- .. of a block's first place; of any place. -/
theorem rw_store {α : Type} {f : α → List Value} {sz : Nat} (hf : ∀ x, (f x).length = sz) {w : World} {S : Nat → Prop} {b g cap p n : Nat} {T et : TypeId} {rest : List Value} {l : List α} (hb : w.heap[b]? = some (.cells (Value.slice (some ⟨g, 0, none⟩) n cap :: rest).toArray T (0, 0)))
    (h : Rw w S b T et sz rest n (l.flatMap f)) (hp : p < l.length) (d : α) : Rw (w.setCells g (p * sz) (f d)) S b T et sz rest n ((l.set p d).flatMap f) ∧ Fr S w (w.setCells g (p * sz) (f d)) := by
  obtain ⟨v, hb2, ho, hS, hSv, hl⟩ := h
  rw [hb] at hb2
  obtain rfl : Value.slice (some ⟨g, 0, none⟩) n cap = v := by simpa using hb2
  have hg := hSv g rfl
  have hfr := setCells_fr g (f d) (p * sz) w
  exact ⟨⟨_, hfr.blk hb (fun h => hg.2 h.symm), own_flat hf ho hp d, hS, hSv, fun k hk => by rw [setCells_size]; exact hl k hk⟩, hfr.mono (fun k hk => by rw [hk]; exact hg.1)⟩
theorem rq_store {α : Type} {f : α → List Value} {sz : Nat} (hf : ∀ x, (f x).length = sz) {w : World} {S : Nat → Prop} {j0 : Nat} {L : Bq j0} {g cap p n : Nat} {T et : TypeId} {l : List α} (hb : w.heap[L.b]? = some (.cells (L.row (Value.slice (some ⟨g, 0, none⟩) n cap)) T (0, 0)))
    (ho : w.ownsRow 0 et sz (.slice (some ⟨g, 0, none⟩) n cap) n (l.flatMap f)) (hS : S L.b) (hSv : ∀ k, (Value.slice (some ⟨g, 0, none⟩) n cap).ownBlock = some k → S k ∧ k ≠ L.b) (hl : ∀ k, S k → k < w.heap.size) (hp : p < l.length) (d : α) :
    (Rq (w.setCells g (p * sz) (f d)) S L T et sz n ((l.set p d).flatMap f) ∧ (w.setCells g (p * sz) (f d)).heap[L.b]? = some (.cells (L.row (Value.slice (some ⟨g, 0, none⟩) n cap)) T (0, 0))) ∧ Fr S w (w.setCells g (p * sz) (f d)) := by
  have hg := hSv g rfl
  have hfr := setCells_fr g (f d) (p * sz) w
  have hb' := hfr.blk hb (fun h => hg.2 h.symm)
  exact ⟨⟨⟨_, hb', own_flat hf ho hp d, hS, hSv, fun k hk => by rw [setCells_size]; exact hl k hk⟩, hb'⟩, hfr.mono (fun k hk => by rw [hk]; exact hg.1)⟩
end Go.Proofs.YtjchjpmgbmeohaaDoor

/- The document's state: what it is; Account, Name. -/
set_option linter.unusedSimpArgs false
set_option linter.unusedVariables false
namespace Go.Proofs.YtjchjpmgbmeohaaDoor
open Go.RowKit

structure RM where
  accs : List Acc
  kept : List Kp
  clock : Int
  stamp : Int
def Raw.rm (r : Raw) : RM := ⟨r.accs, r.kept, r.clock, r.stamp⟩
/-- The document's state lies at M, all its blocks in T. -/
def MS (w : World) (T : Nat → Prop) (M : Nat) (m : RM) : Prop := ∃ av kv, w.heap[M]? = some (.cells #[av, kv, .int .i64 m.clock, .int .i64 m.stamp] 56 (0, 0)) ∧ w.ownsRow 0 26 14 av m.accs.length (m.accs.flatMap Acc.cells) ∧ w.ownsRow 0 63 33 kv m.kept.length (m.kept.flatMap Kp.cells) ∧ T M ∧ (∀ k, av.ownBlock = some k → T k ∧ k ≠ M) ∧ (∀ k, kv.ownBlock = some k → T k ∧ k ≠ M) ∧ (∀ k, av.ownBlock = some k → ¬ kv.ownBlock = some k) ∧ ∀ k, T k → k < w.heap.size
section
variable {w w' : World} {T S2 : Nat → Prop} {M : Nat} {m : RM}
theorem MS.fr (h : MS w T M m) (hf : Fr S2 w w') (hd : ∀ k, T k → ¬ S2 k) : MS w' T M m := by
  obtain ⟨av, kv, hb, ha, hk, hM, hA, hK, hd2, hl⟩ := h
  exact ⟨av, kv, hf.blk hb (hd _ hM), own_fr ha hf (fun k h => hd _ (hA k h).1), own_fr hk hf (fun k h => hd _ (hK k h).1), hM, hA, hK, hd2, fun k hk => Nat.lt_of_lt_of_le (hl k hk) hf.size⟩
theorem MS.lt (h : MS w T M m) {k : Nat} (hk : T k) : k < w.heap.size := by
  obtain ⟨av, kv, hb, ha, hk2, hM, hA, hK, hd2, hl⟩ := h
  exact hl k hk
theorem MS.at_ (h : MS w T M m) : T M := by
  obtain ⟨av, kv, hb, ha, hk2, hM, hA, hK, hd2, hl⟩ := h
  exact hM
theorem MS.mono {T2 : Nat → Prop} (h : MS w T M m) (hs : ∀ k, T k → T2 k) (hl2 : ∀ k, T2 k → k < w.heap.size) : MS w T2 M m := by
  obtain ⟨av, kv, hb, ha, hk2, hM, hA, hK, hd2, hl⟩ := h
  exact ⟨av, kv, hb, ha, hk2, hs _ hM, fun k h => ⟨hs _ (hA k h).1, (hA k h).2⟩, fun k h => ⟨hs _ (hK k h).1, (hK k h).2⟩, hd2, hl2⟩
end
/-- Where something of a name stands; -1: nowhere. -/
def IdxA {α β : Type} (xs : List α) (f : α → β) (y : β) (i : Int) : Prop := (i = -1 ∧ ∀ x ∈ xs, f x ≠ y) ∨ ∃ (k : Nat) (x : α), i = k ∧ xs[k]? = some x ∧ f x = y
theorem nm_eq {a b : Nm} : (a.hi == b.hi && (a.lo == b.lo)) = true ↔ a = b := by
  cases a; cases b; simp
set_option maxRecDepth 4000 in
set_option maxHeartbeats 3200000 in
theorem mAcct (w : World) (T : Nat → Prop) (M : Nat) (m : RM) (id : Nm) (h : MS w T M m) (hn : m.accs.length ≤ 100000) :
    Calls Tryd.prog 35 #[.pointer (some ⟨M, 0, none⟩), .agg #[.int .u64 id.hi, .int .u64 id.lo]] w fun e w' => (∃ i, e = .returned (.int .i64 i) ∧ IdxA m.accs (fun a => a.id) id i) ∧ Fr (fun _ => False) w w' := by
  have HS := Lib.hid (h.fr ((Fr.refl (fun _ => False) w).alloc (.cells #[.int .u64 id.hi, .int .u64 id.lo] 24)) (fun _ _ h => h))
  have HB := Lib.hid (heap_alloc_new w (.cells #[.int .u64 id.hi, .int .u64 id.lo] 24))
  have F0 := Lib.hid ((Fr.refl (fun _ => False) w).alloc (.cells #[.int .u64 id.hi, .int .u64 id.lo] 24))
  obtain ⟨av, kv, hb, ha, hk, -, -, -, -, -⟩ := HS.out
  obtain ⟨a0, cap, rfl, -, -⟩ := own_form ha
  have HO := Lib.hid ha
  have c0 := blk_cell hb 0 rfl
  have he := eqm_Num
  obtain ⟨n, hnl⟩ : ∃ n, m.accs.length = n := ⟨_, rfl⟩
  have HN := Lib.hid hnl
  rw [hnl] at c0 hn
  clear h hb ha hk hnl
  go_enter Tryd.func35, Tryd.ntmps35
  go_wp2_with fail
  go_loopw [12] (fun iv wr => ∃ j : Nat, j ≤ n ∧ iv = .int .i64 j ∧ (∀ (k : Nat) (x : Acc), k < j → m.accs[k]? = some x → x.id ≠ id) ∧ Fr (fun _ => False) (w.alloc (.cells #[.int .u64 id.hi, .int .u64 id.lo] 24)) wr) (fun iv _ => ((n : Int) - intOf iv).toNat)
  case atStart => exact ⟨0, by omega, rfl, fun k x hk => absurd hk (by omega), Fr.refl _ _⟩
  case round =>
    obtain ⟨j, hj, rfl, hno, hf⟩ := hrel
    have HF := Lib.hid hf
    have HNo := Lib.hid hno
    by_cases hjm : j < n
    · have hjI : (j : Int) < n := by omega
      have hjJ : (0 : Int) ≤ j := by omega
      have hjl : j < m.accs.length := by rw [HN.out]; exact hjm
      obtain ⟨g, cc, e0⟩ := own_some HO.out (by omega)
      simp only [Value.slice.injEq] at e0
      obtain ⟨rfl, -, rfl⟩ := e0
      obtain ⟨x, hx⟩ : ∃ x, m.accs[j] = x := ⟨_, rfl⟩
      have hr := rw_range (f := Acc.cells) (sz := 14) (fun _ => rfl) (own_fr HO.out hf (fun _ _ h => h)) rfl hjl
      rw [hx] at hr
      have HR := Lib.hid (World.rangeAt_alloc hr (.cells #[.int .u64 0, .int .u64 0, .int .u64 0, .int .u64 0, .int .u64 0, .int .u64 0, .int .u64 0, .int .u64 0, .int .u64 0, .int .u64 0, .int .i64 0, .int .i64 0, .int .i64 0, .int .i64 0] 26))
      have HBz := Lib.hid (heap_alloc_new wr (.cells #[.int .u64 0, .int .u64 0, .int .u64 0, .int .u64 0, .int .u64 0, .int .u64 0, .int .u64 0, .int .u64 0, .int .u64 0, .int .u64 0, .int .i64 0, .int .i64 0, .int .i64 0, .int .i64 0] 26))
      have HR0 := Lib.hid hr
      have HX := Lib.hid (show m.accs[j]? = some x from by rw [List.getElem?_eq_getElem hjl, hx])
      have HBi := Lib.hid (blk_alloc (hf.blk HB.out (fun h => h)) (.cells #[.int .u64 0, .int .u64 0, .int .u64 0, .int .u64 0, .int .u64 0, .int .u64 0, .int .u64 0, .int .u64 0, .int .u64 0, .int .u64 0, .int .i64 0, .int .i64 0, .int .i64 0, .int .i64 0] 26))
      have w1 : IntKind.i64.wrap ((j : Int) + 1) = j + 1 := IntWalk.i64_in _ (by omega)
      obtain ⟨C, hC⟩ : ∃ C, x.cells.toArray = C := ⟨_, rfl⟩
      have hCs : C.size = 14 := by rw [← hC]; rfl
      have HC := Lib.hid hC
      have HCo := Lib.hid (show C.all (·.oneCell') = true from by rw [← hC]; simp [Acc.cells, Kp.cells, Tx.cells, Value.oneCell'])
      have hCl : x.cells = C.toList := by rw [← hC]
      rw [hCl] at hr HR HR0
      clear hf hno hr hx hC hCl hjl
      go_upto_region 4 with (first | (refine wpList_load_mid rfl 26 (.tmp 15) rfl g (j * 14) rfl _ _ HR0.out Tryd.underlying26 rfl (by rw [Array.length_toList, hCs]; rfl) ?_) | (refine wpList_load_mid rfl 26 (.tmp 15) rfl g (j * 14) rfl _ _ HR.out Tryd.underlying26 rfl (by rw [Array.length_toList, hCs]; rfl) ?_) | ((refine wpList_store_row rfl 26 (.tmp 6) (.tmp 16) rfl wr.heap.size C rfl rfl HBz.out (by rw [hCs]; rfl) (by rw [hCs]; rfl) HCo.out ?_); intro w9 hb9 f9; have HB9 := Lib.hid hb9; have F9 := Lib.hid f9; clear hb9 f9) | fail)
      have G9 := Lib.hid (show Fr (fun _ => False) (w.alloc (.cells #[.int .u64 id.hi, .int .u64 id.lo] 24)) w9 from HF.out.then_ (((Fr.refl (fun _ => False) wr).alloc _).then_ F9.out (fun k hk => .inr (by omega))) (fun _ h => h.elim))
      have x0 : w9.cell? ⟨wr.heap.size, 0, none⟩ = some (.int .u64 x.id.hi) := blk_cell HB9.out 0 (by rw [← HC.out]; rfl)
      have x1 : w9.cell? ⟨wr.heap.size, 1, none⟩ = some (.int .u64 x.id.lo) := blk_cell HB9.out 1 (by rw [← HC.out]; rfl)
      have i0 := blk_cell (G9.out.blk HB.out (fun h => h)) 0 rfl
      have i1 := blk_cell (G9.out.blk HB.out (fun h => h)) 1 rfl
      by_cases hid : x.id = id
      rotate_left
      · have hq : (x.id.hi == id.hi && (x.id.lo == id.lo)) = false := by
          cases hq : (x.id.hi == id.hi && (x.id.lo == id.lo)) with
          | false => rfl
          | true => exact absurd (nm_eq.1 hq) hid
        have HNe := Lib.hid hid
        clear hid
        go_wp2_with fail
        go_roundw
        case rel => exact ⟨j + 1, by omega, by go_num, fun k y hk hy => by
          by_cases e : k = j
          · subst e
            rw [HX.out] at hy
            cases hy
            exact HNe.out
          · exact HNo.out k y (by omega) hy, by first | exact G9.out | exact G9.out.drew | exact G9.out.drewN _⟩
        case measure => simp [intOf]; omega
      · have HEq := Lib.hid hid
        have hq : (x.id.hi == id.hi && (x.id.lo == id.lo)) = true := nm_eq.2 hid
        clear hid
        go_wp2_with fail
        go_ret
        exact ⟨⟨j, rfl, .inr ⟨j, x, rfl, HX.out, HEq.out⟩⟩, F0.out.then_ G9.out (fun _ h => h.elim)⟩
    · have hjI : ¬ (j : Int) < n := by omega
      clear hf hno
      go_wp2_with fail
      go_ret
      refine ⟨⟨-1, rfl, .inl ⟨rfl, fun x hx => ?_⟩⟩, F0.out.then_ HF.out (fun _ h => h.elim)⟩
      obtain ⟨k, hk, rfl⟩ := List.getElem_of_mem hx
      have := HN.out
      exact HNo.out k _ (by omega) (List.getElem?_eq_getElem hk)
set_option maxRecDepth 4000 in
set_option maxHeartbeats 3200000 in
theorem mName (w : World) (T : Nat → Prop) (M : Nat) (m : RM) (id : Nm) (h : MS w T M m) (hn : m.kept.length ≤ 100000) :
    Calls Tryd.prog 31 #[.pointer (some ⟨M, 0, none⟩), .agg #[.int .u64 id.hi, .int .u64 id.lo]] w fun e w' => (∃ i, e = .returned (.int .i64 i) ∧ IdxA m.kept (fun k => k.move.id) id i) ∧ Fr (fun _ => False) w w' := by
  have HS := Lib.hid (h.fr ((Fr.refl (fun _ => False) w).alloc (.cells #[.int .u64 id.hi, .int .u64 id.lo] 24)) (fun _ _ h => h))
  have HB := Lib.hid (heap_alloc_new w (.cells #[.int .u64 id.hi, .int .u64 id.lo] 24))
  have F0 := Lib.hid ((Fr.refl (fun _ => False) w).alloc (.cells #[.int .u64 id.hi, .int .u64 id.lo] 24))
  obtain ⟨av, kv, hb, ha, hk, -, -, -, -, -⟩ := HS.out
  obtain ⟨a0, cap, rfl, -, -⟩ := own_form hk
  have HO := Lib.hid hk
  have c0 := blk_cell hb 1 rfl
  have he := eqm_Num
  obtain ⟨n, hnl⟩ : ∃ n, m.kept.length = n := ⟨_, rfl⟩
  have HN := Lib.hid hnl
  rw [hnl] at c0 hn
  clear h hb ha hk hnl
  go_enter Tryd.func31, Tryd.ntmps31
  go_wp2_with fail
  go_loopw [12] (fun iv wr => ∃ j : Nat, j ≤ n ∧ iv = .int .i64 j ∧ (∀ (k : Nat) (x : Kp), k < j → m.kept[k]? = some x → x.move.id ≠ id) ∧ Fr (fun _ => False) (w.alloc (.cells #[.int .u64 id.hi, .int .u64 id.lo] 24)) wr) (fun iv _ => ((n : Int) - intOf iv).toNat)
  case atStart => exact ⟨0, by omega, rfl, fun k x hk => absurd hk (by omega), Fr.refl _ _⟩
  case round =>
    obtain ⟨j, hj, rfl, hno, hf⟩ := hrel
    have HF := Lib.hid hf
    have HNo := Lib.hid hno
    by_cases hjm : j < n
    · have hjI : (j : Int) < n := by omega
      have hjJ : (0 : Int) ≤ j := by omega
      have hjl : j < m.kept.length := by rw [HN.out]; exact hjm
      obtain ⟨g, cc, e0⟩ := own_some HO.out (by omega)
      simp only [Value.slice.injEq] at e0
      obtain ⟨rfl, -, rfl⟩ := e0
      obtain ⟨x, hx⟩ : ∃ x, m.kept[j] = x := ⟨_, rfl⟩
      have hr := rw_range (f := Kp.cells) (sz := 33) (fun _ => rfl) (own_fr HO.out hf (fun _ _ h => h)) rfl hjl
      rw [hx] at hr
      have HR := Lib.hid (World.rangeAt_alloc hr (.cells #[.int .u64 0, .int .u64 0, .int .u64 0, .int .u64 0, .int .u64 0, .int .u64 0, .int .u64 0, .int .u64 0, .int .u64 0, .int .u64 0, .int .i64 0, .int .i64 0, .int .i64 0, .int .i64 0, .int .i64 0, .int .i64 0, .int .u64 0, .int .u64 0, .int .u64 0, .int .u64 0, .int .u64 0, .int .u64 0, .int .u64 0, .int .u64 0, .int .u64 0, .int .u64 0, .int .i64 0, .int .i64 0, .int .i64 0, .int .i64 0, .int .i64 0, .int .i64 0, .int .i64 0] 63))
      have HBz := Lib.hid (heap_alloc_new wr (.cells #[.int .u64 0, .int .u64 0, .int .u64 0, .int .u64 0, .int .u64 0, .int .u64 0, .int .u64 0, .int .u64 0, .int .u64 0, .int .u64 0, .int .i64 0, .int .i64 0, .int .i64 0, .int .i64 0, .int .i64 0, .int .i64 0, .int .u64 0, .int .u64 0, .int .u64 0, .int .u64 0, .int .u64 0, .int .u64 0, .int .u64 0, .int .u64 0, .int .u64 0, .int .u64 0, .int .i64 0, .int .i64 0, .int .i64 0, .int .i64 0, .int .i64 0, .int .i64 0, .int .i64 0] 63))
      have HR0 := Lib.hid hr
      have HX := Lib.hid (show m.kept[j]? = some x from by rw [List.getElem?_eq_getElem hjl, hx])
      have HBi := Lib.hid (blk_alloc (hf.blk HB.out (fun h => h)) (.cells #[.int .u64 0, .int .u64 0, .int .u64 0, .int .u64 0, .int .u64 0, .int .u64 0, .int .u64 0, .int .u64 0, .int .u64 0, .int .u64 0, .int .i64 0, .int .i64 0, .int .i64 0, .int .i64 0, .int .i64 0, .int .i64 0, .int .u64 0, .int .u64 0, .int .u64 0, .int .u64 0, .int .u64 0, .int .u64 0, .int .u64 0, .int .u64 0, .int .u64 0, .int .u64 0, .int .i64 0, .int .i64 0, .int .i64 0, .int .i64 0, .int .i64 0, .int .i64 0, .int .i64 0] 63))
      have w1 : IntKind.i64.wrap ((j : Int) + 1) = j + 1 := IntWalk.i64_in _ (by omega)
      obtain ⟨C, hC⟩ : ∃ C, x.cells.toArray = C := ⟨_, rfl⟩
      have hCs : C.size = 33 := by rw [← hC]; rfl
      have HC := Lib.hid hC
      have HCo := Lib.hid (show C.all (·.oneCell') = true from by rw [← hC]; simp [Acc.cells, Kp.cells, Tx.cells, Value.oneCell'])
      have hCl : x.cells = C.toList := by rw [← hC]
      rw [hCl] at hr HR HR0
      clear hf hno hr hx hC hCl hjl
      go_upto_region 4 with (first | (refine wpList_load_mid rfl 63 (.tmp 15) rfl g (j * 33) rfl _ _ HR0.out Tryd.underlying63 rfl (by rw [Array.length_toList, hCs]; rfl) ?_) | (refine wpList_load_mid rfl 63 (.tmp 15) rfl g (j * 33) rfl _ _ HR.out Tryd.underlying63 rfl (by rw [Array.length_toList, hCs]; rfl) ?_) | ((refine wpList_store_row rfl 63 (.tmp 6) (.tmp 16) rfl wr.heap.size C rfl rfl HBz.out (by rw [hCs]; rfl) (by rw [hCs]; rfl) HCo.out ?_); intro w9 hb9 f9; have HB9 := Lib.hid hb9; have F9 := Lib.hid f9; clear hb9 f9) | fail)
      have G9 := Lib.hid (show Fr (fun _ => False) (w.alloc (.cells #[.int .u64 id.hi, .int .u64 id.lo] 24)) w9 from HF.out.then_ (((Fr.refl (fun _ => False) wr).alloc _).then_ F9.out (fun k hk => .inr (by omega))) (fun _ h => h.elim))
      have x0 : w9.cell? ⟨wr.heap.size, 16, none⟩ = some (.int .u64 x.move.id.hi) := blk_cell HB9.out 16 (by rw [← HC.out]; rfl)
      have x1 : w9.cell? ⟨wr.heap.size, 17, none⟩ = some (.int .u64 x.move.id.lo) := blk_cell HB9.out 17 (by rw [← HC.out]; rfl)
      have i0 := blk_cell (G9.out.blk HB.out (fun h => h)) 0 rfl
      have i1 := blk_cell (G9.out.blk HB.out (fun h => h)) 1 rfl
      by_cases hid : x.move.id = id
      rotate_left
      · have hq : (x.move.id.hi == id.hi && (x.move.id.lo == id.lo)) = false := by
          cases hq : (x.move.id.hi == id.hi && (x.move.id.lo == id.lo)) with
          | false => rfl
          | true => exact absurd (nm_eq.1 hq) hid
        have HNe := Lib.hid hid
        clear hid
        go_wp2_with fail
        go_roundw
        case rel => exact ⟨j + 1, by omega, by go_num, fun k y hk hy => by
          by_cases e : k = j
          · subst e
            rw [HX.out] at hy
            cases hy
            exact HNe.out
          · exact HNo.out k y (by omega) hy, by first | exact G9.out | exact G9.out.drew | exact G9.out.drewN _⟩
        case measure => simp [intOf]; omega
      · have HEq := Lib.hid hid
        have hq : (x.move.id.hi == id.hi && (x.move.id.lo == id.lo)) = true := nm_eq.2 hid
        clear hid
        go_wp2_with fail
        go_ret
        exact ⟨⟨j, rfl, .inr ⟨j, x, rfl, HX.out, HEq.out⟩⟩, F0.out.then_ G9.out (fun _ h => h.elim)⟩
    · have hjI : ¬ (j : Int) < n := by omega
      clear hf hno
      go_wp2_with fail
      go_ret
      refine ⟨⟨-1, rfl, .inl ⟨rfl, fun x hx => ?_⟩⟩, F0.out.then_ HF.out (fun _ h => h.elim)⟩
      obtain ⟨k, hk, rfl⟩ := List.getElem_of_mem hx
      have := HN.out
      exact HNo.out k _ (by omega) (List.getElem?_eq_getElem hk)
end Go.Proofs.YtjchjpmgbmeohaaDoor

/- Books: one more transfer; what is to end by itself. -/
set_option linter.unusedSimpArgs false
set_option linter.unusedVariables false
namespace Go.Proofs.YtjchjpmgbmeohaaDoor
open Go.RowKit

section
variable {w w' : World} {lab : Nat → Nat} {d : Dd} {r : Raw} {es : List Ent} {big : Nat}
theorem kepAddS (w : World) (lab : Nat → Nat) (d : Dd) (r : Raw) (es : List Ent) (big : Nat) (a : Kp) (h : Sta w lab d r es big) (hx : r.kept.length ≤ 100000) (hb : big ≤ 100000) :
    Calls Tryd.prog 63 #[.pointer (some ⟨d.K, 0, none⟩), .agg a.cells.toArray] w fun q w' => q = .returned (.int .i64 r.kept.length) ∧ ∃ lab', Sta w' lab' d { r with kept := r.kept ++ [a] } (.kepCut w.heap.size (w.heap.size + 1 + 1) r.kept.length :: es) (big + 1) ∧ Stp w.heap.size w lab w' lab' := by
  obtain ⟨lv, sv, qv, ps, hp, b⟩ := h.bb
  have hlen := h.len
  have h8 := h.labB
  refine (kepAdd w _ (fun k => lab k = 1 ∨ k = d.B) d.K d.B _ r.kept a es.length _ h.kep (h.logAt b) (fun k hk hg => ?_) hx (by omega)).mono ?_
  · rcases hg with hg | rfl
    · rw [hk] at hg; cases hg
    · rw [hk] at h8; cases h8
  rintro q w' ⟨rfl, m, hm0, hm1, ha, hg, hf, hb0, hb2⟩
  have hr : Rel w lab w' (lab3 lab w.heap.size m w'.heap.size 3) := lab3_rel h hm0 hm1
  have hk : ∀ k c, c ≠ 0 → lab k = c → lab3 lab w.heap.size m w'.heap.size 3 k = c := fun k c h0 h1 => by rw [hr.nz k (by rw [h1]; exact h0), h1]
  have hS : ∀ k, (lab k = 3 ∨ (lab k = 1 ∨ k = d.B)) → lab k = 3 ∨ lab k = 1 ∨ lab k = 8 := fun k hk => hk.imp id (fun hk => hk.imp id (fun e => by rw [e]; exact h8))
  have hne : ∀ c, c ≠ 1 → c ≠ 3 → c ≠ 8 → ∀ k, (lab k = 3 ∨ (lab k = 1 ∨ k = d.B)) → lab k ≠ c := fun c h1 h2 h8 k hs e => by
    rcases hS k hs with h | h | h
    · rw [h] at e; exact h2 e.symm
    · rw [h] at e; exact h1 e.symm
    · rw [h] at e; exact h8 e.symm
  refine ⟨rfl, lab3 lab w.heap.size m w'.heap.size 3, ⟨?_, hk _ 8 (by decide) h8, h.acc.rel (by decide) hf (hne 2 (by decide) (by decide) (by decide)) hr, ?_, tab_more (h.ids.rel (by decide) hf (hne 4 (by decide) (by decide) (by decide)) hr) (Nat.le_succ _), tab_more (h.nms.rel (by decide) hf (hne 5 (by decide) (by decide) (by decide)) hr) (Nat.le_succ _), hr.lt, ?_⟩, ?_⟩
  · obtain ⟨lv', hb', ho', _, hl', _⟩ := hg
    refine ⟨lv', sv, qv, ps, hp, ⟨hb', ?_, fun k hk => ?_, own_fr b.sts hf (fun k hk hs => hne 6 (by decide) (by decide) (by decide) k hs (b.stsl k hk)), fun k h => hk k 6 (by decide) (b.stsl k h), b.orel, own_fr b.ens hf (fun k hk hs => hne 7 (by decide) (by decide) (by decide) k hs (b.ensl k hk)), fun k h => hk k 7 (by decide) (b.ensl k h), b.qrel, Nat.le_succ_of_le b.psb, by have := b.hpb; simp only [List.length_cons]; omega⟩⟩
    · rw [show (Ent.kepCut w.heap.size (w.heap.size + 1 + 1) r.kept.length :: es).reverse.map Ent.val = es.reverse.map Ent.val ++ [addFnK w.heap.size (w.heap.size + 1 + 1)] from by simp [Ent.val, Ent.fn, Ent.caps, addFnK, pt], List.length_cons]
      exact ho'
    · rcases (hl' k hk).1 with (h1 | h1) | h1
      · rw [lab3_old (h.lt k (by rw [h1]; decide)), h1]
      · exact absurd h1 (hl' k hk).2
      · exact lab3_log hm0 h1.1 h1.2
  · refine Rw.mono ha (fun k hk => ?_) (fun k hk => hr.lt k (by rw [hk]; decide))
    rcases hk with hk | hk
    · show lab3 lab _ _ _ _ k = 3
      rw [lab3_old (h.lt k (by rw [hk]; decide)), hk]
    · exact lab3_row hk.1 hk.2
  · intro e he
    rcases List.mem_cons.1 he with rfl | he
    · exact ⟨⟨hb0, hb2⟩, fun k hk => lab3_ent hk⟩
    · exact ents_rel h.ents hf (hne 9 (by decide) (by decide) (by decide)) hr e he
  · refine ⟨hf.mono (fun k hk => ?_), Nat.le_refl _, fun k hk => lab3_old hk, fun k hk _ => lab3_old hk, fun k hk h0 => .inl (by rw [lab3_old hk, h0])⟩
    rcases hS k hk with h | h | h <;> rw [h] <;> decide
end
theorem kepLenS (w : World) (lab : Nat → Nat) (d : Dd) (r : Raw) (es : List Ent) (big : Nat) (h : Sta w lab d r es big) :
    Calls Tryd.prog 62 #[.pointer (some ⟨d.K, 0, none⟩)] w fun e w' => e = .returned (.int .i64 r.kept.length) ∧ w' = w := kepLen w _ d.K d.B r.kept h.kep
theorem roomS (w : World) (lab : Nat → Nat) (d : Dd) (r : Raw) (es : List Ent) (big : Nat) (h : Sta w lab d r es big) :
    Calls Tryd.prog 17 #[.pointer (some ⟨d.B, 0, none⟩)] w fun e w' => e = .returned (.bool (decide (r.kept.length < 96))) ∧ Fr (fun _ => False) w w' := by
  have HLen := Lib.hid (fun W (f : Fr (fun _ => False) w W) => kepLenS W lab d r es big (h.fr f (fun _ h => h.elim)))
  obtain ⟨-, c2, -, -, -, -, -, -⟩ := h.cells
  obtain ⟨n, hn⟩ : ∃ n, r.kept.length = n := ⟨_, rfl⟩
  rw [hn] at HLen
  rw [hn]
  clear h hn
  obtain ⟨q, hq⟩ : ∃ q, decide ((n : Int) < 96) = q := ⟨_, rfl⟩
  have e : decide (n < 96) = q := by rw [← hq]; simp; omega
  rw [e]
  clear e
  go_enter Tryd.func17, Tryd.ntmps17
  go_wp2_with fail
  refine (HLen.out _ (by repeat (first | (with_reducible exact Fr.refl _ _) | (with_reducible refine Fr.drew ?_) | (with_reducible refine Fr.drewN ?_ _) | (with_reducible refine Fr.alloc ?_ _) | (with_reducible refine Fr.set1 ?_ _) | (with_reducible refine Fr.setNew ?_ (by omega) _)))).mono ?_
  rintro e w1 ⟨rfl, rfl⟩
  go_wp2_with fail
  go_ret
  exact ⟨by first | rfl | rw [← hq] | simp [hq], by repeat (first | (with_reducible exact Fr.refl _ _) | (with_reducible refine Fr.drew ?_) | (with_reducible refine Fr.drewN ?_ _) | (with_reducible refine Fr.alloc ?_ _) | (with_reducible refine Fr.set1 ?_ _) | (with_reducible refine Fr.setNew ?_ (by omega) _))⟩
theorem clockS (w : World) (lab : Nat → Nat) (d : Dd) (r : Raw) (es : List Ent) (big : Nat) (h : Sta w lab d r es big) :
    Calls Tryd.prog 37 #[.pointer (some ⟨d.B, 0, none⟩)] w fun e w' => e = .returned (.int .i64 r.clock) ∧ Fr (fun _ => False) w w' := by
  obtain ⟨-, -, -, -, c7, -, -, -⟩ := h.cells
  clear h
  go_enter Tryd.func37, Tryd.ntmps37
  go_wp2_with fail
  go_ret
  exact ⟨rfl, by repeat (first | (with_reducible exact Fr.refl _ _) | (with_reducible refine Fr.drew ?_) | (with_reducible refine Fr.drewN ?_ _) | (with_reducible refine Fr.alloc ?_ _) | (with_reducible refine Fr.set1 ?_ _) | (with_reducible refine Fr.setNew ?_ (by omega) _))⟩
theorem stampS (w : World) (lab : Nat → Nat) (d : Dd) (r : Raw) (es : List Ent) (big : Nat) (h : Sta w lab d r es big) :
    Calls Tryd.prog 21 #[.pointer (some ⟨d.B, 0, none⟩)] w fun e w' => e = .returned (.int .i64 r.stamp) ∧ Fr (fun _ => False) w w' := by
  obtain ⟨-, -, -, -, -, c8, -, -⟩ := h.cells
  clear h
  go_enter Tryd.func21, Tryd.ntmps21
  go_wp2_with fail
  go_ret
  exact ⟨rfl, by repeat (first | (with_reducible exact Fr.refl _ _) | (with_reducible refine Fr.drew ?_) | (with_reducible refine Fr.drewN ?_ _) | (with_reducible refine Fr.alloc ?_ _) | (with_reducible refine Fr.set1 ?_ _) | (with_reducible refine Fr.setNew ?_ (by omega) _))⟩
end Go.Proofs.YtjchjpmgbmeohaaDoor

/- Books: an account, a transfer, is another one now. -/
set_option linter.unusedSimpArgs false
set_option linter.unusedVariables false
namespace Go.Proofs.YtjchjpmgbmeohaaDoor
open Go.RowKit

/-- A store of several cells, as an equation (for a region that draws). -/
theorem st_mid {P : Program} (w : World) (b o : Nat) (cells : Array Value) (ht : w.there b o cells.size) (h1 : cells.all (·.oneCell') = true) : (storeCells ⟨b, o, none⟩ cells.toList).run P w = .ok () (w.setCells b o cells.toList) := by
  have := run_storeCells_cells (P := P) b o cells.toList 0 w (fun j hj => by simpa using (ht j (by simpa using hj)).1) (fun j hj => by simpa using (ht j (by simpa using hj)).2)
    (fun v hv => (Array.all_eq_true_iff_forall_mem.1 h1) v (by simpa using hv))
  simpa using this
section
variable {w w' : World} {lab : Nat → Nat} {d : Dd} {r : Raw} {es : List Ent} {big : Nat}
theorem same_rel (h : Sta w lab d r es big) (hs : w.heap.size ≤ w'.heap.size) : Rel w lab w' lab := ⟨fun _ _ => rfl, fun k hk => Nat.lt_of_lt_of_le (h.lt k hk) hs⟩
theorem Sta.reaccs (h : Sta w lab d r es big) {xs : List Acc} (hf : Fr (fun k => lab k = 2) w w') (ha : AccL w' (fun k => lab k = 2) d.A d.B xs) : Sta w' lab d { r with accs := xs } es big := by
  have hr := same_rel h hf.size
  have hn : ∀ c, c ≠ 2 → ∀ k, lab k = 2 → lab k ≠ c := fun c hc k hk e => hc (by rw [← e, hk])
  obtain ⟨lv, sv, qv, ps, hp, b⟩ := h.bb
  exact ⟨⟨lv, sv, qv, ps, hp, b.rel h.labB hf (fun k hk => ⟨hn 1 (by decide) k hk, hn 6 (by decide) k hk, hn 7 (by decide) k hk, hn 8 (by decide) k hk⟩) hr (r' := { r with accs := xs }) rfl rfl rfl rfl⟩, h.labB, ha, h.kep.rel (by decide) hf (hn 3 (by decide)) hr, h.ids.rel (by decide) hf (hn 4 (by decide)) hr, h.nms.rel (by decide) hf (hn 5 (by decide)) hr, hr.lt, ents_rel h.ents hf (hn 9 (by decide)) hr⟩
theorem Sta.rekept (h : Sta w lab d r es big) {xs : List Kp} (hf : Fr (fun k => lab k = 3) w w') (ha : KepL w' (fun k => lab k = 3) d.K d.B xs) : Sta w' lab d { r with kept := xs } es big := by
  have hr := same_rel h hf.size
  have hn : ∀ c, c ≠ 3 → ∀ k, lab k = 3 → lab k ≠ c := fun c hc k hk e => hc (by rw [← e, hk])
  obtain ⟨lv, sv, qv, ps, hp, b⟩ := h.bb
  exact ⟨⟨lv, sv, qv, ps, hp, b.rel h.labB hf (fun k hk => ⟨hn 1 (by decide) k hk, hn 6 (by decide) k hk, hn 7 (by decide) k hk, hn 8 (by decide) k hk⟩) hr (r' := { r with kept := xs }) rfl rfl rfl rfl⟩, h.labB, h.acc.rel (by decide) hf (hn 2 (by decide)) hr, ha, h.ids.rel (by decide) hf (hn 4 (by decide)) hr, h.nms.rel (by decide) hf (hn 5 (by decide)) hr, hr.lt, ents_rel h.ents hf (hn 9 (by decide)) hr⟩
end
theorem kp_same (a : Kp) : a.cells.length = 33 := rfl
attribute [-go_sem] loadCells
set_option maxRecDepth 4000 in
set_option maxHeartbeats 6400000 in
theorem accSetS (w : World) (lab : Nat → Nat) (d : Dd) (r : Raw) (es : List Ent) (big : Nat) (i : Nat) (a old : Acc) (h : Sta w lab d r es big) (hi : r.accs[i]? = some old) (hb : big ≤ 90000) (hn : r.accs.length ≤ 100000) :
    Calls Tryd.prog 87 #[.pointer (some ⟨d.A, 0, none⟩), .int .i64 i, .agg a.cells.toArray] w fun e w' => e = .returned (.bool true) ∧ ∃ lab' b0 b1 b2, Sta w' lab' d { r with accs := r.accs.set i a } (.accPut b0 b1 b2 i old :: es) (big + 1) ∧ Stp w.heap.size w lab w' lab' := by
  obtain ⟨C, hC⟩ : ∃ C, a.cells.toArray = C := ⟨_, rfl⟩
  have hCs : C.size = 14 := by rw [← hC]; rfl
  have HCl := Lib.hid (show C.toList = a.cells from by rw [← hC])
  have HCo := Lib.hid (show C.all (·.oneCell') = true from by rw [← hC]; simp [Acc.cells, Kp.cells, Tx.cells, Value.oneCell'])
  rw [hC]
  obtain ⟨O, hO⟩ : ∃ O, old.cells.toArray = O := ⟨_, rfl⟩
  have HOe := Lib.hid hO
  have hOs : O.size = 14 := by rw [← hO]; rfl
  have HOo := Lib.hid (show O.all (·.oneCell') = true from by rw [← hO]; simp [Acc.cells, Kp.cells, Tx.cells, Value.oneCell'])
  have hil := (List.getElem?_eq_some_iff.1 hi).1
  have HIl := Lib.hid hil
  have HS3 := Lib.hid (((h.alloc (.cells #[.pointer (some ⟨d.A, 0, none⟩)] 91)).alloc (.cells #[.int .i64 i] 3)).alloc (.cells C 26))
  have B0 := Lib.hid (blk_alloc (blk_alloc (heap_alloc_new w (.cells #[.pointer (some ⟨d.A, 0, none⟩)] 91)) (.cells #[.int .i64 i] 3)) (.cells C 26))
  have B1 := Lib.hid (blk_alloc (blk1 w (.cells #[.pointer (some ⟨d.A, 0, none⟩)] 91) (.cells #[.int .i64 i] 3)) (.cells C 26))
  have B2 := Lib.hid (blk2 w (.cells #[.pointer (some ⟨d.A, 0, none⟩)] 91) (.cells #[.int .i64 i] 3) (.cells C 26))
  have F3 := Lib.hid ((((Fr.refl (fun _ => False) w).alloc (.cells #[.pointer (some ⟨d.A, 0, none⟩)] 91)).alloc (.cells #[.int .i64 i] 3)).alloc (.cells C 26))
  have HZ := Lib.hid (show (((w.alloc (.cells #[.pointer (some ⟨d.A, 0, none⟩)] 91)).alloc (.cells #[.int .i64 i] 3)).alloc (.cells C 26)).heap.size = w.heap.size + 3 from by simp)
  have L0 := Lib.hid (h.free (Nat.le_refl _))
  have L1 := Lib.hid (h.free (Nat.le_succ w.heap.size))
  have hat := accAt (((w.alloc (.cells #[.pointer (some ⟨d.A, 0, none⟩)] 91)).alloc (.cells #[.int .i64 i] 3)).alloc (.cells C 26)) _ d.A d.B r.accs (i : Int) HS3.out.acc (by omega)
  rw [show atZ r.accs (i : Int) = some old from by rw [atZ, if_neg (by omega), Int.toNat_natCast, hi]] at hat
  simp only [Option.getD_some, Option.isSome_some] at hat
  rw [hO] at hat
  have HAt := Lib.hid hat
  have HLen := Lib.hid hn
  clear h hi hat hC hO hil
  go_enter Tryd.func87, Tryd.ntmps87
  go_wp2_with fail
  refine HAt.out.mono ?_
  rintro e w4 ⟨rfl, f4⟩
  have F4 := Lib.hid f4
  have HN := Lib.hid (heap_alloc_new w4 (.cells #[.int .u64 0, .int .u64 0, .int .u64 0, .int .u64 0, .int .u64 0, .int .u64 0, .int .u64 0, .int .u64 0, .int .u64 0, .int .u64 0, .int .i64 0, .int .i64 0, .int .i64 0, .int .i64 0] 26))
  have HZ4 := Lib.hid (show w.heap.size + 3 ≤ w4.heap.size from by have := f4.size; have := HZ.out; omega)
  clear f4
  go_upto_region 2 with (first | ((refine wpList_store_row rfl 26 (.tmp 7) (.tmp 13) rfl w4.heap.size O rfl rfl HN.out (by rw [hOs]; rfl) (by rw [hOs]; rfl) HOo.out ?_); intro w9 hb9 f9; have HB9 := Lib.hid hb9; have F9 := Lib.hid f9; clear hb9 f9) | fail)
  have F49 := Lib.hid (F4.out.then_ (((Fr.refl (fun _ => False) w4).alloc _).then_ F9.out (fun k hk => .inr (by omega)) : Fr (fun _ => False) w4 w9) (fun _ h => h.elim))
  have HS9 := Lib.hid (HS3.out.fr F49.out (fun _ h => h.elim))
  have D0 := Lib.hid (F49.out.blk B0.out (fun h => h))
  have D1 := Lib.hid (F49.out.blk B1.out (fun h => h))
  have D2 := Lib.hid (F49.out.blk B2.out (fun h => h))
  have L4 := Lib.hid (show lab w4.heap.size = 0 from HS3.out.free F4.out.size)
  go_upto_region 4 with fail
  obtain ⟨v, hbv, hov, hSL, hSv, hlt⟩ := HS9.out.acc
  obtain ⟨g, cap, rfl⟩ := own_some hov (by have := HIl.out; omega)
  have HBv := Lib.hid hbv
  have HOv := Lib.hid hov
  have HTh := Lib.hid (there_flat (f := Acc.cells) (sz := 14) (fun _ => rfl) hov rfl HIl.out)
  have HSt := Lib.hid (rw_store (f := Acc.cells) (sz := 14) (fun _ => rfl) (blk_drew hbv) HS9.out.drew.acc HIl.out a)
  have b1 : (0 : Int) ≤ i := by omega
  have b2 : (i : Int) < r.accs.length := by have := HIl.out; omega
  clear hov hSL hSv hlt
  go_cut [] from 17 (fun w' => Sta w' lab d { r with accs := r.accs.set i a } es big ∧ Fr (fun k => lab k = 2) w9 w')
  case first =>
    have p0 := blk_cell D0.out 0 rfl
    have p1 := blk_cell D1.out 0 rfl
    have c0 := blk_cell hbv 0 rfl
    have lx := ld_row (P := Tryd.prog) (W := w9.drew) (w.heap.size + 1 + 1) C (n := 14) hCs (blk_drew D2.out)
    clear hbv
    have hse := st_mid (P := Tryd.prog) w9.drew g (i * 14) C (by rw [hCs, World.there_drew]; exact HTh.out) HCo.out
    go_region
    all_goals
      go_wp2_with fail
      go_meet
      have hst := HSt.out
      rw [← HCl.out] at hst
      exact ⟨HS9.out.drew.reaccs hst.2 (by unfold AccL; rw [List.length_set]; exact hst.1), (Fr.refl _ _).drew.then_ hst.2 (fun k hk => .inl hk)⟩
  case rest =>
  obtain ⟨s5, f5⟩ := hcut
  obtain ⟨w5, hw5⟩ : ∃ W, W = wc := ⟨_, rfl⟩
  subst hw5
  have hn0 : ∀ k, lab k = 0 → ¬ lab k = 2 := fun k h0 h1 => by rw [h0] at h1; cases h1
  have b0 := f5.blk D0.out (hn0 _ L0.out)
  have b1' := f5.blk D1.out (hn0 _ L1.out)
  have b4 := f5.blk HB9.out (hn0 _ L4.out)
  have HK := Lib.hid (show Calls Tryd.prog 58 #[.pointer (some ⟨d.B, 0, none⟩), .func (.func 104) #[] #[.pointer (some ⟨w4.heap.size, 0, none⟩), .pointer (some ⟨w.heap.size, 0, none⟩), .pointer (some ⟨w.heap.size + 1, 0, none⟩)]] w5 _ from keepS _ lab d _ _ _ w.heap.size (.accPut w4.heap.size w.heap.size (w.heap.size + 1) i old) s5 ⟨by rw [HOe.out]; exact b4, b0, b1'⟩ (fun k hk => by
    rcases hk with rfl | rfl | rfl
    · exact ⟨by have := HZ4.out; omega, blk_lt b4, .inl L4.out⟩
    · exact ⟨Nat.le_refl _, blk_lt b0, .inl L0.out⟩
    · exact ⟨Nat.le_succ _, blk_lt b1', .inl L1.out⟩) (by have := blk_lt b0; omega) (by omega))
  have P5 := Lib.hid ((Stp.of (Nat.le_refl _) (F3.out.then_ F49.out (fun _ h => h.elim)) : Stp w.heap.size w lab w9 lab).fr)
  have Q5 := Lib.hid (show Stp w.heap.size w lab w5 lab from ⟨P5.out.then_ f5 (fun k hk => .inl (by rw [hk]; decide)), Nat.le_refl _, fun _ _ => rfl, fun _ _ _ => rfl, fun _ _ h => .inl h⟩)
  have S5 := Lib.hid s5
  have p0 := blk_cell b0 0 rfl
  have hlg : w5.cell? ⟨d.A, 1, none⟩ = some (.pointer (some ⟨d.B, 0, none⟩)) := by
    obtain ⟨v, hb, -, -, -, -⟩ := s5.acc
    exact blk_cell hb 1 rfl
  have hLlt : d.A < w5.heap.size := by
    obtain ⟨v, hb, -, -, -, -⟩ := s5.acc
    exact blk_lt hb
  clear s5 f5 b0 b1' b4 hn0
  go_wp2_with fail
  refine HK.out.mono ?_
  rintro e w6 ⟨rfl, lab6, h6, p6⟩
  have H6 := Lib.hid h6
  have P6 := Lib.hid p6
  clear h6 p6
  go_wp2_with fail
  go_ret
  exact ⟨rfl, lab6, _, _, _, H6.out, Q5.out.then_ P6.out (Nat.le_refl _) S5.out.lt⟩
set_option maxRecDepth 4000 in
set_option maxHeartbeats 6400000 in
theorem kepSetS (w : World) (lab : Nat → Nat) (d : Dd) (r : Raw) (es : List Ent) (big : Nat) (i : Nat) (a old : Kp) (h : Sta w lab d r es big) (hi : r.kept[i]? = some old) (hb : big ≤ 90000) (hn : r.kept.length ≤ 100000) :
    Calls Tryd.prog 89 #[.pointer (some ⟨d.K, 0, none⟩), .int .i64 i, .agg a.cells.toArray] w fun e w' => e = .returned (.bool true) ∧ ∃ lab' b0 b1 b2, Sta w' lab' d { r with kept := r.kept.set i a } (.kepPut b0 b1 b2 i old :: es) (big + 1) ∧ Stp w.heap.size w lab w' lab' := by
  obtain ⟨C, hC⟩ : ∃ C, a.cells.toArray = C := ⟨_, rfl⟩
  have hCs : C.size = 33 := by rw [← hC]; rfl
  have HCl := Lib.hid (show C.toList = a.cells from by rw [← hC])
  have HCo := Lib.hid (show C.all (·.oneCell') = true from by rw [← hC]; simp [Acc.cells, Kp.cells, Tx.cells, Value.oneCell'])
  rw [hC]
  obtain ⟨O, hO⟩ : ∃ O, old.cells.toArray = O := ⟨_, rfl⟩
  have HOe := Lib.hid hO
  have hOs : O.size = 33 := by rw [← hO]; rfl
  have HOo := Lib.hid (show O.all (·.oneCell') = true from by rw [← hO]; simp [Acc.cells, Kp.cells, Tx.cells, Value.oneCell'])
  have hil := (List.getElem?_eq_some_iff.1 hi).1
  have HIl := Lib.hid hil
  have HS3 := Lib.hid (((h.alloc (.cells #[.pointer (some ⟨d.K, 0, none⟩)] 92)).alloc (.cells #[.int .i64 i] 3)).alloc (.cells C 63))
  have B0 := Lib.hid (blk_alloc (blk_alloc (heap_alloc_new w (.cells #[.pointer (some ⟨d.K, 0, none⟩)] 92)) (.cells #[.int .i64 i] 3)) (.cells C 63))
  have B1 := Lib.hid (blk_alloc (blk1 w (.cells #[.pointer (some ⟨d.K, 0, none⟩)] 92) (.cells #[.int .i64 i] 3)) (.cells C 63))
  have B2 := Lib.hid (blk2 w (.cells #[.pointer (some ⟨d.K, 0, none⟩)] 92) (.cells #[.int .i64 i] 3) (.cells C 63))
  have F3 := Lib.hid ((((Fr.refl (fun _ => False) w).alloc (.cells #[.pointer (some ⟨d.K, 0, none⟩)] 92)).alloc (.cells #[.int .i64 i] 3)).alloc (.cells C 63))
  have HZ := Lib.hid (show (((w.alloc (.cells #[.pointer (some ⟨d.K, 0, none⟩)] 92)).alloc (.cells #[.int .i64 i] 3)).alloc (.cells C 63)).heap.size = w.heap.size + 3 from by simp)
  have L0 := Lib.hid (h.free (Nat.le_refl _))
  have L1 := Lib.hid (h.free (Nat.le_succ w.heap.size))
  have hat := kepAt (((w.alloc (.cells #[.pointer (some ⟨d.K, 0, none⟩)] 92)).alloc (.cells #[.int .i64 i] 3)).alloc (.cells C 63)) _ d.K d.B r.kept (i : Int) HS3.out.kep (by omega)
  rw [show atZ r.kept (i : Int) = some old from by rw [atZ, if_neg (by omega), Int.toNat_natCast, hi]] at hat
  simp only [Option.getD_some, Option.isSome_some] at hat
  rw [hO] at hat
  have HAt := Lib.hid hat
  have HLen := Lib.hid hn
  clear h hi hat hC hO hil
  go_enter Tryd.func89, Tryd.ntmps89
  go_wp2_with fail
  refine HAt.out.mono ?_
  rintro e w4 ⟨rfl, f4⟩
  have F4 := Lib.hid f4
  have HN := Lib.hid (heap_alloc_new w4 (.cells #[.int .u64 0, .int .u64 0, .int .u64 0, .int .u64 0, .int .u64 0, .int .u64 0, .int .u64 0, .int .u64 0, .int .u64 0, .int .u64 0, .int .i64 0, .int .i64 0, .int .i64 0, .int .i64 0, .int .i64 0, .int .i64 0, .int .u64 0, .int .u64 0, .int .u64 0, .int .u64 0, .int .u64 0, .int .u64 0, .int .u64 0, .int .u64 0, .int .u64 0, .int .u64 0, .int .i64 0, .int .i64 0, .int .i64 0, .int .i64 0, .int .i64 0, .int .i64 0, .int .i64 0] 63))
  have HZ4 := Lib.hid (show w.heap.size + 3 ≤ w4.heap.size from by have := f4.size; have := HZ.out; omega)
  clear f4
  go_upto_region 2 with (first | ((refine wpList_store_row rfl 63 (.tmp 7) (.tmp 13) rfl w4.heap.size O rfl rfl HN.out (by rw [hOs]; rfl) (by rw [hOs]; rfl) HOo.out ?_); intro w9 hb9 f9; have HB9 := Lib.hid hb9; have F9 := Lib.hid f9; clear hb9 f9) | fail)
  have F49 := Lib.hid (F4.out.then_ (((Fr.refl (fun _ => False) w4).alloc _).then_ F9.out (fun k hk => .inr (by omega)) : Fr (fun _ => False) w4 w9) (fun _ h => h.elim))
  have HS9 := Lib.hid (HS3.out.fr F49.out (fun _ h => h.elim))
  have D0 := Lib.hid (F49.out.blk B0.out (fun h => h))
  have D1 := Lib.hid (F49.out.blk B1.out (fun h => h))
  have D2 := Lib.hid (F49.out.blk B2.out (fun h => h))
  have L4 := Lib.hid (show lab w4.heap.size = 0 from HS3.out.free F4.out.size)
  go_upto_region 4 with fail
  obtain ⟨v, hbv, hov, hSL, hSv, hlt⟩ := HS9.out.kep
  obtain ⟨g, cap, rfl⟩ := own_some hov (by have := HIl.out; omega)
  have HBv := Lib.hid hbv
  have HOv := Lib.hid hov
  have HTh := Lib.hid (there_flat (f := Kp.cells) (sz := 33) (fun _ => rfl) hov rfl HIl.out)
  have HSt := Lib.hid (rw_store (f := Kp.cells) (sz := 33) (fun _ => rfl) (blk_drew hbv) HS9.out.drew.kep HIl.out a)
  have b1 : (0 : Int) ≤ i := by omega
  have b2 : (i : Int) < r.kept.length := by have := HIl.out; omega
  clear hov hSL hSv hlt
  go_cut [] from 17 (fun w' => Sta w' lab d { r with kept := r.kept.set i a } es big ∧ Fr (fun k => lab k = 3) w9 w')
  case first =>
    have p0 := blk_cell D0.out 0 rfl
    have p1 := blk_cell D1.out 0 rfl
    have c0 := blk_cell hbv 0 rfl
    have lx := ld_row (P := Tryd.prog) (W := w9.drew) (w.heap.size + 1 + 1) C (n := 33) hCs (blk_drew D2.out)
    clear hbv
    have hse := st_mid (P := Tryd.prog) w9.drew g (i * 33) C (by rw [hCs, World.there_drew]; exact HTh.out) HCo.out
    go_region
    all_goals
      go_wp2_with fail
      go_meet
      have hst := HSt.out
      rw [← HCl.out] at hst
      exact ⟨HS9.out.drew.rekept hst.2 (by unfold KepL; rw [List.length_set]; exact hst.1), (Fr.refl _ _).drew.then_ hst.2 (fun k hk => .inl hk)⟩
  case rest =>
  obtain ⟨s5, f5⟩ := hcut
  obtain ⟨w5, hw5⟩ : ∃ W, W = wc := ⟨_, rfl⟩
  subst hw5
  have hn0 : ∀ k, lab k = 0 → ¬ lab k = 3 := fun k h0 h1 => by rw [h0] at h1; cases h1
  have b0 := f5.blk D0.out (hn0 _ L0.out)
  have b1' := f5.blk D1.out (hn0 _ L1.out)
  have b4 := f5.blk HB9.out (hn0 _ L4.out)
  have HK := Lib.hid (show Calls Tryd.prog 58 #[.pointer (some ⟨d.B, 0, none⟩), .func (.func 105) #[] #[.pointer (some ⟨w4.heap.size, 0, none⟩), .pointer (some ⟨w.heap.size, 0, none⟩), .pointer (some ⟨w.heap.size + 1, 0, none⟩)]] w5 _ from keepS _ lab d _ _ _ w.heap.size (.kepPut w4.heap.size w.heap.size (w.heap.size + 1) i old) s5 ⟨by rw [HOe.out]; exact b4, b0, b1'⟩ (fun k hk => by
    rcases hk with rfl | rfl | rfl
    · exact ⟨by have := HZ4.out; omega, blk_lt b4, .inl L4.out⟩
    · exact ⟨Nat.le_refl _, blk_lt b0, .inl L0.out⟩
    · exact ⟨Nat.le_succ _, blk_lt b1', .inl L1.out⟩) (by have := blk_lt b0; omega) (by omega))
  have P5 := Lib.hid ((Stp.of (Nat.le_refl _) (F3.out.then_ F49.out (fun _ h => h.elim)) : Stp w.heap.size w lab w9 lab).fr)
  have Q5 := Lib.hid (show Stp w.heap.size w lab w5 lab from ⟨P5.out.then_ f5 (fun k hk => .inl (by rw [hk]; decide)), Nat.le_refl _, fun _ _ => rfl, fun _ _ _ => rfl, fun _ _ h => .inl h⟩)
  have S5 := Lib.hid s5
  have p0 := blk_cell b0 0 rfl
  have hlg : w5.cell? ⟨d.K, 1, none⟩ = some (.pointer (some ⟨d.B, 0, none⟩)) := by
    obtain ⟨v, hb, -, -, -, -⟩ := s5.kep
    exact blk_cell hb 1 rfl
  have hLlt : d.K < w5.heap.size := by
    obtain ⟨v, hb, -, -, -, -⟩ := s5.kep
    exact blk_lt hb
  clear s5 f5 b0 b1' b4 hn0
  go_wp2_with fail
  refine HK.out.mono ?_
  rintro e w6 ⟨rfl, lab6, h6, p6⟩
  have H6 := Lib.hid h6
  have P6 := Lib.hid p6
  clear h6 p6
  go_wp2_with fail
  go_ret
  exact ⟨rfl, lab6, _, _, _, H6.out, Q5.out.then_ P6.out (Nat.le_refl _) S5.out.lt⟩
end Go.Proofs.YtjchjpmgbmeohaaDoor

/- Package order: a list of pairs; find. -/
set_option linter.unusedSimpArgs false
set_option linter.unusedVariables false
namespace Go.Proofs.YtjchjpmgbmeohaaDoor
open Go.RowKit

theorem prs_len (ps : List Pr) : (prs ps).length = ps.length * 2 := flat_len (f := Pr.cells) (n := 2) (fun _ => rfl) ps
theorem prs_get (ps : List Pr) {i : Nat} (hi : i < ps.length) (j : Nat) (hj : j < 2) : (prs ps)[i * 2 + j]? = (Pr.cells ps[i])[j]? := flat_get (f := Pr.cells) (n := 2) (fun _ => rfl) ps i hi j hj
/-- A list of stamps. -/
def IsO (w : World) (S : Nat → Prop) (L : Bq 5) (ps : List Pr) : Prop := Rq w S L 100 121 2 ps.length (prs ps)
theorem IsO.fr {w w' : World} {S S2 : Nat → Prop} {L : Bq 5} {ps : List Pr} (h : IsO w S L ps) (hf : Fr S2 w w') (hd : ∀ k, S k → ¬ S2 k) : IsO w' S L ps := Rq.fr h hf hd
theorem own_pair {w : World} {g n cap : Nat} {ps : List Pr} (h : w.ownsRow 0 121 2 (.slice (some ⟨g, 0, none⟩) n cap) n (prs ps)) (hn : ps.length = n) {i : Nat} (hi : i < ps.length) :
    w.cell? ⟨g, i * 2, none⟩ = some (.int .i64 ps[i].1) ∧ w.cell? ⟨g, i * 2 + 1, none⟩ = some (.int .i64 ps[i].2) := by
  have e0 := prs_get ps hi 0 (by omega)
  have e1 := prs_get ps hi 1 (by omega)
  rw [Nat.add_zero] at e0
  exact ⟨(h.cellAt (i * 2) (by omega)).trans e0, (h.cellAt (i * 2 + 1) (by omega)).trans e1⟩

set_option maxHeartbeats 1600000 in
/-- find's closure. -/
theorem oless_any (w : World) (bl bs : Nat) (L : Bq 5) (i : Nat) (S : Nat → Prop) (ps : List Pr) (s : Int) (hbl : w.heap[bl]? = some (.cells #[.pointer (some ⟨L.b, 5, none⟩)] 142 (0, 0))) (hbs : w.heap[bs]? = some (.cells #[.int .i64 s] 3 (0, 0))) (h : IsO w S L ps) (hi : i < ps.length) (hn : ps.length ≤ 1000000) :
    Calls Tryd.prog 108 #[.int .i64 i, .pointer (some ⟨bl, 0, none⟩), .pointer (some ⟨bs, 0, none⟩)] w fun e w' => e = .returned (.bool (decide (s ≤ ps[i].1))) ∧ Fr (fun _ => False) w w' := by
  obtain ⟨v, hb, ho, -, -, -⟩ := h
  obtain ⟨g, cap, rfl⟩ := own_some ho (by omega)
  have c0 := blk_cell hb 5 (L.get _)
  have cl := blk_cell hbl 0 rfl
  have cs := blk_cell hbs 0 rfl
  obtain ⟨p0, -⟩ := own_pair ho rfl hi
  obtain ⟨x, hx⟩ : ∃ x, ps[i].1 = x := ⟨_, rfl⟩
  rw [hx] at p0 ⊢
  have hi2 : (i : Int) < ps.length := by omega
  clear hb ho hbl hbs hx
  go_enter Tryd.func108, Tryd.ntmps108
  go_wp2_with fail
  go_region
  all_goals
    go_wp2_with fail
    go_ret
    exact ⟨rfl, by repeat (first | (with_reducible exact Fr.refl _ _) | (with_reducible refine Fr.drew ?_) | (with_reducible refine Fr.drewN ?_ _) | (with_reducible refine Fr.alloc ?_ _) | (with_reducible refine Fr.set1 ?_ _) | (with_reducible refine Fr.setNew ?_ (by omega) _))⟩
end Go.Proofs.YtjchjpmgbmeohaaDoor

/- sort.Search; find. -/
set_option linter.unusedSimpArgs false
set_option linter.unusedVariables false
namespace Go.Proofs.YtjchjpmgbmeohaaDoor
open Go.RowKit

set_option maxRecDepth 20000 in
set_option maxHeartbeats 3200000 in
theorem osearch_any (w : World) (bl bs : Nat) (L : Bq 5) (r : Nat) (S : Nat → Prop) (ps : List Pr) (s : Int) (hbl : w.heap[bl]? = some (.cells #[.pointer (some ⟨L.b, 5, none⟩)] 142 (0, 0))) (hbs : w.heap[bs]? = some (.cells #[.int .i64 s] 3 (0, 0))) (h : IsO w S L ps) (hn : ps.length ≤ 1000000)
    (hr : r ≤ ps.length) (hlo : ∀ i (hi : i < ps.length), i < r → ps[i].1 < s) (hhi : ∀ i (hi : i < ps.length), r ≤ i → s ≤ ps[i].1) :
    Calls Tryd.prog 107 #[.int .i64 ps.length, .func (.func 108) #[] #[.pointer (some ⟨bl, 0, none⟩), .pointer (some ⟨bs, 0, none⟩)]] w fun e w' => e = .returned (.int .i64 r) ∧ Fr (fun _ => False) w w' := by
  have HC := Lib.hid (show ∀ W i, Fr (fun _ => False) w W → i < ps.length → Calls Tryd.prog 108 #[.int .i64 i, .pointer (some ⟨bl, 0, none⟩), .pointer (some ⟨bs, 0, none⟩)] W fun e w' => e = .returned (.bool (decide (r ≤ i))) ∧ Fr (fun _ => False) W w' from fun W i hf hi => by
    have q := oless_any W bl bs L i S ps s (hf.blk hbl (fun h => h)) (hf.blk hbs (fun h => h)) (IsO.fr (S2 := fun _ => False) h hf (fun _ _ h => h)) hi hn
    have e : decide (s ≤ ps[i].1) = decide (r ≤ i) := by
      by_cases hc : r ≤ i
      · rw [decide_eq_true hc, decide_eq_true (hhi i hi hc)]
      · rw [decide_eq_false hc, decide_eq_false (by have := hlo i hi (by omega); omega)]
    rwa [e] at q)
  obtain ⟨n, hnn⟩ : ∃ n, ps.length = n := ⟨_, rfl⟩
  rw [hnn] at hn hr HC ⊢
  clear hbl hbs h hlo hhi hnn
  go_enter Tryd.func107, Tryd.ntmps107
  go_wp2_with fail
  go_loopw [5, 6] (fun a b wr => ∃ i j : Nat, i ≤ r ∧ r ≤ j ∧ j ≤ n ∧ a = .int .i64 i ∧ b = .int .i64 j ∧ Fr (fun _ => False) w wr) (fun a b _ => (intOf b - intOf a).toNat)
  case atStart => exact ⟨0, n, by omega, hr, Nat.le_refl _, rfl, rfl, Fr.refl _ _⟩
  case round =>
    obtain ⟨i, j, hi, hj, hjn, rfl, rfl, hf⟩ := hrel
    have HF := Lib.hid hf
    clear hf
    by_cases hlt : (i : Int) < j
    · have w1 : IntKind.i64.wrap ((i : Int) + j) = i + j := IntWalk.i64_in _ (by omega)
      have w2 : IntKind.u64.wrap ((i : Int) + j) = i + j := by rw [IntKind.wrap_u64]; omega
      go_wp2_with fail
      obtain ⟨m, hm⟩ : ∃ m : Nat, ((i : Int) + j) / 2 = m := ⟨(i + j) / 2, by omega⟩
      have hmi : i ≤ m := by omega
      have hmj : m < j := by omega
      rw [hm]
      clear hm w1 w2
      with_reducible refine (HC.out wr m HF.out (by omega)).mono ?_
      rintro e w2 ⟨rfl, f2⟩
      have F2 := Lib.hid f2
      have w3 : IntKind.i64.wrap ((m : Int) + 1) = m + 1 := IntWalk.i64_in _ (by omega)
      clear f2
      by_cases hc : r ≤ m
      · rw [decide_eq_true hc]
        go_wp2_with fail
        go_roundw
        case rel => exact ⟨i, m, hi, hc, by omega, rfl, rfl, HF.out.then_ F2.out (fun _ h => h.elim)⟩
        case measure => simp [intOf]; omega
      · rw [decide_eq_false hc]
        go_wp2_with fail
        go_roundw
        case rel => exact ⟨m + 1, j, by omega, hj, by omega, by go_num, rfl, HF.out.then_ F2.out (fun _ h => h.elim)⟩
        case measure => simp [intOf]; omega
    · obtain rfl : i = r := by omega
      go_wp2_with fail
      go_ret
      exact ⟨rfl, HF.out⟩

/-- The place of the first stamp that isn't below one. -/
def low : List Pr → Int → Nat
  | [], _ => 0
  | p :: ps, s => if p.1 < s then low ps s + 1 else 0
theorem low_le (ps : List Pr) (s : Int) : low ps s ≤ ps.length := by
  induction ps with
  | nil => simp [low]
  | cons p ps ih =>
    simp only [low, List.length_cons]
    split <;> omega
/-- Strictly rising. -/
def Ris (ps : List Pr) : Prop := ps.Pairwise (fun p q => p.1 < q.1)
theorem low_lo {ps : List Pr} {s : Int} {i : Nat} (hi : i < ps.length) (h : i < low ps s) : ps[i].1 < s := by
  induction ps generalizing i with
  | nil => simp at hi
  | cons p ps ih =>
    simp only [low] at h
    split at h
    · rename_i hp
      cases i with
      | zero => exact hp
      | succ i => exact ih (by simpa using hi) (by omega)
    · omega
theorem low_hi {ps : List Pr} (hR : Ris ps) {s : Int} {i : Nat} (hi : i < ps.length) (h : low ps s ≤ i) : s ≤ ps[i].1 := by
  induction ps generalizing i with
  | nil => simp at hi
  | cons p ps ih =>
    have hr := List.pairwise_cons.1 hR
    simp only [low] at h
    split at h
    · rename_i hp
      cases i with
      | zero => omega
      | succ i => exact ih hr.2 (by simpa using hi) (by omega)
    · rename_i hp
      cases i with
      | zero => simp; omega
      | succ i =>
        have h1 : i < ps.length := by simpa using hi
        have := hr.1 ps[i] (List.getElem_mem h1)
        simp only [List.getElem_cons_succ]
        omega

set_option maxHeartbeats 1600000 in
theorem ofind_any (w : World) (L : Bq 5) (S : Nat → Prop) (ps : List Pr) (s : Int) (h : IsO w S L ps) (hn : ps.length ≤ 1000000) (hR : Ris ps) :
    Calls Tryd.prog 100 #[.pointer (some ⟨L.b, 5, none⟩), .int .i64 s] w fun e w' => e = .returned (.int .i64 (low ps s)) ∧ Fr (fun _ => False) w w' := by
  have H := Lib.hid h
  have hmf : ∀ (fn : Fn) (first cap : Array Value) (w : World), (Instr.makeFunc fn first cap).run Tryd.prog w = .ok (.func fn first cap) w := fun _ _ _ _ => rfl
  have HS := Lib.hid (show ∀ W bl bs, W.heap[bl]? = some (.cells #[.pointer (some ⟨L.b, 5, none⟩)] 142 (0, 0)) → W.heap[bs]? = some (.cells #[.int .i64 s] 3 (0, 0)) → IsO W S L ps → Calls Tryd.prog 107 #[.int .i64 ps.length, .func (.func 108) #[] #[.pointer (some ⟨bl, 0, none⟩), .pointer (some ⟨bs, 0, none⟩)]] W fun e w' => e = .returned (.int .i64 (low ps s)) ∧ Fr (fun _ => False) W w' from fun W bl bs h1 h2 h3 =>
    osearch_any W bl bs L (low ps s) S ps s h1 h2 h3 hn (low_le ps s) (fun i hi h => low_lo hi h) (fun i hi h => low_hi hR hi h))
  obtain ⟨v, hb, ho, -, -, -⟩ := h
  obtain ⟨a, cap, rfl, -, -⟩ := own_form ho
  have c0 := blk_cell hb 5 (L.get _)
  have hLlt := blk_lt hb
  have B1 := Lib.hid (blk_alloc (heap_alloc_new w (.cells #[.pointer (some ⟨L.b, 5, none⟩)] 142)) (.cells #[.int .i64 s] 3))
  have B2 := Lib.hid (show ((w.alloc (.cells #[.pointer (some ⟨L.b, 5, none⟩)] 142)).alloc (.cells #[.int .i64 s] 3)).heap[w.heap.size + 1]? = some (.cells #[.int .i64 s] 3 (0, 0)) from by
    have h := heap_alloc_new (w.alloc (.cells #[.pointer (some ⟨L.b, 5, none⟩)] 142)) (.cells #[.int .i64 s] 3)
    rwa [show (w.alloc (.cells #[.pointer (some ⟨L.b, 5, none⟩)] 142)).heap.size = w.heap.size + 1 from Array.size_push ..] at h)
  clear hb ho
  go_enter Tryd.func100, Tryd.ntmps100
  go_wp2_with (go_at_call 107; go_must (with_reducible refine (HS.out _ _ _ B1.out B2.out (IsO.fr (S2 := fun _ => False) H.out (by repeat (first | (with_reducible exact Fr.refl _ _) | (with_reducible refine Fr.drew ?_) | (with_reducible refine Fr.drewN ?_ _) | (with_reducible refine Fr.alloc ?_ _) | (with_reducible refine Fr.set1 ?_ _) | (with_reducible refine Fr.setNew ?_ (by omega) _))) (fun _ _ h => h))).mono ?_); rintro e w2 ⟨rfl, f2⟩; have F2 := Lib.hid f2; clear f2)
  go_ret
  exact ⟨rfl, Fr.then_ (by repeat (first | (with_reducible exact Fr.refl _ _) | (with_reducible refine Fr.drew ?_) | (with_reducible refine Fr.drewN ?_ _) | (with_reducible refine Fr.alloc ?_ _) | (with_reducible refine Fr.set1 ?_ _) | (with_reducible refine Fr.setNew ?_ (by omega) _))) F2.out (fun _ h => h.elim)⟩
end Go.Proofs.YtjchjpmgbmeohaaDoor

/- copy of things of more cells than one, within a block that is known whole. No program in sight. -/
set_option linter.unusedSimpArgs false
set_option linter.unusedVariables false
namespace Go.Proofs.YtjchjpmgbmeohaaDoor
open Go.RowKit

theorem run_copy_z {P : Program} (w : World) (dT sT ty elem : TypeId) (g o dLen dCap : Nat) (a : Addr) (sLen sCap : Nat) (cur : Array Value) (t : TypeId) (cs : List Value) (z m : Nat)
    (hu : P.underlying dT = some (.slice elem)) (hs : (P.info? elem).map (·.size) = some z) (hg : w.heap[g]? = some (.cells cur t (0, 0))) (hm : m = Nat.min sLen dLen) (hn : cs.length = m * z)
    (hsrc : ∀ j v, cs[j]? = some v → w.cell? (a.add j) = some v) (hfit : o + cs.length ≤ cur.size) (h1 : ∀ v ∈ cs, v.oneCell' = true) :
    (Builtin.copy_ #[dT, sT] ty #[.slice (some ⟨g, o, none⟩) dLen dCap, .slice (some a) sLen sCap]).run P w = .ok (goInt m) (w.setRow g (cur.toList.take o ++ cs ++ cur.toList.drop (o + cs.length)).toArray) := by
  have hl := run_loadCells_list (P := P) w a cs hsrc
  have hst := run_storeCells_at P g o t cs 0 cur w hg (by simpa using hfit) h1
  cases hq : P.info? elem with
  | none => simp [hq] at hs
  | some i =>
    have hi : i.size = z := by simpa [hq] using hs
    rw [hn] at hl
    simp [Builtin.copy_, run_underlying hu, Builtin.lenOf, Builtin.firstCells, sizeOf, typeInfo, hq, hi, ← hm, hl, hst]
theorem run_copy_z0 {P : Program} (w : World) (dT sT ty elem : TypeId) (dp sp : Option Addr) (dLen dCap sLen sCap z : Nat) (hu : P.underlying dT = some (.slice elem)) (hs : (P.info? elem).map (·.size) = some z) (hn : Nat.min sLen dLen = 0) :
    (Builtin.copy_ #[dT, sT] ty #[.slice dp dLen dCap, .slice sp sLen sCap]).run P w = .ok (goInt 0) w := by
  cases hq : P.info? elem with
  | none => simp [hq] at hs
  | some i => cases dp <;> cases sp <;> simp [Builtin.copy_, run_underlying hu, Builtin.lenOf, Builtin.firstCells, sizeOf, typeInfo, hq, hn, storeCells, loadCells, loadCellsFrom]
theorem fr_row (w : World) (g : Nat) (c : Array Value) : Fr (fun k => k = g) w (w.setRow g c) := ⟨rfl, rfl, rfl, Nat.le_of_eq (by simp [World.setRow]), fun k _ hk => setRow_other w g k _ hk⟩
theorem step_copy_z {P : Program} {ops : Array Oper} {o : Oper} {a : Act} {w : World} {K : Act → World → Prop} {Q : Exit → Act → World → Prop} {E : Prop} (hgd : o.guard = none) (d s : Operand) (dT sT : TypeId)
    (ho : o.op = .call { callee := .builtin .copy, args := #[d, s], argTypes := #[dT, sT] }) (elem : TypeId) (z : Nat) (hu : P.underlying dT = some (.slice elem)) (hsz : (P.info? elem).map (·.size) = some z)
    (dp sp : Option Addr) (dLen dCap sLen sCap : Nat) (hd : a.eval d = .slice dp dLen dCap) (hs : a.eval s = .slice sp sLen sCap)
    (g off : Nat) (cur : List Value) (t : TypeId) (hg : w.heap[g]? = some (.cells cur.toArray t (0, 0))) (cs : List Value) (m : Nat) (hm : m = Nat.min sLen dLen) (hn : cs.length = m * z)
    (hpos : 0 < m → dp = some ⟨g, off, none⟩ ∧ ∃ ad, sp = some ad ∧ ∀ j v, cs[j]? = some v → w.cell? (ad.add j) = some v)
    (hfit : off + cs.length ≤ cur.length) (h1 : ∀ v ∈ cs, v.oneCell' = true)
    (h : ∀ w', RowKit.Hid (w'.heap[g]? = some (.cells (splice cur off cs).toArray t (0, 0))) → Fr (fun k => k = g) w w' → K (a.put o.dst (goInt m)) w') :
    if Region.wanted o (yielded ops a.tmps) = true then Oper.wp P o a w K Q else E := by
  have hw : Region.wanted o (yielded ops a.tmps) = true := by simp [Region.wanted, hgd]
  rw [if_pos hw]
  by_cases h0 : m = 0
  · subst h0
    obtain rfl : cs = [] := List.eq_nil_of_length_eq_zero (by rw [hn]; simp)
    have hrun := run_copy_z0 (P := P) w dT sT o.type elem dp sp dLen dCap sLen sCap z hu hsz hm.symm
    unfold Oper.wp
    simp [execOp, ho, resolve, invoke, builtin, hd, hs, hrun, Result.andThen]
    exact h w (show _ = _ by simpa [splice] using hg) (Fr.refl _ _)
  · obtain ⟨rfl, ad, rfl, hsrc⟩ := hpos (by omega)
    have hrun := run_copy_z (P := P) w dT sT o.type elem g off dLen dCap ad sLen sCap cur.toArray t cs z m hu hsz hg hm hn hsrc (by simpa using hfit) h1
    unfold Oper.wp
    simp [execOp, ho, resolve, invoke, builtin, hd, hs, hrun, Result.andThen]
    exact h _ (show _ = _ by simpa [splice] using setRow_heap w g _ _ t _ hg) (fr_row _ _ _)
end Go.Proofs.YtjchjpmgbmeohaaDoor
