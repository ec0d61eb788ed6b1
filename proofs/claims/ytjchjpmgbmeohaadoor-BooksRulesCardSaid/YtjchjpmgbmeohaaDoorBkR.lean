/- Books: New. -/
import Derived.Test.YtjchjpmgbmeohaaDoorBkQ
set_option linter.unusedSimpArgs false
set_option linter.unusedVariables false
namespace Go.Proofs.YtjchjpmgbmeohaaDoor
open Go.RowKit

theorem ofA (w : World) (B : Nat) : Calls Tryd.prog 52 #[.pointer (some ⟨B, 0, none⟩)] w fun e w' => e = .returned (.pointer (some ⟨w.heap.size, 0, none⟩)) ∧ w' = w.alloc (.cells #[.slice none 0 0, .pointer (some ⟨B, 0, none⟩)] 137) := by
  go_enter Tryd.func52, Tryd.ntmps52
  go_wp2_with fail
  go_ret
  exact ⟨rfl, rfl⟩
theorem ofK (w : World) (B : Nat) : Calls Tryd.prog 53 #[.pointer (some ⟨B, 0, none⟩)] w fun e w' => e = .returned (.pointer (some ⟨w.heap.size, 0, none⟩)) ∧ w' = w.alloc (.cells #[.slice none 0 0, .pointer (some ⟨B, 0, none⟩)] 139) := by
  go_enter Tryd.func53, Tryd.ntmps53
  go_wp2_with fail
  go_ret
  exact ⟨rfl, rfl⟩
def Raw.empty : Raw := ⟨[], [], fun _ => none, fun _ => none, fun _ => none, fun _ => none, 0, 0⟩
def NewBooks (w : World) (e : Ending) (w' : World) : Prop := ∃ lab d, e = .returned (.pointer (some ⟨d.B, 0, none⟩)) ∧ Sta w' lab d Raw.empty [] 0 ∧ (∀ k, lab k ≠ 0 → w.heap.size ≤ k) ∧ Fr (fun _ => False) w w'
/-- What New leaves. -/
structure Made (w w3 : World) (B A K T1 T2 : Nat) : Prop where
  blk : w3.heap[B]? = some (.cells #[.slice none 0 0, .pointer (some ⟨A, 0, none⟩), .pointer (some ⟨K, 0, none⟩), .pointer (some ⟨T1, 0, none⟩), .pointer (some ⟨T2, 0, none⟩), .slice none 0 0, .slice none 0 0, .int .i64 0, .int .i64 0] 100 (0, 0))
  a : w3.heap[A]? = some (.cells #[.slice none 0 0, .pointer (some ⟨B, 0, none⟩)] 137 (0, 0))
  k : w3.heap[K]? = some (.cells #[.slice none 0 0, .pointer (some ⟨B, 0, none⟩)] 139 (0, 0))
  f : Fr (fun k => k = B) w w3
open Classical in
/-- .. is an empty state. -/
theorem made_sta {w0 w1 w2 w3 : World} {B A K T1 T2 : Nat} {S1 S2 : Nat → Prop} (t1 : IsT w1 S1 T1 empty8) (h1 : ∀ k, S1 k → w0.heap.size ≤ k) (f1 : Fr (fun _ => False) w0 w1) (t2 : IsT w2 S2 T2 empty8) (h2 : ∀ k, S2 k → w1.heap.size ≤ k) (f2 : Fr (fun _ => False) w1 w2)
    (m : Made w2 w3 B A K T1 T2) (hB : w2.heap.size ≤ B) (hA : B < A) (hK : B < K) (hne : A ≠ K) : ∃ lab, Sta w3 lab ⟨B, A, K, T1, T2⟩ Raw.empty [] 0 ∧ (∀ k, lab k ≠ 0 → w0.heap.size ≤ k) ∧ Fr (fun _ => False) w0 w3 := by
  have s1 := f1.size
  have s2 := f2.size
  have lB := blk_lt m.blk
  have lA := blk_lt m.a
  have lK := blk_lt m.k
  have l1 : ∀ k, S1 k → k < w1.heap.size := fun k hk => Rw.lt t1.is hk
  have l2 : ∀ k, S2 k → k < w2.heap.size := fun k hk => Rw.lt t2.is hk
  have hbl : ∀ k, k < w2.heap.size → k ≠ B ∧ k ≠ A ∧ k ≠ K := fun k hk => ⟨by omega, by omega, by omega⟩
  let lab : Nat → Nat := fun k => if k = B then 8 else if k = A then 2 else if k = K then 3 else if S1 k then 4 else if S2 k then 5 else 0
  have eB : lab B = 8 := if_pos rfl
  have eA : lab A = 2 := by show (if A = B then 8 else _) = 2; rw [if_neg (by omega), if_pos rfl]
  have eK : lab K = 3 := by show (if K = B then 8 else _) = 3; rw [if_neg (by omega), if_neg (fun e => hne e.symm), if_pos rfl]
  have e1 : ∀ k, S1 k → lab k = 4 := fun k hk => by
    have := hbl k (by have := l1 k hk; omega)
    show (if k = B then 8 else _) = 4
    rw [if_neg this.1, if_neg this.2.1, if_neg this.2.2, if_pos hk]
  have e2 : ∀ k, S2 k → lab k = 5 := fun k hk => by
    have := hbl k (l2 k hk)
    show (if k = B then 8 else _) = 5
    rw [if_neg this.1, if_neg this.2.1, if_neg this.2.2, if_neg (fun h => by have := l1 k h; have := h2 k hk; omega), if_pos hk]
  have inv : ∀ k, lab k ≠ 0 → k = B ∨ k = A ∨ k = K ∨ S1 k ∨ S2 k := fun k hk => by
    by_cases h1 : k = B
    · exact .inl h1
    by_cases h2 : k = A
    · exact .inr (.inl h2)
    by_cases h3 : k = K
    · exact .inr (.inr (.inl h3))
    by_cases h4 : S1 k
    · exact .inr (.inr (.inr (.inl h4)))
    by_cases h5 : S2 k
    · exact .inr (.inr (.inr (.inr h5)))
    exact absurd (show (if k = B then 8 else if k = A then 2 else if k = K then 3 else if S1 k then 4 else if S2 k then 5 else 0) = 0 by rw [if_neg h1, if_neg h2, if_neg h3, if_neg h4, if_neg h5]) hk
  have lt : ∀ k, lab k ≠ 0 → k < w3.heap.size := fun k hk => by
    have s3 := m.f.size
    rcases inv k hk with h | h | h | h | h
    · omega
    · omega
    · omega
    · have := l1 k h; omega
    · have := l2 k h; omega
  refine ⟨lab, ⟨⟨.slice none 0 0, .slice none 0 0, .slice none 0 0, [], [], ⟨m.blk, World.ownsRow_nil _ 0 _ 1, fun k hk => (by cases hk), World.ownsRow_nil _ 0 _ 2, fun k hk => (by cases hk), ⟨List.Pairwise.nil, fun s a => ⟨fun h => (by cases h), fun h => (by cases h)⟩⟩, World.ownsRow_nil _ 0 _ 4, fun k hk => (by cases hk), ⟨fun i x y _ h => by simp at h, List.Pairwise.nil, fun s x => ⟨fun h => (by cases h), fun h => (by cases h.1)⟩⟩, Nat.le_refl _, Nat.le_refl _⟩⟩, eB, ?_, ?_, ?_, ?_, lt, fun e he => (by cases he)⟩, fun k hk => ?_, ?_⟩
  · exact ⟨.slice none 0 0, m.a, World.ownsRow_nil _ 0 _ 14, eA, fun k hk => (by cases hk), fun k hk => lt k (by rw [hk]; decide)⟩
  · exact ⟨.slice none 0 0, m.k, World.ownsRow_nil _ 0 _ 33, eK, fun k hk => (by cases hk), fun k hk => lt k (by rw [hk]; decide)⟩
  · exact ⟨empty8, ((t1.fr f2 (fun _ _ h => h)).fr m.f (fun k hk e => by have := l1 k hk; omega)).mono e1 (fun k hk => lt k (by rw [hk]; decide)), fun y a => ⟨fun h => (empty8_has y a h).elim, fun h => by cases h⟩, by rw [empty8_cnt 1 (by decide)]; exact Nat.le_refl _⟩
  · exact ⟨empty8, (t2.fr m.f (fun k hk e => by have := l2 k hk; omega)).mono e2 (fun k hk => lt k (by rw [hk]; decide)), fun y a => ⟨fun h => (empty8_has y a h).elim, fun h => by cases h⟩, by rw [empty8_cnt 1 (by decide)]; exact Nat.le_refl _⟩
  · rcases inv k hk with h | h | h | h | h
    · omega
    · omega
    · omega
    · exact h1 k h
    · have := h2 k h; omega
  · exact (f1.then_ f2 (fun _ h => h.elim)).then_ m.f (fun k hk => .inr (by omega))
set_option maxRecDepth 4000 in
set_option maxHeartbeats 3200000 in
theorem newS (w : World) : Calls Tryd.prog 15 #[] w (NewBooks w) := by
  have HOA := Lib.hid (fun W B => ofA W B)
  have HOK := Lib.hid (fun W B => ofK W B)
  go_enter Tryd.func15, Tryd.ntmps15
  go_wp2_with fail
  refine (new_any w).mono ?_
  rintro e w1 ⟨T1, S1, rfl, t1, h1, f1⟩
  have HN := Lib.hid (new_any w1)
  have H1 := Lib.hid (And.intro t1 (And.intro h1 f1))
  clear t1 h1 f1
  go_wp2_with fail
  refine HN.out.mono ?_
  rintro e w2 ⟨T2, S2, rfl, t2, h2, f2⟩
  have H2 := Lib.hid (And.intro t2 (And.intro h2 f2))
  clear t2 h2 f2
  go_upto_region 2 with fail
  go_cut [] from 6 (fun w' => ∃ A K, Made w2 w' w2.heap.size A K T1 T2 ∧ w2.heap.size < A ∧ w2.heap.size < K ∧ A ≠ K)
  case first =>
    go_region_held3 (fun w' => True) (trivial)
      (first
        | (go_at_call 52; go_must (with_reducible refine (HOA.out _ _).mono ?_); rintro e w3 ⟨rfl, rfl⟩)
        | (go_at_call 53; go_must (with_reducible refine (HOK.out _ _).mono ?_); rintro e w3 ⟨rfl, rfl⟩))
    go_wp2_with fail
    go_meet
    exact ⟨w2.heap.size + 1, w2.heap.size + 1 + 1, ⟨blk_drew (blk_alloc (blk_alloc (heap_alloc_new w2 _) _) _), blk_drew (blk_alloc (blk1 w2 _ _) _), blk_drew (blk2 w2 _ _ _), (((Fr.refl _ w2).alloc _).alloc _).alloc _ |>.drew⟩, by omega, by omega, by omega⟩
  case rest =>
  obtain ⟨A, K, hm, hA, hK, hne⟩ := hcut
  have HM := Lib.hid (made_sta H1.out.1 H1.out.2.1 H1.out.2.2 H2.out.1 H2.out.2.1 H2.out.2.2 hm (Nat.le_refl _) hA hK hne)
  clear hm hA hK hne
  go_wp2_with fail
  go_ret
  obtain ⟨lab, h, hl, hf⟩ := HM.out
  exact ⟨lab, _, rfl, h, hl, hf⟩
end Go.Proofs.YtjchjpmgbmeohaaDoor
