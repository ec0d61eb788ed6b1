/- Bytes of numbers, taken back; writers carried on. -/
import Derived.Test.YtfmcimngogibkaaRef3
set_option linter.unusedSimpArgs false
set_option linter.unusedVariables false
namespace Go.Proofs.Ytfmcimngogibkaa
open Go.RowKit

theorem le_bytesOf (n : Int) (k : Nat) : le (bytesOf n k) = n % 2 ^ (8 * k) := by
  induction k with
  | zero => simp [bytesOf, le]
  | succ k ih =>
    rw [bytesOf_succ, le_snoc, ih, blen]
    unfold byteAt
    have e : (2 : Int) ^ (8 * (k + 1)) = 2 ^ (8 * k) * 256 := by rw [show 8 * (k + 1) = 8 * k + 8 by omega, Int.pow_add]; rfl
    rw [e]
    have hp : (0 : Int) < 2 ^ (8 * k) := Int.pow_pos (by decide)
    generalize (2 : Int) ^ (8 * k) = P at *
    have h1 := Int.emod_add_mul_ediv n P
    have h2 := Int.emod_add_mul_ediv (n / P) 256
    have h3 := Int.emod_nonneg n (Int.ne_of_gt hp)
    have h4 := Int.emod_lt_of_pos n hp
    have h5 : 0 ≤ n / P % 256 ∧ n / P % 256 < 256 := by omega
    generalize n / P / 256 = q at *
    generalize n / P % 256 = r at *
    generalize n % P = s at *
    have e1 : n = s + r * P + P * 256 * q := by
      rw [← h1, ← h2, Int.mul_add, Int.mul_comm P r, ← Int.mul_assoc]
      omega
    have h6 : r * P ≤ 255 * P := Int.mul_le_mul_of_nonneg_right (by omega) (by omega)
    have h7 : 0 ≤ r * P := Int.mul_nonneg h5.1 (by omega)
    rw [e1, Int.add_mul_emod_self_left, Int.emod_eq_of_lt (by omega) (by omega)]

theorem bytesOf_bytes (n : Int) (k : Nat) : Bytes (bytesOf n k) := by
  intro x hx
  obtain ⟨i, _, rfl⟩ := List.mem_map.1 hx
  exact byteAt_bd n i
theorem wide_hi {hi lo : Int} (r : List Int) (h0 : 0 ≤ hi) (h1 : hi < 18446744073709551616) : le (((wideBytes hi lo ++ r).drop 8).take 8) = hi := by
  have e : ((wideBytes hi lo ++ r).drop 8).take 8 = bytesOf hi 8 := by
    unfold wideBytes
    rw [List.append_assoc, List.drop_append_of_le_length (by rw [blen]; omega), List.drop_of_length_le (by rw [blen]; omega), List.nil_append, List.take_append_of_le_length (by rw [blen]; omega), List.take_of_length_le (by rw [blen]; omega)]
  rw [e, le_bytesOf]
  simp
  omega
theorem wide_lo {hi lo : Int} (r : List Int) (h0 : 0 ≤ lo) (h1 : lo < 18446744073709551616) : le ((wideBytes hi lo ++ r).take 8) = lo := by
  have e : (wideBytes hi lo ++ r).take 8 = bytesOf lo 8 := by
    unfold wideBytes
    rw [List.append_assoc, List.take_append_of_le_length (by rw [blen]; omega), List.take_of_length_le (by rw [blen]; omega)]
  rw [e, le_bytesOf]
  simp
  omega
theorem wide_drop {hi lo : Int} (r : List Int) : (wideBytes hi lo ++ r).drop 16 = r := by
  have := wideBytes_len hi lo
  rw [List.drop_append_of_le_length (by omega), List.drop_of_length_le (by omega), List.nil_append]
theorem take_app {a r : List Int} {n : Nat} (h : a.length = n) : (a ++ r).take n = a := by
  subst h
  simp
theorem drop_app {a r : List Int} {n : Nat} (h : a.length = n) : (a ++ r).drop n = r := by
  subst h
  simp
theorem isW_mono {w : World} {S S2 : Nat → Prop} {g : Nat} {l : List Int} (h : IsW w S g l) (hs : ∀ k, S k → S2 k) : IsW w S2 g l := by
  obtain ⟨v, hb, ho, hg, hv⟩ := h
  exact ⟨v, hb, ho, hs _ hg, fun k hk => ⟨hs _ (hv k hk).1, (hv k hk).2⟩⟩
theorem isW_fr {w w2 : World} {S S2 : Nat → Prop} {g : Nat} {l : List Int} (h : IsW w S g l) (hf : Fr S2 w w2) (hd : ∀ k, S k → ¬ S2 k) : IsW w2 S g l := by
  obtain ⟨v, hb, ho, hg, hv⟩ := h
  exact ⟨v, hf.blk hb (hd _ hg), own_fr ho hf (fun k hk => hd _ (hv k hk).1), hg, hv⟩
theorem isW_alloc {w : World} {S : Nat → Prop} {g : Nat} {l : List Int} (h : IsW w S g l) (o : Obj) : IsW (w.alloc o) S g l := isW_fr (S2 := fun _ => False) h ((Fr.refl _ w).alloc o) (fun _ _ h => h)

/-- What one item's calls leave. -/
theorem put_step {w wr w2 w3 : World} {o : Obj} {B : Nat} {L : List Int} (f1 : Fr (fun _ => False) w wr) (h2 : IsW w2 (Gro (Gro (fun _ => False) w wr) (wr.alloc o) w2) B L) (f2 : Fr (Gro (fun _ => False) w wr) (wr.alloc o) w2) (f3 : Fr (fun _ => False) w2 w3) :
    IsW w3 (Gro (fun _ => False) w w3) B L ∧ Fr (fun _ => False) w w3 := by
  have s1 := f1.size
  have s2 := f2.size
  have s3 := f3.size
  simp at s2
  refine ⟨isW_fr (S2 := fun _ => False) (isW_mono h2 fun k hk => ?_) f3 (fun _ _ h => h), ((f1.alloc o).then_ f2 fun k hk => ?_).then_ f3 (fun _ h => h.elim)⟩
  · rcases hk with (h | h) | h
    · exact .inl h
    · exact .inr ⟨h.1, by omega⟩
    · exact .inr ⟨by have := h.1; simp at this; omega, by omega⟩
  · rcases hk with h | h
    · exact h.elim
    · exact .inr h.1

theorem strOf_one : (⟨#[1]⟩ : ByteArray) = strOfNums [1] := rfl
theorem strOf_zero : (⟨#[0]⟩ : ByteArray) = strOfNums [0] := rfl
theorem numsOf_str {l : List Int} (h : Bytes l) : numsOf (strOfNums l) = l := numsOf_strOf h

theorem bytesOf_le : ∀ (m : List Int), Bytes m → bytesOf (le m) m.length = m
  | [], _ => rfl
  | c :: r, h => by
    have hc := h c (List.mem_cons_self ..)
    have ih := bytesOf_le r (fun x hx => h x (List.mem_cons_of_mem _ hx))
    have e0 : byteAt (le (c :: r)) 0 = c := by simp [byteAt, le]; omega
    have e1 : ∀ i, byteAt (le (c :: r)) (i + 1) = byteAt (le r) i := fun i => by
      unfold byteAt
      have e : le (c :: r) / 256 = le r := by simp [le]; omega
      rw [show 8 * (i + 1) = 8 + 8 * i by omega, Int.pow_add, ← Int.ediv_ediv_of_nonneg (by decide : (0 : Int) ≤ 2 ^ 8), show (2 : Int) ^ 8 = 256 from rfl, e]
    rw [List.length_cons, bytesOf, List.range_succ_eq_map, List.map_cons, List.map_map, e0]
    refine congrArg (c :: ·) (Eq.trans ?_ ih)
    rw [bytesOf]
    exact List.map_congr_left fun i _ => e1 i
theorem tRead_any (w : World) (l : List Int) :
    Calls Try.prog 36 #[.string (strOfNums l)] w fun e w' => ∃ g, e = .returned (.pointer (some ⟨g, 0, none⟩)) ∧ g = w.heap.size ∧ IsR w' g l false ∧ Fr (fun _ => False) w w' := by
  go_enter Try.func36, Try.ntmps36
  go_wp2
  go_ret
  exact ⟨_, rfl, rfl, heap_alloc_new w _, (Fr.refl _ w).alloc _⟩

/-- A writer, behind what changed nothing of it. -/
theorem isW_more {w wk W : World} {S : Nat → Prop} {g : Nat} {L : List Int} (h : IsW wk (Gro S w wk) g L) (f : Fr (fun _ => False) wk W) : IsW W (Gro S w W) g L :=
  isW_fr (isW_mono h fun _ hk => hk.imp_right fun h => ⟨h.1, Nat.lt_of_lt_of_le h.2 f.size⟩) f (fun _ _ h => h)
/-- What one more call leaves. -/
theorem put_next {w w1 w2 : World} {S : Nat → Prop} {g : Nat} {L : List Int} (f1 : Fr S w w1) (h2 : IsW w2 (Gro (Gro S w w1) w1 w2) g L) (f2 : Fr (Gro S w w1) w1 w2) : IsW w2 (Gro S w w2) g L ∧ Fr S w w2 := by
  have s1 := f1.size
  have s2 := f2.size
  refine ⟨isW_mono h2 fun k hk => ?_, f1.then_ f2 fun k hk => ?_⟩
  · rcases hk with (h | h) | h
    · exact .inl h
    · exact .inr ⟨h.1, by omega⟩
    · exact .inr ⟨by omega, h.2⟩
  · rcases hk with h | h
    · exact .inl h
    · exact .inr h.1
/-- Blocks of S and new ones, but for one. -/
def Ex (S : Nat → Prop) (w w' : World) (a0 : Nat) (k : Nat) : Prop := Gro S w w' k ∧ k ≠ a0
theorem isW_ex {w V : World} {S : Nat → Prop} {g a0 : Nat} {l : List Int} (h : IsW w S g l) (ha : w.heap.size ≤ a0) (f : Fr (fun _ => False) w V) : IsW V (Ex S w V a0) g l := by
  obtain ⟨v, hb, ho, hg, hv⟩ := h
  refine ⟨v, f.blk hb (fun h => h), own_fr ho f (fun _ _ h => h), ⟨.inl hg, ?_⟩, fun k hk => ⟨⟨.inl (hv k hk).1, ?_⟩, (hv k hk).2⟩⟩
  · have := blk_lt hb; omega
  · have := own_lt ho hk; omega
theorem isW_more2 {w wk W : World} {S : Nat → Prop} {g a0 : Nat} {L : List Int} (h : IsW wk (Ex S w wk a0) g L) (f : Fr (fun _ => False) wk W) : IsW W (Ex S w W a0) g L :=
  isW_fr (isW_mono h fun _ hk => ⟨hk.1.imp_right fun h => ⟨h.1, Nat.lt_of_lt_of_le h.2 f.size⟩, hk.2⟩) f (fun _ _ h => h)
theorem put_next2 {w w1 w2 : World} {S : Nat → Prop} {g a0 : Nat} {L : List Int} (ha : a0 < w1.heap.size) (f1 : Fr S w w1) (h2 : IsW w2 (Gro (Ex S w w1 a0) w1 w2) g L) (f2 : Fr (Ex S w w1 a0) w1 w2) : IsW w2 (Ex S w w2 a0) g L ∧ Fr S w w2 := by
  have s1 := f1.size
  have s2 := f2.size
  refine ⟨isW_mono h2 fun k hk => ?_, f1.then_ f2 fun k hk => ?_⟩
  · rcases hk with ⟨h | h, hn⟩ | h
    · exact ⟨.inl h, hn⟩
    · exact ⟨.inr ⟨h.1, by omega⟩, hn⟩
    · exact ⟨.inr ⟨by omega, h.2⟩, by omega⟩
  · rcases hk with ⟨h | h, _⟩
    · exact .inl h
    · exact .inr h.1
theorem put_step2 {w wk W w2 : World} {S : Nat → Prop} {g a0 : Nat} {L : List Int} (ha : a0 < wk.heap.size) (f0 : Fr S w wk) (fm : Fr (fun _ => False) wk W) (h2 : IsW w2 (Gro (Ex S w W a0) W w2) g L) (f2 : Fr (Ex S w W a0) W w2) :
    IsW w2 (Ex S w w2 a0) g L ∧ Fr S w w2 ∧ a0 < w2.heap.size ∧ ∀ i v, wk.cell? ⟨a0, i, none⟩ = some v → w2.cell? ⟨a0, i, none⟩ = some v := by
  have s1 := fm.size
  have s2 := f2.size
  obtain ⟨p1, p2⟩ := put_next2 (by omega) (f0.then_ fm (fun _ h => h.elim)) h2 f2
  exact ⟨p1, p2, by omega, fun i v h => f2.cell (fm.cell h (fun h => h)) (fun h => h.2 rfl)⟩
end Go.Proofs.Ytfmcimngogibkaa
