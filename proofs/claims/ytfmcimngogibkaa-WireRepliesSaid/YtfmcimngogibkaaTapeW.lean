/- Walks of tape.Writer. -/
import Derived.Test.YtfmcimngogibkaaProg
import Derived.Test.YtfmcimngogibkaaBase
import Derived.KernelRfl
import Derived.BigQuiet
import Derived.Deep.RegionLaw
import Derived.Lib.Hide
set_option linter.unusedSimpArgs false
set_option linter.unusedVariables false
namespace Go.Proofs.Ytfmcimngogibkaa
open Go.RowKit

theorem Try.infoU8 : (Try.prog.info? 5).map (fun i => (i.zero, i.size, i.bytes)) = some (some (.int .u8 0), 1, 1) := by kernel_rfl

/-- A string's bytes. -/
def numsOf (s : ByteArray) : List Int := s.data.toList.map fun c => (c.toNat : Int)

/-- A writer at block g, whose blocks lie in S, holds bytes l. -/
def IsW (w : World) (S : Nat → Prop) (g : Nat) (l : List Int) : Prop :=
  ∃ v, w.heap[g]? = some (.cells #[v] 67 (0, 0)) ∧ w.ownsRow 0 5 1 v l.length (l.map (Value.int .u8)) ∧ S g ∧ (∀ k, v.ownBlock = some k → S k ∧ k ≠ g)

theorem isW_gro {w : World} {S : Nat → Prop} {g : Nat} {l : List Int} (h : IsW w S g l) : IsW w (Gro S w w) g l := by
  obtain ⟨v, hb, ho, hg, hv⟩ := h
  exact ⟨v, hb, ho, .inl hg, fun k hk => ⟨.inl (hv k hk).1, (hv k hk).2⟩⟩

/-- What an append and the store of the new slice leave. -/
theorem isW_push {w wr W0 w2 : World} {S : Nat → Prop} {g cap2 N : Nat} {a2 : Option Addr} {v : Value} {xs : List Value} (m : List Int) (hb : wr.heap[g]? = some (.cells #[v] 67 (0, 0)))
    (hSg : Gro S w wr g) (hSv : ∀ k, v.ownBlock = some k → Gro S w wr k ∧ k ≠ g) (hf : Fr S w wr) (h0 : Fr (fun _ => False) wr W0)
    (hown2 : w2.ownsRow 0 5 1 (.slice a2 N cap2) N xs) (hN : N = m.length) (hx : xs = m.map (Value.int .u8)) (hf2 : Fr (fun k => v.ownBlock = some k) W0 w2) (hat2 : ∀ k, (Value.slice a2 N cap2).ownBlock = some k → v.ownBlock = some k ∨ W0.heap.size ≤ k) :
    IsW (w2.setCell ⟨g, 0, none⟩ (.slice a2 N cap2)) (Gro S w (w2.setCell ⟨g, 0, none⟩ (.slice a2 N cap2))) g m ∧ Fr S w (w2.setCell ⟨g, 0, none⟩ (.slice a2 N cap2)) := by
  subst hN
  subst hx
  have hg : g < wr.heap.size := blk_lt hb
  have hs0 := h0.size
  have hs2 := hf2.size
  have hs := hf.size
  have hne : ¬ v.ownBlock = some g := fun he => (hSv g he).2 rfl
  have hb2 : w2.heap[g]? = some (.cells #[v] 67 (0, 0)) := hf2.blk (h0.blk hb (fun h => h)) hne
  have h2g : ∀ k, (Value.slice a2 m.length cap2).ownBlock = some k → k ≠ g := fun k hk => by rcases hat2 k hk with h | h; (exact (hSv k h).2); omega
  have hfr : Fr S w w2 := (hf.then_ h0 (fun _ h => h.elim)).then_ hf2 (fun k hk => (hSv k hk).1.imp id (fun h => h.1))
  have hsz : (w2.setCell ⟨g, 0, none⟩ (.slice a2 m.length cap2)).heap.size = w2.heap.size := by simp [World.setCell]
  have gro : ∀ k, Gro S w wr k → Gro S w (w2.setCell ⟨g, 0, none⟩ (.slice a2 m.length cap2)) k := fun k hk => hk.imp id (fun h => ⟨h.1, by omega⟩)
  refine ⟨⟨_, blk_set hb2 0 _, own_fr hown2 ((Fr.refl (fun k => k = g) w2).setCell (.inl rfl) _) (fun k hk => h2g k hk), gro g hSg, fun k hk => ?_⟩, hfr.setCell (p := ⟨g, 0, none⟩) (hSg.imp id (fun h => h.1)) _⟩
  have hk2 := own_lt hown2 hk
  refine ⟨?_, h2g k hk⟩
  rcases hat2 k hk with h | h
  · exact gro _ (hSv k h).1
  · exact .inr ⟨by omega, by omega⟩

/-- byte i of a number. -/
def byteAt (n : Int) (i : Nat) : Int := (n / 2 ^ (8 * i)) % 256
def bytesOf (n : Int) (k : Nat) : List Int := (List.range k).map (byteAt n)
theorem blen (n : Int) (k : Nat) : (bytesOf n k).length = k := by simp [bytesOf]
theorem bytesOf_succ (n : Int) (k : Nat) : bytesOf n (k + 1) = bytesOf n k ++ [byteAt n k] := by simp [bytesOf, List.range_succ]
theorem byte_wrap (n : Int) (k : Nat) : IntKind.u8.wrap (n / 2 ^ (8 * (k : Int)).toNat) = byteAt n k := by
  have e : (8 * (k : Int)).toNat = 8 * k := by omega
  rw [e]
  simp [IntKind.wrap, IntKind.bits, IntKind.signed, byteAt]

def clamp (size : Int) : Nat := (min (max size 1) 8).toNat

set_option maxHeartbeats 800000 in
theorem wInt_lo (w : World) (S : Nat → Prop) (g : Nat) (l : List Int) (size n : Int) (h : IsW w S g l) (hl : l.length + 8 ≤ 140737488355328) (h0 : size < 1) :
    Calls Try.prog 26 #[.pointer (some ⟨g, 0, none⟩), .int .i64 size, .int .i64 n] w fun e w' => e = .returned (.tuple #[]) ∧ IsW w' (Gro S w w') g (l ++ bytesOf n (1 : Int).toNat) ∧ Fr S w w' := by
  obtain ⟨i0, hi, hz0, hz1, hz2⟩ := info_parts Try.infoU8
  have Hw := Lib.hid h
  clear h
  go_enter Try.func26, Try.ntmps26
  go_wp2
  go_loopw [10] (fun i wr => ∃ k : Nat, (k : Int) ≤ 1 ∧ i = .int .i64 k ∧ IsW wr (Gro S w wr) g (l ++ bytesOf n k) ∧ Fr S w wr)
    (fun i _ => (1 - intOf i).toNat)
  case atStart => exact ⟨0, by omega, rfl, by simpa [bytesOf] using isW_gro Hw.out, Fr.refl _ _⟩
  case round =>
    obtain ⟨k, hk, rfl, hw, hf⟩ := hrel
    by_cases hlt : (k : Int) < 1
    · obtain ⟨v, hb, hown, hSg, hSv⟩ := hw
      obtain ⟨N, hN⟩ : ∃ N, (l ++ bytesOf n k).length = N := ⟨_, rfl⟩
      rw [hN] at hown
      have HN : N = l.length + k := by rw [← hN]; simp [blen]
      have hNl : N + 1 ≤ 140737488355328 := by omega
      have HNh := Lib.hid HN
      clear hN HN
      have c0 := blk_cell hb 0 rfl
      have f0 := blk_free hb 0
      have Hb := Lib.hid hb
      have Ho := Lib.hid hown
      have Hf := Lib.hid hf
      have Hsv := Lib.hid hSv
      have Hsg := Lib.hid hSg
      clear hb hown hf hSv hSg Hw
      have Hne := Lib.hid (show ¬ v.ownBlock = some g from fun he => (Hsv.out g he).2 rfl)
      have e8 : IntKind.i64.wrap (8 * (k : Int)) = 8 * k := IntWalk.i64_in _ (by omega)
      have p8 : 0 ≤ 8 * (k : Int) := by omega
      have ca := blk_cell (blk_alloc (w := wr) Hb.out (.cells #[.int .u8 (IntKind.u8.wrap (n / 2 ^ (8 * (k : Int)).toNat))] 5)) 0 rfl
      go_wp2
      go_region_law (first | (refine step_append_fresh _ wr.drew rfl (.tmp 17) (.tmp 23) 43 rfl 5 i0 (.int .u8 0) 1 1 Try.underlying43 hi hz0 hz1 hz2 rfl (by decide) v _ _ (by simp [Act.eval, Act.put]) Ho.out.drew #[.int .u8 (IntKind.u8.wrap (n / 2 ^ (8 * (k : Int)).toNat))] rfl (by simp [Act.eval, Act.put]) rfl (by intro u hu; simp at hu; subst hu; rfl) (by omega) (by omega) ?_; intro g2 cap2 w2 hown2 hf2 hat2; have hb' := hf2.blk (blk_alloc (w := wr.drew) Hb.out _) (Hne.out); have c0' := blk_cell hb' 0 rfl; have f0' := blk_free hb' 0))
      all_goals
        have R := isW_push (l ++ bytesOf n (k + 1)) Hb.out Hsg.out Hsv.out Hf.out (((Fr.refl _ wr).alloc _).drew) hown2 (by have := HNh.out; simp [blen]; omega) (by simp [bytesOf_succ, byte_wrap]) hf2 hat2
        have HR := Lib.hid R
        clear R hown2 hf2 hat2
        go_wp2
        go_roundw
        case rel => exact ⟨k + 1, by omega, by go_num, HR.out⟩
        case measure => simp [intOf]; omega
    · go_wp2
      go_end0
      obtain rfl : k = (1 : Int).toNat := by omega
      exact ⟨rfl, hw, hf⟩
set_option maxHeartbeats 800000 in
theorem wInt_mid (w : World) (S : Nat → Prop) (g : Nat) (l : List Int) (size n : Int) (h : IsW w S g l) (hl : l.length + 8 ≤ 140737488355328) (h1 : 1 ≤ size) (h8 : size ≤ 8) :
    Calls Try.prog 26 #[.pointer (some ⟨g, 0, none⟩), .int .i64 size, .int .i64 n] w fun e w' => e = .returned (.tuple #[]) ∧ IsW w' (Gro S w w') g (l ++ bytesOf n (size : Int).toNat) ∧ Fr S w w' := by
  obtain ⟨i0, hi, hz0, hz1, hz2⟩ := info_parts Try.infoU8
  have Hw := Lib.hid h
  clear h
  go_enter Try.func26, Try.ntmps26
  go_wp2
  go_loopw [10] (fun i wr => ∃ k : Nat, (k : Int) ≤ size ∧ i = .int .i64 k ∧ IsW wr (Gro S w wr) g (l ++ bytesOf n k) ∧ Fr S w wr)
    (fun i _ => (size - intOf i).toNat)
  case atStart => exact ⟨0, by omega, rfl, by simpa [bytesOf] using isW_gro Hw.out, Fr.refl _ _⟩
  case round =>
    obtain ⟨k, hk, rfl, hw, hf⟩ := hrel
    by_cases hlt : (k : Int) < size
    · obtain ⟨v, hb, hown, hSg, hSv⟩ := hw
      obtain ⟨N, hN⟩ : ∃ N, (l ++ bytesOf n k).length = N := ⟨_, rfl⟩
      rw [hN] at hown
      have HN : N = l.length + k := by rw [← hN]; simp [blen]
      have hNl : N + 1 ≤ 140737488355328 := by omega
      have HNh := Lib.hid HN
      clear hN HN
      have c0 := blk_cell hb 0 rfl
      have f0 := blk_free hb 0
      have Hb := Lib.hid hb
      have Ho := Lib.hid hown
      have Hf := Lib.hid hf
      have Hsv := Lib.hid hSv
      have Hsg := Lib.hid hSg
      clear hb hown hf hSv hSg Hw
      have Hne := Lib.hid (show ¬ v.ownBlock = some g from fun he => (Hsv.out g he).2 rfl)
      have e8 : IntKind.i64.wrap (8 * (k : Int)) = 8 * k := IntWalk.i64_in _ (by omega)
      have p8 : 0 ≤ 8 * (k : Int) := by omega
      have ca := blk_cell (blk_alloc (w := wr) Hb.out (.cells #[.int .u8 (IntKind.u8.wrap (n / 2 ^ (8 * (k : Int)).toNat))] 5)) 0 rfl
      go_wp2
      go_region_law (first | (refine step_append_fresh _ wr.drew rfl (.tmp 17) (.tmp 23) 43 rfl 5 i0 (.int .u8 0) 1 1 Try.underlying43 hi hz0 hz1 hz2 rfl (by decide) v _ _ (by simp [Act.eval, Act.put]) Ho.out.drew #[.int .u8 (IntKind.u8.wrap (n / 2 ^ (8 * (k : Int)).toNat))] rfl (by simp [Act.eval, Act.put]) rfl (by intro u hu; simp at hu; subst hu; rfl) (by omega) (by omega) ?_; intro g2 cap2 w2 hown2 hf2 hat2; have hb' := hf2.blk (blk_alloc (w := wr.drew) Hb.out _) (Hne.out); have c0' := blk_cell hb' 0 rfl; have f0' := blk_free hb' 0))
      all_goals
        have R := isW_push (l ++ bytesOf n (k + 1)) Hb.out Hsg.out Hsv.out Hf.out (((Fr.refl _ wr).alloc _).drew) hown2 (by have := HNh.out; simp [blen]; omega) (by simp [bytesOf_succ, byte_wrap]) hf2 hat2
        have HR := Lib.hid R
        clear R hown2 hf2 hat2
        go_wp2
        go_roundw
        case rel => exact ⟨k + 1, by omega, by go_num, HR.out⟩
        case measure => simp [intOf]; omega
    · go_wp2
      go_end0
      obtain rfl : k = (size : Int).toNat := by omega
      exact ⟨rfl, hw, hf⟩
set_option maxHeartbeats 800000 in
theorem wInt_hi (w : World) (S : Nat → Prop) (g : Nat) (l : List Int) (size n : Int) (h : IsW w S g l) (hl : l.length + 8 ≤ 140737488355328) (h8 : 8 < size) :
    Calls Try.prog 26 #[.pointer (some ⟨g, 0, none⟩), .int .i64 size, .int .i64 n] w fun e w' => e = .returned (.tuple #[]) ∧ IsW w' (Gro S w w') g (l ++ bytesOf n (8 : Int).toNat) ∧ Fr S w w' := by
  obtain ⟨i0, hi, hz0, hz1, hz2⟩ := info_parts Try.infoU8
  have Hw := Lib.hid h
  clear h
  go_enter Try.func26, Try.ntmps26
  go_wp2
  go_loopw [10] (fun i wr => ∃ k : Nat, (k : Int) ≤ 8 ∧ i = .int .i64 k ∧ IsW wr (Gro S w wr) g (l ++ bytesOf n k) ∧ Fr S w wr)
    (fun i _ => (8 - intOf i).toNat)
  case atStart => exact ⟨0, by omega, rfl, by simpa [bytesOf] using isW_gro Hw.out, Fr.refl _ _⟩
  case round =>
    obtain ⟨k, hk, rfl, hw, hf⟩ := hrel
    by_cases hlt : (k : Int) < 8
    · obtain ⟨v, hb, hown, hSg, hSv⟩ := hw
      obtain ⟨N, hN⟩ : ∃ N, (l ++ bytesOf n k).length = N := ⟨_, rfl⟩
      rw [hN] at hown
      have HN : N = l.length + k := by rw [← hN]; simp [blen]
      have hNl : N + 1 ≤ 140737488355328 := by omega
      have HNh := Lib.hid HN
      clear hN HN
      have c0 := blk_cell hb 0 rfl
      have f0 := blk_free hb 0
      have Hb := Lib.hid hb
      have Ho := Lib.hid hown
      have Hf := Lib.hid hf
      have Hsv := Lib.hid hSv
      have Hsg := Lib.hid hSg
      clear hb hown hf hSv hSg Hw
      have Hne := Lib.hid (show ¬ v.ownBlock = some g from fun he => (Hsv.out g he).2 rfl)
      have e8 : IntKind.i64.wrap (8 * (k : Int)) = 8 * k := IntWalk.i64_in _ (by omega)
      have p8 : 0 ≤ 8 * (k : Int) := by omega
      have ca := blk_cell (blk_alloc (w := wr) Hb.out (.cells #[.int .u8 (IntKind.u8.wrap (n / 2 ^ (8 * (k : Int)).toNat))] 5)) 0 rfl
      go_wp2
      go_region_law (first | (refine step_append_fresh _ wr.drew rfl (.tmp 17) (.tmp 23) 43 rfl 5 i0 (.int .u8 0) 1 1 Try.underlying43 hi hz0 hz1 hz2 rfl (by decide) v _ _ (by simp [Act.eval, Act.put]) Ho.out.drew #[.int .u8 (IntKind.u8.wrap (n / 2 ^ (8 * (k : Int)).toNat))] rfl (by simp [Act.eval, Act.put]) rfl (by intro u hu; simp at hu; subst hu; rfl) (by omega) (by omega) ?_; intro g2 cap2 w2 hown2 hf2 hat2; have hb' := hf2.blk (blk_alloc (w := wr.drew) Hb.out _) (Hne.out); have c0' := blk_cell hb' 0 rfl; have f0' := blk_free hb' 0))
      all_goals
        have R := isW_push (l ++ bytesOf n (k + 1)) Hb.out Hsg.out Hsv.out Hf.out (((Fr.refl _ wr).alloc _).drew) hown2 (by have := HNh.out; simp [blen]; omega) (by simp [bytesOf_succ, byte_wrap]) hf2 hat2
        have HR := Lib.hid R
        clear R hown2 hf2 hat2
        go_wp2
        go_roundw
        case rel => exact ⟨k + 1, by omega, by go_num, HR.out⟩
        case measure => simp [intOf]; omega
    · go_wp2
      go_end0
      obtain rfl : k = (8 : Int).toNat := by omega
      exact ⟨rfl, hw, hf⟩
/-- Int puts the lowest bytes of a number. -/
theorem wInt_any (w : World) (S : Nat → Prop) (g : Nat) (l : List Int) (size n : Int) (h : IsW w S g l) (hl : l.length + 8 ≤ 140737488355328) :
    Calls Try.prog 26 #[.pointer (some ⟨g, 0, none⟩), .int .i64 size, .int .i64 n] w fun e w' => e = .returned (.tuple #[]) ∧ IsW w' (Gro S w w') g (l ++ bytesOf n (clamp size)) ∧ Fr S w w' := by
  unfold clamp
  by_cases h0 : size < 1
  · have e : (min (max size 1) 8).toNat = (1 : Int).toNat := by omega
    rw [e]; exact wInt_lo w S g l size n h hl h0
  · by_cases h8 : size ≤ 8
    · have e : (min (max size 1) 8).toNat = size.toNat := by omega
      rw [e]; exact wInt_mid w S g l size n h hl (by omega) h8
    · have e : (min (max size 1) 8).toNat = (8 : Int).toNat := by omega
      rw [e]; exact wInt_hi w S g l size n h hl (by omega)

set_option maxHeartbeats 800000 in
theorem wFlag_any (w : World) (S : Nat → Prop) (g : Nat) (l : List Int) (yes : Bool) (h : IsW w S g l) (hl : l.length + 8 ≤ 140737488355328) :
    Calls Try.prog 56 #[.pointer (some ⟨g, 0, none⟩), .bool yes] w fun e w' => e = .returned (.tuple #[]) ∧ IsW w' (Gro S w w') g (l ++ [if yes then 1 else 0]) ∧ Fr S w w' := by
  have Hw := Lib.hid h
  clear h
  have b0 : bytesOf 0 (clamp 1) = [0] := by decide
  have b1 : bytesOf 1 (clamp 1) = [1] := by decide
  have Hb0 := Lib.hid b0
  have Hb1 := Lib.hid b1
  clear b0 b1
  cases yes
  all_goals
    go_enter Try.func56, Try.ntmps56
    go_wp2_with (go_at_call 26; refine (wInt_any _ S g l 1 _ Hw.out hl).mono ?_; rintro e w' ⟨rfl, hw, hf⟩)
    go_end0
    first
      | exact ⟨rfl, by have := Hb0.out; rw [this] at hw; exact hw, hf⟩
      | exact ⟨rfl, by have := Hb1.out; rw [this] at hw; exact hw, hf⟩

theorem wString_any (w : World) (S : Nat → Prop) (g : Nat) (l : List Int) (h : IsW w S g l) :
    Calls Try.prog 31 #[.pointer (some ⟨g, 0, none⟩)] w fun e w' => e = .returned (.string (strOfNums l)) ∧ w' = w := by
  obtain ⟨v, hb, hown, hSg, hSv⟩ := h
  obtain ⟨a, cap, rfl, _, _⟩ := own_form hown
  have c0 := blk_cell hb 0 rfl
  have hcv := run_convert_own (P := Try.prog) hown 43 5 Try.underlying43 Try.underlying5 9 Try.underlying9
  clear hb hown hSg hSv
  go_enter Try.func31, Try.ntmps31
  go_wp2
  go_ret
  exact ⟨rfl, rfl⟩

theorem strCells_nums (s : ByteArray) : Lib.strCells s = (numsOf s).map (Value.int .u8) := by
  unfold Lib.strCells numsOf
  rw [List.map_map]
  rfl
theorem numsOf_length (s : ByteArray) : (numsOf s).length = s.size := by
  unfold numsOf
  rw [List.length_map]
  rfl

end Go.Proofs.Ytfmcimngogibkaa
