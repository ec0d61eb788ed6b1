/- The references of layers 1 and 3: Int, Back, Bit, Bytes. -/
import Derived.Test.YtfmcimngogibkaaTapeN
set_option linter.unusedSimpArgs false
set_option linter.unusedVariables false
namespace Go.Proofs.Ytfmcimngogibkaa
open Go.RowKit

theorem strOf_append (a b : List Int) : strOfNums a ++ strOfNums b = strOfNums (a ++ b) := by
  apply ByteArray.ext
  simp [strOfNums]
theorem conv_one {P : Program} (src e : TypeId) (hs : P.underlying src = some (.slice e)) (he : P.underlying e = some (.int .u8)) (dst : TypeId) (hd : P.underlying dst = some .string) (W : World) (x : Int) :
    (convert src dst (.slice (some ⟨W.heap.size, 0, none⟩) 1 1)).run P (W.alloc (.cells #[.int .u8 x] e)) = .ok (.string (strOfNums [x])) (W.alloc (.cells #[.int .u8 x] e)) :=
  run_convert_bytes_arg _ src e hs he W.heap.size 0 1 1 [x] rfl (fun i hi => by
    obtain rfl : i = 0 := by omega
    exact blk_cell (heap_alloc_new W _) 0 rfl) dst hd
theorem byte_div (n : Int) {k : Nat} (hk : k < 8) : n % 18446744073709551616 / 2 ^ (8 * k) % 256 = byteAt n k := by
  unfold byteAt
  have e : (2 : Int) ^ (8 * k) * 2 ^ (64 - 8 * k) = 18446744073709551616 := by
    rw [← Int.pow_add, show 8 * k + (64 - 8 * k) = 64 by omega]; rfl
  have e2 : (2 : Int) ^ (64 - 8 * k) = 256 * 2 ^ (56 - 8 * k) := by
    rw [show 64 - 8 * k = 8 + (56 - 8 * k) by omega, Int.pow_add]; rfl
  have h1 := Int.emod_def n 18446744073709551616
  have hp : (0 : Int) < 2 ^ (8 * k) := Int.pow_pos (by decide)
  have h2 : n % 18446744073709551616 = n + 2 ^ (8 * k) * (256 * (- (2 ^ (56 - 8 * k) * (n / 18446744073709551616)))) := by
    rw [h1]
    have : (2 : Int) ^ (8 * k) * (256 * (- (2 ^ (56 - 8 * k) * (n / 18446744073709551616)))) = - (2 ^ (8 * k) * (256 * 2 ^ (56 - 8 * k)) * (n / 18446744073709551616)) := by
      rw [Int.mul_neg, Int.mul_neg, ← Int.mul_assoc, ← Int.mul_assoc, ← Int.mul_assoc]
    rw [this, ← e2, e]
    omega
  rw [h2, Int.add_mul_ediv_left _ _ (Int.ne_of_gt hp), Int.add_mul_emod_self_left]
theorem div_div (n : Int) (k : Nat) : n / 2 ^ (8 * k) / 256 = n / 2 ^ (8 * (k + 1)) := by
  have e : (2 : Int) ^ (8 * (k + 1)) = 2 ^ (8 * k) * 256 := by rw [show 8 * (k + 1) = 8 * k + 8 by omega, Int.pow_add]; rfl
  rw [e, Int.ediv_ediv_of_nonneg (Int.le_of_lt (Int.pow_pos (by decide)))]

set_option maxHeartbeats 1600000 in
theorem refInt_lo (w : World) (size n : Int) (h0 : size < 1) :
    Calls Try.prog 46 #[.int .i64 size, .int .i64 n] w fun e w' => e = .returned (.string (strOfNums (bytesOf n (1 : Int).toNat))) ∧ Fr (fun _ => False) w w' := by
  go_enter Try.func46, Try.ntmps46
  go_wp2
  go_loopw [6, 7, 8] (fun u s i wr => ∃ k : Nat, (k : Int) ≤ 1 ∧ i = .int .i64 k ∧ u = .int .u64 (n % 18446744073709551616 / 2 ^ (8 * k)) ∧ s = .string (strOfNums (bytesOf n k)) ∧ Fr (fun _ => False) w wr)
    (fun _ _ i _ => (1 - intOf i).toNat)
  case atStart => exact ⟨0, by omega, rfl, by rw [IntKind.wrap_u64]; simp, by simp [bytesOf, strOfNums], Fr.refl _ _⟩
  case round =>
    obtain ⟨k, hk, rfl, rfl, rfl, hf⟩ := hrel
    have Hf := Lib.hid hf
    clear hf
    by_cases hlt : (k : Int) < 1
    · obtain ⟨u, hu⟩ : ∃ u, n % 18446744073709551616 / 2 ^ (8 * k) = u := ⟨_, rfl⟩
      have Hu := Lib.hid hu
      rw [hu]
      have hp : (0 : Int) < 2 ^ (8 * k) := Int.pow_pos (by decide)
      have u0 : 0 ≤ u := by rw [← hu]; exact Int.ediv_nonneg (by omega) (by omega)
      have u1 : u < 18446744073709551616 := by rw [← hu]; exact Int.lt_of_le_of_lt (Int.ediv_le_self _ (by omega)) (by omega)
      clear hu hp
      have hc := conv_one (P := Try.prog) 43 5 Try.underlying43 Try.underlying5 9 Try.underlying9 wr (u % 256)
      have s1 := strOfNums_size (bytesOf n k)
      have s2 := strOfNums_size [u % 256]
      have s3 := blen n k
      go_wp2
      go_roundw
      case rel =>
        refine ⟨k + 1, by omega, by go_num, ?_, ?_, Hf.out.alloc _⟩
        · rw [← div_div, ← Hu.out]
        · rw [strOf_append, bytesOf_succ, ← byte_div n (by omega), Hu.out]
      case measure => simp [intOf]; omega
    · obtain rfl : k = (1 : Int).toNat := by omega
      go_wp2
      go_ret
      exact ⟨rfl, Hf.out⟩
set_option maxHeartbeats 1600000 in
theorem refInt_mid (w : World) (size n : Int) (h1 : 1 ≤ size) (h8 : size ≤ 8) :
    Calls Try.prog 46 #[.int .i64 size, .int .i64 n] w fun e w' => e = .returned (.string (strOfNums (bytesOf n (size : Int).toNat))) ∧ Fr (fun _ => False) w w' := by
  go_enter Try.func46, Try.ntmps46
  go_wp2
  go_loopw [6, 7, 8] (fun u s i wr => ∃ k : Nat, (k : Int) ≤ size ∧ i = .int .i64 k ∧ u = .int .u64 (n % 18446744073709551616 / 2 ^ (8 * k)) ∧ s = .string (strOfNums (bytesOf n k)) ∧ Fr (fun _ => False) w wr)
    (fun _ _ i _ => (size - intOf i).toNat)
  case atStart => exact ⟨0, by omega, rfl, by rw [IntKind.wrap_u64]; simp, by simp [bytesOf, strOfNums], Fr.refl _ _⟩
  case round =>
    obtain ⟨k, hk, rfl, rfl, rfl, hf⟩ := hrel
    have Hf := Lib.hid hf
    clear hf
    by_cases hlt : (k : Int) < size
    · obtain ⟨u, hu⟩ : ∃ u, n % 18446744073709551616 / 2 ^ (8 * k) = u := ⟨_, rfl⟩
      have Hu := Lib.hid hu
      rw [hu]
      have hp : (0 : Int) < 2 ^ (8 * k) := Int.pow_pos (by decide)
      have u0 : 0 ≤ u := by rw [← hu]; exact Int.ediv_nonneg (by omega) (by omega)
      have u1 : u < 18446744073709551616 := by rw [← hu]; exact Int.lt_of_le_of_lt (Int.ediv_le_self _ (by omega)) (by omega)
      clear hu hp
      have hc := conv_one (P := Try.prog) 43 5 Try.underlying43 Try.underlying5 9 Try.underlying9 wr (u % 256)
      have s1 := strOfNums_size (bytesOf n k)
      have s2 := strOfNums_size [u % 256]
      have s3 := blen n k
      go_wp2
      go_roundw
      case rel =>
        refine ⟨k + 1, by omega, by go_num, ?_, ?_, Hf.out.alloc _⟩
        · rw [← div_div, ← Hu.out]
        · rw [strOf_append, bytesOf_succ, ← byte_div n (by omega), Hu.out]
      case measure => simp [intOf]; omega
    · obtain rfl : k = (size : Int).toNat := by omega
      go_wp2
      go_ret
      exact ⟨rfl, Hf.out⟩
set_option maxHeartbeats 1600000 in
theorem refInt_hi (w : World) (size n : Int) (h8 : 8 < size) :
    Calls Try.prog 46 #[.int .i64 size, .int .i64 n] w fun e w' => e = .returned (.string (strOfNums (bytesOf n (8 : Int).toNat))) ∧ Fr (fun _ => False) w w' := by
  go_enter Try.func46, Try.ntmps46
  go_wp2
  go_loopw [6, 7, 8] (fun u s i wr => ∃ k : Nat, (k : Int) ≤ 8 ∧ i = .int .i64 k ∧ u = .int .u64 (n % 18446744073709551616 / 2 ^ (8 * k)) ∧ s = .string (strOfNums (bytesOf n k)) ∧ Fr (fun _ => False) w wr)
    (fun _ _ i _ => (8 - intOf i).toNat)
  case atStart => exact ⟨0, by omega, rfl, by rw [IntKind.wrap_u64]; simp, by simp [bytesOf, strOfNums], Fr.refl _ _⟩
  case round =>
    obtain ⟨k, hk, rfl, rfl, rfl, hf⟩ := hrel
    have Hf := Lib.hid hf
    clear hf
    by_cases hlt : (k : Int) < 8
    · obtain ⟨u, hu⟩ : ∃ u, n % 18446744073709551616 / 2 ^ (8 * k) = u := ⟨_, rfl⟩
      have Hu := Lib.hid hu
      rw [hu]
      have hp : (0 : Int) < 2 ^ (8 * k) := Int.pow_pos (by decide)
      have u0 : 0 ≤ u := by rw [← hu]; exact Int.ediv_nonneg (by omega) (by omega)
      have u1 : u < 18446744073709551616 := by rw [← hu]; exact Int.lt_of_le_of_lt (Int.ediv_le_self _ (by omega)) (by omega)
      clear hu hp
      have hc := conv_one (P := Try.prog) 43 5 Try.underlying43 Try.underlying5 9 Try.underlying9 wr (u % 256)
      have s1 := strOfNums_size (bytesOf n k)
      have s2 := strOfNums_size [u % 256]
      have s3 := blen n k
      go_wp2
      go_roundw
      case rel =>
        refine ⟨k + 1, by omega, by go_num, ?_, ?_, Hf.out.alloc _⟩
        · rw [← div_div, ← Hu.out]
        · rw [strOf_append, bytesOf_succ, ← byte_div n (by omega), Hu.out]
      case measure => simp [intOf]; omega
    · obtain rfl : k = (8 : Int).toNat := by omega
      go_wp2
      go_ret
      exact ⟨rfl, Hf.out⟩

theorem refInt_any (w : World) (size n : Int) :
    Calls Try.prog 46 #[.int .i64 size, .int .i64 n] w fun e w' => e = .returned (.string (strOfNums (bytesOf n (clampN size)))) ∧ Fr (fun _ => False) w w' := by
  unfold clampN
  by_cases h0 : size < 1
  · have e : (min (max size 1) 8).toNat = (1 : Int).toNat := by omega
    rw [e]; exact refInt_lo w size n h0
  · by_cases h8 : size ≤ 8
    · have e : (min (max size 1) 8).toNat = size.toNat := by omega
      rw [e]; exact refInt_mid w size n (by omega) h8
    · have e : (min (max size 1) 8).toNat = (8 : Int).toNat := by omega
      rw [e]; exact refInt_hi w size n (by omega)

theorem le_drop {l : List Int} {k : Nat} (h : k < l.length) : le (l.drop k) = l[k] + 256 * le (l.drop (k + 1)) := by
  rw [List.drop_eq_getElem_cons h, le]

/-- One of 128 bits. -/
def bitAt (hi lo : Int) (i : Nat) : Int := if 64 ≤ i then hi / 2 ^ (i - 64) % 2 else lo / 2 ^ i % 2
set_option maxHeartbeats 1600000 in
theorem refBit_any (w : World) (hi lo : Int) (i : Nat) (h1 : 0 ≤ hi) (h2 : hi < 18446744073709551616) (h3 : 0 ≤ lo) (h4 : lo < 18446744073709551616) (hi128 : i < 128) :
    Calls Try.prog 61 #[.agg #[.int .u64 hi, .int .u64 lo], .int .i64 i] w fun e w' => e = .returned (.int .i64 (bitAt hi lo i)) ∧ Fr (fun _ => False) w w' := by
  unfold bitAt
  by_cases hc : 64 ≤ i
  · obtain ⟨j, rfl⟩ : ∃ j, i = j + 64 := ⟨i - 64, by omega⟩
    have e1 : ((j + 64 : Nat) : Int) = (j : Int) + 64 := by omega
    rw [e1, if_pos hc, show j + 64 - 64 = j by omega]
    have a1 : (64 : Int) ≤ (j : Int) + 64 := by omega
    have e2 : (j : Int) + 64 - 64 = j := by omega
    have m1 : min (j : Int).toNat 64 = j := by omega
    have b1 : (j : Int) < 64 := by omega
    have q0 : 0 ≤ hi / 2 ^ j := Int.ediv_nonneg h1 (Int.le_of_lt (Int.pow_pos (by decide)))
    have q1 : hi / 2 ^ j < 18446744073709551616 := Int.lt_of_le_of_lt (Int.ediv_le_self _ h1) h2
    go_enter Try.func61, Try.ntmps61
    go_wp2
    go_ret
    exact ⟨rfl, (Fr.refl _ w).alloc _⟩
  · rw [if_neg hc]
    have a1 : ¬ (64 : Int) ≤ (i : Int) := by omega
    have b1 : (i : Int) < 64 := by omega
    have m1 : min (i : Int).toNat 64 = i := by omega
    have q0 : 0 ≤ lo / 2 ^ i := Int.ediv_nonneg h3 (Int.le_of_lt (Int.pow_pos (by decide)))
    have q1 : lo / 2 ^ i < 18446744073709551616 := Int.lt_of_le_of_lt (Int.ediv_le_self _ h3) h4
    go_enter Try.func61, Try.ntmps61
    go_wp2
    go_ret
    exact ⟨rfl, (Fr.refl _ w).alloc _⟩

/-- A bit of a number of 128 bits. -/
theorem bitAt_eq {hi lo : Int} {i : Nat} (h1 : 0 ≤ hi) (h3 : 0 ≤ lo) (h4 : lo < 18446744073709551616) : bitAt hi lo i = (lo + 18446744073709551616 * hi) / 2 ^ i % 2 := by
  unfold bitAt
  split
  · rename_i h
    have e : (2 : Int) ^ i = 18446744073709551616 * 2 ^ (i - 64) := by
      rw [show i = 64 + (i - 64) by omega, Int.pow_add, show 64 + (i - 64) - 64 = i - 64 by omega]; rfl
    rw [e, ← Int.ediv_ediv_of_nonneg (by decide)]
    congr 2
    omega
  · rename_i h
    have e : (18446744073709551616 : Int) = 2 ^ i * (2 * 2 ^ (63 - i)) := by
      rw [show (2 : Int) * 2 ^ (63 - i) = 2 ^ (64 - i) by rw [show 64 - i = 1 + (63 - i) by omega, Int.pow_add]; rfl, ← Int.pow_add, show i + (64 - i) = 64 by omega]; rfl
    have hp : (2 : Int) ^ i ≠ 0 := Int.ne_of_gt (Int.pow_pos (by decide))
    rw [e, Int.mul_assoc, Int.add_mul_ediv_left _ _ hp, Int.mul_assoc, Int.add_mul_emod_self_left]
theorem byteAt128 {hi lo : Int} {i : Nat} (hi16 : i < 16) (h1 : 0 ≤ hi) (h3 : 0 ≤ lo) (h4 : lo < 18446744073709551616) : (lo + 18446744073709551616 * hi) / 2 ^ (8 * i) % 256 = if i < 8 then byteAt lo i else byteAt hi (i - 8) := by
  unfold byteAt
  split
  · rename_i h
    have e : (18446744073709551616 : Int) = 2 ^ (8 * i) * (256 * 2 ^ (56 - 8 * i)) := by
      rw [show (256 : Int) * 2 ^ (56 - 8 * i) = 2 ^ (64 - 8 * i) by rw [show 64 - 8 * i = 8 + (56 - 8 * i) by omega, Int.pow_add]; rfl, ← Int.pow_add, show 8 * i + (64 - 8 * i) = 64 by omega]; rfl
    have hp : (2 : Int) ^ (8 * i) ≠ 0 := Int.ne_of_gt (Int.pow_pos (by decide))
    rw [e, Int.mul_assoc, Int.add_mul_ediv_left _ _ hp, Int.mul_assoc, Int.add_mul_emod_self_left]
  · rename_i h
    have e : (2 : Int) ^ (8 * i) = 18446744073709551616 * 2 ^ (8 * (i - 8)) := by
      rw [show 8 * i = 64 + 8 * (i - 8) by omega, Int.pow_add]; rfl
    rw [e, ← Int.ediv_ediv_of_nonneg (by decide)]
    congr 2
    omega
theorem bit_step (V : Int) (m p : Nat) (hp : p < 8) : V / 2 ^ m % 2 ^ (p + 1) = 2 * (V / 2 ^ (m + 1) % 2 ^ p) + V / 2 ^ m % 2 := by
  have e : V / 2 ^ (m + 1) = V / 2 ^ m / 2 := by
    rw [Int.pow_succ, ← Int.ediv_ediv_of_nonneg (Int.le_of_lt (Int.pow_pos (by decide)))]
  rw [e]
  generalize V / 2 ^ m = q
  have h : p = 0 ∨ p = 1 ∨ p = 2 ∨ p = 3 ∨ p = 4 ∨ p = 5 ∨ p = 6 ∨ p = 7 := by omega
  rcases h with rfl | rfl | rfl | rfl | rfl | rfl | rfl | rfl <;> simp <;> omega
theorem wideBytes_map {hi lo : Int} (h1 : 0 ≤ hi) (h3 : 0 ≤ lo) (h4 : lo < 18446744073709551616) : (List.range 16).map (fun i => (lo + 18446744073709551616 * hi) / 2 ^ (8 * i) % 256) = wideBytes hi lo := by
  have e : (List.range 16).map (fun i => (lo + 18446744073709551616 * hi) / 2 ^ (8 * i) % 256) = (List.range 16).map (fun i => if i < 8 then byteAt lo i else byteAt hi (i - 8)) :=
    List.map_congr_left (fun i hi => byteAt128 (by simpa using hi) h1 h3 h4)
  rw [e]
  rfl

set_option maxHeartbeats 3200000 in
theorem refBytes_any (w : World) (hi lo : Int) (h1 : 0 ≤ hi) (h2 : hi < 18446744073709551616) (h3 : 0 ≤ lo) (h4 : lo < 18446744073709551616) :
    Calls Try.prog 49 #[.agg #[.int .u64 hi, .int .u64 lo]] w fun e w' => e = .returned (.string (strOfNums (wideBytes hi lo))) ∧ Fr (fun _ => False) w w' := by
  obtain ⟨V, hV⟩ : ∃ V, lo + 18446744073709551616 * hi = V := ⟨_, rfl⟩
  have HV := Lib.hid hV
  have HM := Lib.hid (hV ▸ wideBytes_map h1 h3 h4)
  clear hV
  obtain ⟨B, hB⟩ : ∃ B, w.heap.size = B := ⟨_, rfl⟩
  have HB := Lib.hid hB
  go_enter Try.func49, Try.ntmps49
  go_wp2
  go_loopw [3, 4] (fun s i wr => ∃ k : Nat, k ≤ 16 ∧ i = .int .i64 k ∧ s = .string (strOfNums ((List.range k).map (fun i => V / 2 ^ (8 * i) % 256))) ∧ wr.heap[B]? = some (.cells #[.int .u64 hi, .int .u64 lo] 27 (0, 0)) ∧ Fr (fun _ => False) w wr)
    (fun _ i _ => (16 - intOf i).toNat)
  case atStart => exact ⟨0, by omega, rfl, by simp [strOfNums], by rw [← HB.out]; exact heap_alloc_new w _, (Fr.refl _ w).alloc _⟩
  case round =>
    obtain ⟨k, hk, rfl, rfl, hb, hf⟩ := hrel
    have Hb := Lib.hid hb
    have Hf := Lib.hid hf
    clear hb hf
    by_cases hlt : k < 16
    · have hdk : decide ((k : Int) < 16) = true := by simp; omega
      go_wp2
      obtain ⟨wo, hwo⟩ : ∃ wo : World, wo = wr := ⟨_, rfl⟩
      have Hwo := Lib.hid hwo
      clear hwo
      go_loopw [5, 6] (fun n j wr => ∃ p : Nat, p ≤ 8 ∧ j = .int .i64 (7 - (p : Int)) ∧ n = .int .i64 (V / 2 ^ (8 * k + (8 - p)) % 2 ^ p) ∧ wr.heap[B]? = some (.cells #[.int .u64 hi, .int .u64 lo] 27 (0, 0)) ∧ Fr (fun _ => False) w wr)
        (fun _ j _ => (intOf j + 1).toNat)
      case atStart => exact ⟨0, by omega, by go_num, by simp, Hb.out, Hf.out⟩
      case round =>
        obtain ⟨p, hp, rfl, rfl, hb, hf⟩ := hrel
        have c0 := blk_cell hb 0 rfl
        have c1 := blk_cell hb 1 rfl
        have Hb2 := Lib.hid hb
        have Hf2 := Lib.hid hf
        clear hb hf
        obtain ⟨m, hm⟩ : ∃ m, V / 2 ^ (8 * k + (8 - p)) % 2 ^ p = m := ⟨_, rfl⟩
        have hpp : (0 : Int) < 2 ^ p := Int.pow_pos (by decide)
        have hp2 : (2 : Int) ^ p ≤ 2 ^ 8 := by
          have : (2 : Nat) ^ p ≤ 2 ^ 8 := Nat.pow_le_pow_right (by decide) hp
          exact_mod_cast this
        have m0 : 0 ≤ m := by rw [← hm]; exact Int.emod_nonneg _ (Int.ne_of_gt hpp)
        have m1 : m < 256 := by rw [← hm]; exact Int.lt_of_lt_of_le (Int.emod_lt_of_pos _ hpp) (by simpa using hp2)
        have Hm := Lib.hid hm
        rw [hm]
        clear hm hpp hp2
        by_cases hp8 : p = 8
        · subst hp8
          have e7 : (7 : Int) - ((8 : Nat) : Int) = -1 := by decide
          rw [e7]
          have hc := conv_one (P := Try.prog) 43 5 Try.underlying43 Try.underlying5 9 Try.underlying9 wr m
          obtain ⟨L, hL⟩ : ∃ L, (List.range k).map (fun i => V / 2 ^ (8 * i) % 256) = L := ⟨_, rfl⟩
          have sL : L.length = k := by rw [← hL]; simp
          have HL := Lib.hid hL
          rw [hL]
          have s1 := strOfNums_size L
          have s2 := strOfNums_size [m]
          clear hL
          go_wp2
          go_roundw
          case rel =>
            refine ⟨k + 1, by omega, by go_num, ?_, ?_, Hf2.out.alloc _⟩
            · rw [strOf_append, List.range_succ, List.map_append, HL.out, ← Hm.out]; rfl
            · exact blk_alloc Hb2.out _
          case measure => simp [intOf]; omega
        · obtain ⟨q, hq⟩ : ∃ q, p + q = 7 := ⟨7 - p, by omega⟩
          have eq1 : (7 : Int) - (p : Int) = q := by omega
          rw [eq1]
          have e2 : 8 * (k : Int) + (q : Int) = ((8 * k + q : Nat) : Int) := by omega
          have hb01 : 0 ≤ bitAt hi lo (8 * k + q) ∧ bitAt hi lo (8 * k + q) < 2 := by unfold bitAt; split <;> omega
          obtain ⟨b01, b02⟩ := hb01
          have HQ := Lib.hid hq
          have HE := Lib.hid e2
          clear e2 eq1
          go_wp2_with fail
          rw [HE.out]
          refine (refBit_any wr hi lo (8 * k + q) h1 h2 h3 h4 (by omega)).mono ?_
          rintro e w2 ⟨rfl, hf3⟩
          have Hf3 := Lib.hid hf3
          clear hf3
          go_wp2
          go_roundw
          case rel =>
            refine ⟨p + 1, by omega, by have := HQ.out; go_num, ?_, Hf3.out.blk Hb2.out (fun h => h), Hf2.out.then_ Hf3.out (fun _ h => h.elim)⟩
            have := HQ.out
            rw [bitAt_eq h1 h3 h4, HV.out, ← Hm.out, show 8 - (p + 1) = q by omega, show 8 - p = q + 1 by omega, bit_step V (8 * k + q) p (by omega), Nat.add_assoc]
          case measure => first | (simp [intOf]; done) | (simp [intOf]; omega)
    · go_wp2
      go_ret
      obtain rfl : k = 16 := by omega
      rw [HM.out]
      exact ⟨rfl, Hf.out⟩
end Go.Proofs.Ytfmcimngogibkaa
