/- wide.Bytes, tape.Writer.Num. -/
import Derived.Test.YtfmcimngogibkaaTapeW
import Derived.Laws.BytesArg
set_option linter.unusedSimpArgs false
set_option linter.unusedVariables false
namespace Go.Proofs.Ytfmcimngogibkaa
open Go.RowKit

/-- What the array holds behind k rounds. -/
def arrAt (hi lo : Int) (k : Nat) : List Int := (bytesOf lo k ++ List.replicate (8 - k) 0) ++ (bytesOf hi k ++ List.replicate (8 - k) 0)
theorem arrAt_len (hi lo : Int) {k : Nat} (hk : k ≤ 8) : (arrAt hi lo k).length = 16 := by simp [arrAt, blen]; omega
theorem arrAt_succ (hi lo : Int) {k : Nat} (hk : k < 8) : ((arrAt hi lo k).set k (byteAt lo k)).set (8 + k) (byteAt hi k) = arrAt hi lo (k + 1) := by
  have h1 : (8 - k) = (8 - (k + 1)) + 1 := by omega
  unfold arrAt
  rw [h1, List.replicate_succ, bytesOf_succ, bytesOf_succ]
  have e1 : (bytesOf lo k ++ (0 : Int) :: List.replicate (8 - (k + 1)) 0 ++ (bytesOf hi k ++ (0 : Int) :: List.replicate (8 - (k + 1)) 0)).set k (byteAt lo k) = bytesOf lo k ++ byteAt lo k :: List.replicate (8 - (k + 1)) 0 ++ (bytesOf hi k ++ (0 : Int) :: List.replicate (8 - (k + 1)) 0) := by
    rw [List.set_append_left _ _ (by simp [blen]), List.set_append_right _ _ (by simp [blen])]
    simp [blen]
  rw [e1, List.set_append_right _ _ (by simp [blen]; omega), List.set_append_right _ _ (by simp [blen]; omega)]
  have e2 : 8 + k - (bytesOf lo k ++ byteAt lo k :: List.replicate (8 - (k + 1)) 0).length - (bytesOf hi k).length = 0 := by simp [blen]; omega
  rw [e2]
  simp
theorem arrAt_lo (hi lo : Int) {k : Nat} (hk : k < 8) : (arrAt hi lo k)[k]? = some 0 := by
  unfold arrAt
  rw [List.getElem?_append_left (by simp [blen]; omega), List.getElem?_append_right (by simp [blen])]
  simp [blen, List.getElem?_replicate]; omega
theorem arrAt_hi (hi lo : Int) {k : Nat} (hk : k < 8) : (arrAt hi lo k)[8 + k]? = some 0 := by
  unfold arrAt
  rw [List.getElem?_append_right (by simp [blen]; omega), List.getElem?_append_right (by simp [blen]; omega)]
  simp [blen, List.getElem?_replicate]; omega

/-- A number's sixteen bytes. -/
def wideBytes (hi lo : Int) : List Int := bytesOf lo 8 ++ bytesOf hi 8

theorem wb_round {w wr : World} {B k : Nat} {hi lo : Int} (hk : k < 8) (hB : w.heap.size ≤ B) (hb : wr.heap[B]? = some (.cells #[.int .u64 hi, .int .u64 lo] 27 (0, 0)))
    (ha : wr.heap[B + 1]? = some (.cells ((arrAt hi lo k).map (Value.int .u8)).toArray 104 (0, 0))) (hf : Fr (fun _ => False) w wr) :
    let w3 := ((wr.setCell ⟨B + 1, k, none⟩ (.int .u8 (byteAt lo k))).setCell ⟨B + 1, 8 + k, none⟩ (.int .u8 (byteAt hi k))).drew
    w3.heap[B]? = some (.cells #[.int .u64 hi, .int .u64 lo] 27 (0, 0)) ∧ w3.heap[B + 1]? = some (.cells ((arrAt hi lo (k + 1)).map (Value.int .u8)).toArray 104 (0, 0)) ∧ Fr (fun _ => False) w w3 := by
  refine ⟨blk_far (blk_far hb (by simp) _) (by simp) _, ?_, ((hf.setCell (p := ⟨B + 1, k, none⟩) (.inr (by simp; omega)) _).setCell (p := ⟨B + 1, 8 + k, none⟩) (.inr (by simp; omega)) _).drew⟩
  have h2 := blk_set (blk_set ha k (.int .u8 (byteAt lo k))) (8 + k) (.int .u8 (byteAt hi k))
  have e : ((((arrAt hi lo k).map (Value.int .u8)).toArray.setIfInBounds k (.int .u8 (byteAt lo k))).setIfInBounds (8 + k) (.int .u8 (byteAt hi k))) = ((arrAt hi lo (k + 1)).map (Value.int .u8)).toArray := by
    rw [← arrAt_succ hi lo hk]
    simp [List.map_set]
  rw [← e]
  exact h2

set_option maxHeartbeats 800000 in
theorem wideBytes_any (w : World) (hi lo : Int) :
    Calls Try.prog 57 #[.agg #[.int .u64 hi, .int .u64 lo]] w fun e w' => e = .returned (.string (strOfNums (wideBytes hi lo))) ∧ Fr (fun _ => False) w w' := by
  obtain ⟨B, hB⟩ : ∃ B, w.heap.size = B := ⟨_, rfl⟩
  have HB := Lib.hid hB
  go_enter Try.func57, Try.ntmps57
  go_wp2
  go_loopw [5] (fun i wr => ∃ k : Nat, k ≤ 8 ∧ i = .int .i64 k ∧ wr.heap[B]? = some (.cells #[.int .u64 hi, .int .u64 lo] 27 (0, 0)) ∧ wr.heap[B + 1]? = some (.cells ((arrAt hi lo k).map (Value.int .u8)).toArray 104 (0, 0)) ∧ Fr (fun _ => False) w wr)
    (fun i _ => (8 - intOf i).toNat)
  case atStart => exact ⟨0, by omega, rfl, by rw [← HB.out]; exact blk_alloc (heap_alloc_new w _) _, by rw [← HB.out]; simpa [arrAt, bytesOf, List.replicate_succ] using heap_alloc_new (w.alloc (.cells #[.int .u64 hi, .int .u64 lo] 27)) _, ((Fr.refl _ w).alloc _).alloc _⟩
  case round =>
    obtain ⟨k, hk, rfl, hb, ha, hf⟩ := hrel
    by_cases hlt : k < 8
    · have c0 := blk_cell hb 0 rfl
      have c1 := blk_cell hb 1 rfl
      have a0 := blk_cell ha k (v := .int .u8 0) (by simp [arrAt_lo hi lo hlt])
      have a1 := blk_cell ha (8 + k) (v := .int .u8 0) (by simp [arrAt_hi hi lo hlt])
      have f0 := blk_free ha k
      have f1 := blk_free ha (8 + k)
      have Hb := Lib.hid hb
      have Ha := Lib.hid ha
      have Hf := Lib.hid hf
      clear hb ha hf
      have e8 : IntKind.i64.wrap (8 * (k : Int)) = 8 * k := IntWalk.i64_in _ (by omega)
      have p8 : 0 ≤ 8 * (k : Int) := by omega
      have e9 : IntKind.i64.wrap (8 + (k : Int)) = 8 + k := IntWalk.i64_in _ (by omega)
      have p9 : 0 ≤ 8 + (k : Int) := by omega
      have l9 : 8 + (k : Int) < 16 := by omega
      have l7 : (k : Int) < 16 := by omega
      have t9 : (8 + (k : Int)).toNat = 8 + k := by omega
      have w1 := byte_wrap lo k
      have w2 := byte_wrap hi k
      go_wp2
      go_region
      all_goals
        go_wp2
        go_roundw
        case rel => exact ⟨k + 1, by omega, by go_num, wb_round hlt (by rw [HB.out]; omega) Hb.out Ha.out Hf.out⟩
        case measure => simp [intOf]; omega
    · obtain rfl : k = 8 := by omega
      have hcv := run_convert_bytes_arg (P := Try.prog) wr 43 5 Try.underlying43 Try.underlying5 (B + 1) 0 16 16 (arrAt hi lo 8) (by simp [arrAt, blen]) (fun i hi8 => blk_cell ha (0 + i) (by simp [List.getD, arrAt_len hi lo (show 8 ≤ 8 from by omega), hi8])) 9 Try.underlying9
      have Hf := Lib.hid hf
      clear hb ha hf
      go_wp2
      go_ret
      have e8 : arrAt hi lo 8 = wideBytes hi lo := by simp [arrAt, wideBytes]
      rw [e8]
      exact ⟨rfl, Hf.out⟩

theorem wideBytes_len (hi lo : Int) : (wideBytes hi lo).length = 16 := by simp [wideBytes, blen]
theorem byteAt_bd (n : Int) (k : Nat) : 0 ≤ byteAt n k ∧ byteAt n k < 256 := by unfold byteAt; omega
theorem numsOf_strOf {l : List Int} (h : ∀ x ∈ l, 0 ≤ x ∧ x < 256) : numsOf (strOfNums l) = l := by
  rw [numsOf, strOfNums_data, List.map_map]
  conv => rhs; rw [← List.map_id l]
  refine List.map_congr_left (fun x hx => ?_)
  have := h x hx
  simp
  omega
theorem wideBytes_bd (hi lo : Int) : ∀ x ∈ wideBytes hi lo, 0 ≤ x ∧ x < 256 := by
  intro x hx
  simp only [wideBytes, bytesOf, List.mem_append, List.mem_map] at hx
  rcases hx with ⟨k, _, rfl⟩ | ⟨k, _, rfl⟩ <;> exact byteAt_bd _ k

set_option maxHeartbeats 800000 in
theorem wNum_any (w : World) (S : Nat → Prop) (g : Nat) (l : List Int) (hi lo : Int) (h : IsW w S g l) (hl : l.length + 16 ≤ 140737488355328) :
    Calls Try.prog 30 #[.pointer (some ⟨g, 0, none⟩), .agg #[.int .u64 hi, .int .u64 lo]] w fun e w' => e = .returned (.tuple #[]) ∧ IsW w' (Gro S w w') g (l ++ wideBytes hi lo) ∧ Fr S w w' := by
  obtain ⟨i0, hi0, hz0, hz1, hz2⟩ := info_parts Try.infoU8
  obtain ⟨v, hb, hown, hSg, hSv⟩ := h
  have c0 := blk_cell hb 0 rfl
  have f0 := blk_free hb 0
  have ca := blk_cell (blk_alloc (w := w) hb (.cells #[.int .u64 hi, .int .u64 lo] 27)) 0 rfl
  have Hb := Lib.hid hb
  have Hsv := Lib.hid hSv
  have Hsg := Lib.hid hSg
  have Hne := Lib.hid (show ¬ v.ownBlock = some g from fun he => (Hsv.out g he).2 rfl)
  obtain ⟨N, hN⟩ : ∃ N, l.length = N := ⟨_, rfl⟩
  have HN := Lib.hid hN
  have Ho := Lib.hid (show w.ownsRow 0 5 1 v N (l.map (Value.int .u8)) from hN ▸ hown)
  rw [hN] at hl
  clear hb hSv hSg hN hown
  go_enter Try.func30, Try.ntmps30
  go_wp2
  have Hf0 := Lib.hid (show Fr (fun _ => False) w (w.alloc (.cells #[.int .u64 hi, .int .u64 lo] 27)).drew from ((Fr.refl _ w).alloc _).drew)
  go_region_law (first | (refine step_append_str _ rfl (.tmp 8) (.tmp 10) 43 9 rfl 5 i0 Try.underlying43 Try.underlying9 hi0 hz0 hz1 hz2 v N (l.map (Value.int .u8)) (by simp [Act.eval, Act.put]) Ho1.out (strOfNums (wideBytes hi lo)) (by simp [Act.eval, Act.put]) (by rw [strOfNums_size, wideBytes_len]; exact hl) ?_; intro g2 cap2 w2 hown2 hf2 hat2; have hb' := hf2.blk Hb1.out Hne.out; have c0' := blk_cell hb' 0 rfl; have f0' := blk_free hb' 0) | (go_simp; go_at_call 57; refine (wideBytes_any _ hi lo).mono ?_; rintro e w1 ⟨rfl, hf1⟩; have Hf1 := Lib.hid (Hf0.out.then_ hf1 (fun _ h => h.elim)); have Ho1 := Lib.hid (own_fr Ho.out Hf1.out (fun _ _ h => h)); have Hb1 := Lib.hid (Hf1.out.blk Hb.out (fun h => h)); have c1 := blk_cell Hb1.out 0 rfl; clear hf1))
  all_goals
    have HR := Lib.hid (isW_push (w := w) (S := S) (l ++ wideBytes hi lo) Hb.out (.inl Hsg.out) (fun k hk => ⟨.inl (Hsv.out k hk).1, (Hsv.out k hk).2⟩) (Fr.refl S w) Hf1.out hown2 (by have := HN.out; simp [strOfNums_size, wideBytes_len, this]) (by rw [strCells_nums, numsOf_strOf (wideBytes_bd hi lo), List.map_append]) hf2 hat2)
    clear hown2 hf2 hat2 hb'
    go_wp2
    go_end0
    exact ⟨rfl, HR.out⟩
end Go.Proofs.Ytfmcimngogibkaa
