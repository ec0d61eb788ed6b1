/- wide.FromBytes, tape.Reader.Num. -/
import Derived.Test.YtfmcimngogibkaaTapeI
set_option linter.unusedSimpArgs false
set_option linter.unusedVariables false
namespace Go.Proofs.Ytfmcimngogibkaa
open Go.RowKit

theorem index_str {l : List Int} (hB : Bytes l) {i : Nat} (hi : i < l.length) : ∃ h : i < (strOfNums l).size, (((strOfNums l)[i]'h).toNat : Int) = l[i] := by
  have hs : i < (strOfNums l).size := by rw [strOfNums_size]; exact hi
  refine ⟨hs, ?_⟩
  have hb := hB l[i] (List.getElem_mem hi)
  have e : (strOfNums l)[i]'hs = UInt8.ofNat (l[i]).toNat := by
    show (strOfNums l).data[i] = _
    simp [strOfNums]
  rw [e]
  simp
  omega

set_option maxHeartbeats 1600000 in
theorem fromBytes_yes (w : World) (l : List Int) (hB : Bytes l) (hn : 16 ≤ l.length) :
    Calls Try.prog 60 #[.string (strOfNums l)] w fun e w' => e = .returned (.tuple #[.agg #[.int .u64 (le ((l.drop 8).take 8)), .int .u64 (le (l.take 8))], .bool true]) ∧ Fr (fun _ => False) w w' := by
  have hs := strOfNums_size l
  obtain ⟨B, hB0⟩ : ∃ B, w.heap.size = B := ⟨_, rfl⟩
  go_enter Try.func60, Try.ntmps60
  go_wp2
  have HB0 := Lib.hid hB0
  have HlB := Lib.hid hB
  have Hn := Lib.hid hn
  clear hB
  go_loopw [10] (fun i wr => ∃ k : Nat, k ≤ 8 ∧ i = .int .i64 k ∧ wr.heap[B]? = some (.cells #[.int .u64 0, .int .u64 0] 27 (0, 0)) ∧ wr.heap[B + 1]? = some (.cells #[.int .u64 (le ((l.drop 8).take k)), .int .u64 (le (l.take k))] 27 (0, 0)) ∧ Fr (fun _ => False) w wr)
    (fun i _ => (8 - intOf i).toNat)
  case atStart => exact ⟨0, by omega, rfl, by rw [← HB0.out]; exact blk_alloc (heap_alloc_new w _) _, by rw [← HB0.out]; simpa [le] using heap_alloc_new (w.alloc (.cells #[.int .u64 0, .int .u64 0] 27)) (.cells #[.int .u64 0, .int .u64 0] 27), ((Fr.refl _ w).alloc _).alloc _⟩
  case round =>
    obtain ⟨k, hk, rfl, hb, ha, hf⟩ := hrel
    by_cases hlt : k < 8
    · have c0 := blk_cell ha 0 rfl
      have c1 := blk_cell ha 1 rfl
      have f0 := blk_free ha 0
      have f1 := blk_free ha 1
      have Hb := Lib.hid hb
      have Ha := Lib.hid ha
      have Hf := Lib.hid hf
      clear hb ha hf
      obtain ⟨s1, x1⟩ := index_str HlB.out (show k < l.length by omega)
      obtain ⟨s2, x2⟩ := index_str HlB.out (show 8 + k < l.length by omega)
      have y1 : k < l.length := by omega
      have y2 : 8 + k < l.length := by omega
      have b1 := HlB.out l[k] (List.getElem_mem y1)
      have b2 := HlB.out l[8 + k] (List.getElem_mem y2)
      have e8 : IntKind.i64.wrap (8 * (k : Int)) = 8 * k := IntWalk.i64_in _ (by omega)
      have p8 : 0 ≤ 8 * (k : Int) := by omega
      have e9 : IntKind.i64.wrap (8 + (k : Int)) = 8 + k := IntWalk.i64_in _ (by omega)
      have p9 : 0 ≤ 8 + (k : Int) := by omega
      have t9 : (8 + (k : Int)).toNat = 8 + k := by omega
      have l1 : (k : Int) < (l.length : Int) := by omega
      have l2 : 8 + (k : Int) < (l.length : Int) := by omega
      have m64 : min (8 * (k : Int)).toNat 64 = 8 * k := by omega
      have r1 := Lib.hid (or_u64_take HlB.out hlt y1)
      have r2 := Lib.hid (or_u64_take (HlB.out.drop 8) (k := k) hlt (by simp; omega))
      go_wp2
      go_region
      go_wp2
      go_region
      go_wp2
      go_roundw
      case rel =>
        have r2' := r2.out
        rw [List.getElem_drop] at r2'
        rw [r1.out, r2']
        exact ⟨k + 1, by omega, by go_num, blk_far (blk_far Hb.out (by simp) _) (by simp) _, blk_set (blk_set Ha.out 1 _) 0 _, (((Hf.out.setNew (by have := HB0.out; omega) _).setNew (by have := HB0.out; omega) _).drew).drew⟩
      case measure => simp [intOf]; omega
    · obtain rfl : k = 8 := by omega
      have c0 := blk_cell ha 0 rfl
      have c1 := blk_cell ha 1 rfl
      have d0 := blk_cell hb 0 rfl
      have d1 := blk_cell hb 1 rfl
      have f0 := blk_free hb 0
      have f1 := blk_free hb 1
      have Hf := Lib.hid hf
      clear ha hb hf
      go_wp2
      exact bodyPost_ret (v := .tuple #[.agg #[.int .u64 (le ((l.drop 8).take 8)), .int .u64 (le (l.take 8))], .bool true]) (by simp [results, Try.results60, go_sem, d0, d1]) rfl ⟨rfl, (Hf.out.setNew (by have := HB0.out; omega) _).setNew (by have := HB0.out; omega) _⟩

set_option maxHeartbeats 1600000 in
theorem fromBytes_no (w : World) (l : List Int) (hn : l.length < 16) :
    Calls Try.prog 60 #[.string (strOfNums l)] w fun e w' => e = .returned (.tuple #[.agg #[.int .u64 0, .int .u64 0], .bool false]) ∧ Fr (fun _ => False) w w' := by
  have hs := strOfNums_size l
  go_enter Try.func60, Try.ntmps60
  go_wp2
  exact bodyPost_ret (v := .tuple #[.agg #[.int .u64 0, .int .u64 0], .bool false]) (by simp [results, Try.results60, go_sem]) rfl ⟨rfl, ((Fr.refl _ w).alloc _).alloc _⟩

set_option maxHeartbeats 1600000 in
theorem rNum_yes (w : World) (g : Nat) (l : List Int) (h : IsR w g l false) (hB : Bytes l) (hn : 16 ≤ l.length) :
    Calls Try.prog 42 #[.pointer (some ⟨g, 0, none⟩)] w fun e w' => e = .returned (.agg #[.int .u64 (le ((l.drop 8).take 8)), .int .u64 (le (l.take 8))]) ∧ IsR w' g (l.drop 16) false ∧ Fr (fun k => k = g) w w' := by
  have H := Lib.hid h
  clear h
  have HB := Lib.hid hB; have E1 := Lib.hid (show (l.take 16).take 8 = l.take 8 from by rw [List.take_take]; rfl); have E2 := Lib.hid (show ((l.take 16).drop 8).take 8 = (l.drop 8).take 8 from by rw [List.drop_take, List.take_take]; rfl); clear hB
  go_enter Try.func42, Try.ntmps42
  go_wp2_with fail
  refine (rRaw_yes _ g l 16 (blk_alloc H.out _) hn).mono ?_
  rintro e w1 ⟨rfl, hr, hf⟩
  have Hr := Lib.hid hr
  have Hf := Lib.hid hf
  clear hr hf
  go_wp2_with fail
  refine (fromBytes_yes _ (l.take 16) (HB.out.take 16) (by simp; omega)).mono ?_
  rintro e w2 ⟨rfl, hf2⟩
  (rw [E1.out, E2.out])
  have Hf2 := Lib.hid hf2
  have hg := Lib.hid (blk_lt H.out)
  have hlt : w.heap.size < w2.heap.size := by
    have h1 := Hf.out.size
    have h2 := Hf2.out.size
    simp at h1
    omega
  have hb := Hf2.out.blk (Hf.out.blk (heap_alloc_new w _) (by have := hg.out; omega)) (fun h => h)
  have cb0 := blk_cell hb 0 rfl
  have cb1 := blk_cell hb 1 rfl
  have fb0 := blk_free hb 0
  have fb1 := blk_free hb 1
  clear hf2 hb
  go_wp2
  refine bodyPost_ret (v := .agg #[.int .u64 (le ((l.drop 8).take 8)), .int .u64 (le (l.take 8))]) (by simp [results, Try.results42, go_sem, cb0, cb1, hlt]) rfl ⟨rfl, ?_, ?_⟩
  · have := hg.out
    unfold IsR
    repeat (first | (with_reducible refine blk_drew ?_) | (with_reducible refine blk_drewN ?_ _) | (with_reducible refine blk_alloc ?_ _) | (with_reducible refine blk_far2 ?_ (by omega) _))
    exact Hf2.out.blk Hr.out (fun h => h)
  · repeat (first | (with_reducible exact Fr.refl _ _) | (with_reducible refine Fr.drew ?_) | (with_reducible refine Fr.drewN ?_ _) | (with_reducible refine Fr.alloc ?_ _) | (with_reducible refine Fr.set1 ?_ _) | (with_reducible refine Fr.setNew ?_ (by omega) _))
    exact (((Fr.refl (fun k => k = g) w).alloc _).then_ Hf.out (fun _ h => .inl h)).then_ Hf2.out (fun _ h => h.elim)
set_option maxHeartbeats 1600000 in
theorem rNum_no (w : World) (g : Nat) (l : List Int) (t : Bool) (h : IsR w g l t) (hn : t = true ∨ l.length < 16) :
    Calls Try.prog 42 #[.pointer (some ⟨g, 0, none⟩)] w fun e w' => e = .returned (.agg #[.int .u64 0, .int .u64 0]) ∧ IsR w' g l true ∧ Fr (fun k => k = g) w w' := by
  have H := Lib.hid h
  clear h
  have Hn := Lib.hid (show t = true ∨ (16 : Int) < 0 ∨ (l.length : Int) < 16 from by rcases hn with h | h; exact .inl h; exact .inr (.inr (by omega))); clear hn
  go_enter Try.func42, Try.ntmps42
  go_wp2_with fail
  refine (rRaw_no _ g l t 16 (blk_alloc H.out _) Hn.out).mono ?_
  rintro e w1 ⟨rfl, hr, hf⟩
  have Hr := Lib.hid hr
  have Hf := Lib.hid hf
  clear hr hf
  go_wp2_with fail
  refine (fromBytes_no _ [] (by simp)).mono ?_
  rintro e w2 ⟨rfl, hf2⟩
  skip
  have Hf2 := Lib.hid hf2
  have hg := Lib.hid (blk_lt H.out)
  have hlt : w.heap.size < w2.heap.size := by
    have h1 := Hf.out.size
    have h2 := Hf2.out.size
    simp at h1
    omega
  have hb := Hf2.out.blk (Hf.out.blk (heap_alloc_new w _) (by have := hg.out; omega)) (fun h => h)
  have cb0 := blk_cell hb 0 rfl
  have cb1 := blk_cell hb 1 rfl
  have fb0 := blk_free hb 0
  have fb1 := blk_free hb 1
  clear hf2 hb
  go_wp2
  refine bodyPost_ret (v := .agg #[.int .u64 0, .int .u64 0]) (by simp [results, Try.results42, go_sem, cb0, cb1, hlt]) rfl ⟨rfl, ?_, ?_⟩
  · have := hg.out
    unfold IsR
    repeat (first | (with_reducible refine blk_drew ?_) | (with_reducible refine blk_drewN ?_ _) | (with_reducible refine blk_alloc ?_ _) | (with_reducible refine blk_far2 ?_ (by omega) _))
    exact Hf2.out.blk Hr.out (fun h => h)
  · repeat (first | (with_reducible exact Fr.refl _ _) | (with_reducible refine Fr.drew ?_) | (with_reducible refine Fr.drewN ?_ _) | (with_reducible refine Fr.alloc ?_ _) | (with_reducible refine Fr.set1 ?_ _) | (with_reducible refine Fr.setNew ?_ (by omega) _))
    exact (((Fr.refl (fun k => k = g) w).alloc _).then_ Hf.out (fun _ h => .inl h)).then_ Hf2.out (fun _ h => h.elim)

set_option maxHeartbeats 1600000 in
theorem rNum_nil (w : World) :
    Calls Try.prog 42 #[.pointer none] w fun e w' => e = .returned (.agg #[.int .u64 0, .int .u64 0]) ∧ Fr (fun _ => False) w w' := by
  go_enter Try.func42, Try.ntmps42
  go_wp2_with fail
  refine (rRaw_nil _ 16).mono ?_
  rintro e w1 ⟨rfl, rfl⟩
  go_wp2_with fail
  refine (fromBytes_no _ [] (by simp)).mono ?_
  rintro e w2 ⟨rfl, hf2⟩
  have Hf2 := Lib.hid hf2
  have hlt : w.heap.size < w2.heap.size := by
    have h2 := Hf2.out.size
    simp at h2
    omega
  have hb := Hf2.out.blk (heap_alloc_new w _) (fun h => h)
  have cb0 := blk_cell hb 0 rfl
  have cb1 := blk_cell hb 1 rfl
  have fb0 := blk_free hb 0
  have fb1 := blk_free hb 1
  clear hf2 hb
  go_wp2
  refine bodyPost_ret (v := .agg #[.int .u64 0, .int .u64 0]) (by simp [results, Try.results42, go_sem, cb0, cb1, hlt]) rfl ⟨rfl, ?_⟩
  repeat (first | (with_reducible exact Fr.refl _ _) | (with_reducible refine Fr.drew ?_) | (with_reducible refine Fr.drewN ?_ _) | (with_reducible refine Fr.alloc ?_ _) | (with_reducible refine Fr.set1 ?_ _) | (with_reducible refine Fr.setNew ?_ (by omega) _))
  exact ((Fr.refl (fun _ => False) w).alloc _).then_ Hf2.out (fun _ h => h.elim)
end Go.Proofs.Ytfmcimngogibkaa
