/- xfer.Again; the document's. -/
import Derived.Test.YtiabpnhkihbkjaaDoorXferF
import Derived.Test.YtiabpnhkihbkjaaDoorXfer
import Derived.Deep.DeepMust
import Derived.Deep.CutBlock
namespace Go.Proofs.YtiabpnhkihbkjaaDoor
open Go.RowKit

theorem heap_alloc_new1 (w : World) (o o2 : Obj) : ((w.alloc o).alloc o2).heap[w.heap.size + 1]? = some o2 := by
  have h := heap_alloc_new (w.alloc o) o2
  have e : (w.alloc o).heap.size = w.heap.size + 1 := Array.size_push ..
  rwa [e] at h
/-- Are two transfers the same, with these flags? -/
def Tx.eqx (a b : Tx) (f g : Int) : Bool := ((a.id.hi == b.id.hi && (a.id.lo == b.id.lo)) && ((a.debit.hi == b.debit.hi && (a.debit.lo == b.debit.lo)) && ((a.credit.hi == b.credit.hi && (a.credit.lo == b.credit.lo)) && ((a.amount.hi == b.amount.hi && (a.amount.lo == b.amount.lo)) && ((a.pending.hi == b.pending.hi && (a.pending.lo == b.pending.lo)) && (a.timeout == b.timeout && (a.ledger == b.ledger && (a.code == b.code && (f == g && (a.stamp == b.stamp && (a.born == b.born)))))))))))
def Tx.again (a b : Tx) : Int := if a.eqx b (bits .andNot .i64 a.flags 1) (bits .andNot .i64 b.flags 1) = true then 10 else 11
def Tx.again2 (a b : Tx) : Int := if a.eqx b (a.flags / 2) (b.flags / 2) = true then 10 else 11
set_option maxHeartbeats 6400000 in
theorem refAgain_any (w : World) (a b : Tx) (ha : 0 ≤ a.flags ∧ a.flags ≤ 9223372036854775807) (hb : 0 ≤ b.flags ∧ b.flags ≤ 9223372036854775807) :
    Calls Tryd.prog 18 #[.agg #[.int .u64 a.id.hi, .int .u64 a.id.lo, .int .u64 a.debit.hi, .int .u64 a.debit.lo, .int .u64 a.credit.hi, .int .u64 a.credit.lo, .int .u64 a.amount.hi, .int .u64 a.amount.lo, .int .u64 a.pending.hi, .int .u64 a.pending.lo, .int .i64 a.timeout, .int .i64 a.ledger, .int .i64 a.code, .int .i64 a.flags, .int .i64 a.stamp, .int .i64 a.born], .agg #[.int .u64 b.id.hi, .int .u64 b.id.lo, .int .u64 b.debit.hi, .int .u64 b.debit.lo, .int .u64 b.credit.hi, .int .u64 b.credit.lo, .int .u64 b.amount.hi, .int .u64 b.amount.lo, .int .u64 b.pending.hi, .int .u64 b.pending.lo, .int .i64 b.timeout, .int .i64 b.ledger, .int .i64 b.code, .int .i64 b.flags, .int .i64 b.stamp, .int .i64 b.born]] w fun e w' => e = .returned (.int .i64 (a.again2 b)) ∧ Fr (fun _ => False) w w' := by
  have hcg : ∀ v, a.again2 b = v → Ending.returned (Value.int .i64 v) = Ending.returned (.int .i64 (a.again2 b)) := fun v h => by rw [h]
  have Hcg := Lib.hid hcg
  clear hcg
  have he := eqm_Tx
  have Ba := Lib.hid (blk_alloc (heap_alloc_new w (.cells #[.int .u64 a.id.hi, .int .u64 a.id.lo, .int .u64 a.debit.hi, .int .u64 a.debit.lo, .int .u64 a.credit.hi, .int .u64 a.credit.lo, .int .u64 a.amount.hi, .int .u64 a.amount.lo, .int .u64 a.pending.hi, .int .u64 a.pending.lo, .int .i64 a.timeout, .int .i64 a.ledger, .int .i64 a.code, .int .i64 a.flags, .int .i64 a.stamp, .int .i64 a.born] 26)) (.cells #[.int .u64 b.id.hi, .int .u64 b.id.lo, .int .u64 b.debit.hi, .int .u64 b.debit.lo, .int .u64 b.credit.hi, .int .u64 b.credit.lo, .int .u64 b.amount.hi, .int .u64 b.amount.lo, .int .u64 b.pending.hi, .int .u64 b.pending.lo, .int .i64 b.timeout, .int .i64 b.ledger, .int .i64 b.code, .int .i64 b.flags, .int .i64 b.stamp, .int .i64 b.born] 26))
  have Bb := Lib.hid (heap_alloc_new1 w (.cells #[.int .u64 a.id.hi, .int .u64 a.id.lo, .int .u64 a.debit.hi, .int .u64 a.debit.lo, .int .u64 a.credit.hi, .int .u64 a.credit.lo, .int .u64 a.amount.hi, .int .u64 a.amount.lo, .int .u64 a.pending.hi, .int .u64 a.pending.lo, .int .i64 a.timeout, .int .i64 a.ledger, .int .i64 a.code, .int .i64 a.flags, .int .i64 a.stamp, .int .i64 a.born] 26) (.cells #[.int .u64 b.id.hi, .int .u64 b.id.lo, .int .u64 b.debit.hi, .int .u64 b.debit.lo, .int .u64 b.credit.hi, .int .u64 b.credit.lo, .int .u64 b.amount.hi, .int .u64 b.amount.lo, .int .u64 b.pending.hi, .int .u64 b.pending.lo, .int .i64 b.timeout, .int .i64 b.ledger, .int .i64 b.code, .int .i64 b.flags, .int .i64 b.stamp, .int .i64 b.born] 26))
  have FA := Lib.hid (((Fr.refl (fun _ => False) w).alloc (.cells #[.int .u64 a.id.hi, .int .u64 a.id.lo, .int .u64 a.debit.hi, .int .u64 a.debit.lo, .int .u64 a.credit.hi, .int .u64 a.credit.lo, .int .u64 a.amount.hi, .int .u64 a.amount.lo, .int .u64 a.pending.hi, .int .u64 a.pending.lo, .int .i64 a.timeout, .int .i64 a.ledger, .int .i64 a.code, .int .i64 a.flags, .int .i64 a.stamp, .int .i64 a.born] 26)).alloc (.cells #[.int .u64 b.id.hi, .int .u64 b.id.lo, .int .u64 b.debit.hi, .int .u64 b.debit.lo, .int .u64 b.credit.hi, .int .u64 b.credit.lo, .int .u64 b.amount.hi, .int .u64 b.amount.lo, .int .u64 b.pending.hi, .int .u64 b.pending.lo, .int .i64 b.timeout, .int .i64 b.ledger, .int .i64 b.code, .int .i64 b.flags, .int .i64 b.stamp, .int .i64 b.born] 26))
  have ba := Ba.out
  have bb := Bb.out
  have a13 := blk_cell ba 13 rfl
  have b13 := blk_cell bb 13 rfl
  have fa := blk_free ba 13
  have fb := blk_free bb 13
  clear ba bb
  have e1 : Int.tdiv a.flags 2 = a.flags / 2 := Int.tdiv_eq_ediv_of_nonneg ha.1
  have e2 : Int.tdiv b.flags 2 = b.flags / 2 := Int.tdiv_eq_ediv_of_nonneg hb.1
  go_enter Tryd.func18, Tryd.ntmps18
  go_upto_region 1 with fail
  go_upto_region 3 with fail
  clear a13 b13 fa fb Ba Bb FA
  have Ba := Lib.hid (blk_alloc (heap_alloc_new w (.cells #[.int .u64 a.id.hi, .int .u64 a.id.lo, .int .u64 a.debit.hi, .int .u64 a.debit.lo, .int .u64 a.credit.hi, .int .u64 a.credit.lo, .int .u64 a.amount.hi, .int .u64 a.amount.lo, .int .u64 a.pending.hi, .int .u64 a.pending.lo, .int .i64 a.timeout, .int .i64 a.ledger, .int .i64 a.code, .int .i64 (a.flags / 2), .int .i64 a.stamp, .int .i64 a.born] 26)) (.cells #[.int .u64 b.id.hi, .int .u64 b.id.lo, .int .u64 b.debit.hi, .int .u64 b.debit.lo, .int .u64 b.credit.hi, .int .u64 b.credit.lo, .int .u64 b.amount.hi, .int .u64 b.amount.lo, .int .u64 b.pending.hi, .int .u64 b.pending.lo, .int .i64 b.timeout, .int .i64 b.ledger, .int .i64 b.code, .int .i64 (b.flags / 2), .int .i64 b.stamp, .int .i64 b.born] 26))
  have Bb := Lib.hid (heap_alloc_new1 w (.cells #[.int .u64 a.id.hi, .int .u64 a.id.lo, .int .u64 a.debit.hi, .int .u64 a.debit.lo, .int .u64 a.credit.hi, .int .u64 a.credit.lo, .int .u64 a.amount.hi, .int .u64 a.amount.lo, .int .u64 a.pending.hi, .int .u64 a.pending.lo, .int .i64 a.timeout, .int .i64 a.ledger, .int .i64 a.code, .int .i64 (a.flags / 2), .int .i64 a.stamp, .int .i64 a.born] 26) (.cells #[.int .u64 b.id.hi, .int .u64 b.id.lo, .int .u64 b.debit.hi, .int .u64 b.debit.lo, .int .u64 b.credit.hi, .int .u64 b.credit.lo, .int .u64 b.amount.hi, .int .u64 b.amount.lo, .int .u64 b.pending.hi, .int .u64 b.pending.lo, .int .i64 b.timeout, .int .i64 b.ledger, .int .i64 b.code, .int .i64 (b.flags / 2), .int .i64 b.stamp, .int .i64 b.born] 26))
  have FA := Lib.hid (((Fr.refl (fun _ => False) w).alloc (.cells #[.int .u64 a.id.hi, .int .u64 a.id.lo, .int .u64 a.debit.hi, .int .u64 a.debit.lo, .int .u64 a.credit.hi, .int .u64 a.credit.lo, .int .u64 a.amount.hi, .int .u64 a.amount.lo, .int .u64 a.pending.hi, .int .u64 a.pending.lo, .int .i64 a.timeout, .int .i64 a.ledger, .int .i64 a.code, .int .i64 (a.flags / 2), .int .i64 a.stamp, .int .i64 a.born] 26)).alloc (.cells #[.int .u64 b.id.hi, .int .u64 b.id.lo, .int .u64 b.debit.hi, .int .u64 b.debit.lo, .int .u64 b.credit.hi, .int .u64 b.credit.lo, .int .u64 b.amount.hi, .int .u64 b.amount.lo, .int .u64 b.pending.hi, .int .u64 b.pending.lo, .int .i64 b.timeout, .int .i64 b.ledger, .int .i64 b.code, .int .i64 (b.flags / 2), .int .i64 b.stamp, .int .i64 b.born] 26))

  cases h : a.eqx b (a.flags / 2) (b.flags / 2)
  · have hv := Lib.hid (show a.again2 b = 11 from by simp only [Tx.again2, h]; rfl)
    unfold Tx.eqx at h
    go_wp2_with (first | ((with_reducible refine wpList_load_row_w ?lw 26 _ rfl (w.heap.size) rfl 26 _ _ _ (by first | (with_reducible exact Ba.out) | (with_reducible exact blk_alloc Ba.out _) | (with_reducible exact blk_alloc (blk_alloc Ba.out _) _) | (with_reducible exact blk_alloc (blk_alloc (blk_alloc Ba.out _) _) _)) Tryd.underlying26 rfl rfl ?_); (case lw => rfl)) | ((with_reducible refine wpList_load_row_w ?lw 26 _ rfl (w.heap.size + 1) rfl 26 _ _ _ (by first | (with_reducible exact Bb.out) | (with_reducible exact blk_alloc Bb.out _) | (with_reducible exact blk_alloc (blk_alloc Bb.out _) _) | (with_reducible exact blk_alloc (blk_alloc (blk_alloc Bb.out _) _) _)) Tryd.underlying26 rfl rfl ?_); (case lw => rfl)))
    go_ret
    exact ⟨Hcg.out _ hv.out, by (repeat (first | (with_reducible exact Fr.refl _ _) | (with_reducible refine Fr.drew ?_) | (with_reducible refine Fr.drewN ?_ _) | (with_reducible refine Fr.alloc ?_ _) | (with_reducible refine Fr.set1 ?_ _) | (with_reducible refine Fr.setNew ?_ (by omega) _))) <;> exact FA.out⟩
  · have hv := Lib.hid (show a.again2 b = 10 from by simp only [Tx.again2, h]; rfl)
    unfold Tx.eqx at h
    go_wp2_with (first | ((with_reducible refine wpList_load_row_w ?lw 26 _ rfl (w.heap.size) rfl 26 _ _ _ (by first | (with_reducible exact Ba.out) | (with_reducible exact blk_alloc Ba.out _) | (with_reducible exact blk_alloc (blk_alloc Ba.out _) _) | (with_reducible exact blk_alloc (blk_alloc (blk_alloc Ba.out _) _) _)) Tryd.underlying26 rfl rfl ?_); (case lw => rfl)) | ((with_reducible refine wpList_load_row_w ?lw 26 _ rfl (w.heap.size + 1) rfl 26 _ _ _ (by first | (with_reducible exact Bb.out) | (with_reducible exact blk_alloc Bb.out _) | (with_reducible exact blk_alloc (blk_alloc Bb.out _) _) | (with_reducible exact blk_alloc (blk_alloc (blk_alloc Bb.out _) _) _)) Tryd.underlying26 rfl rfl ?_); (case lw => rfl)))
    go_ret
    exact ⟨Hcg.out _ hv.out, by (repeat (first | (with_reducible exact Fr.refl _ _) | (with_reducible refine Fr.drew ?_) | (with_reducible refine Fr.drewN ?_ _) | (with_reducible refine Fr.alloc ?_ _) | (with_reducible refine Fr.set1 ?_ _) | (with_reducible refine Fr.setNew ?_ (by omega) _))) <;> exact FA.out⟩
set_option maxHeartbeats 6400000 in
theorem again_any (w : World) (a b : Tx) :
    Calls Tryd.prog 17 #[.agg #[.int .u64 a.id.hi, .int .u64 a.id.lo, .int .u64 a.debit.hi, .int .u64 a.debit.lo, .int .u64 a.credit.hi, .int .u64 a.credit.lo, .int .u64 a.amount.hi, .int .u64 a.amount.lo, .int .u64 a.pending.hi, .int .u64 a.pending.lo, .int .i64 a.timeout, .int .i64 a.ledger, .int .i64 a.code, .int .i64 a.flags, .int .i64 a.stamp, .int .i64 a.born], .agg #[.int .u64 b.id.hi, .int .u64 b.id.lo, .int .u64 b.debit.hi, .int .u64 b.debit.lo, .int .u64 b.credit.hi, .int .u64 b.credit.lo, .int .u64 b.amount.hi, .int .u64 b.amount.lo, .int .u64 b.pending.hi, .int .u64 b.pending.lo, .int .i64 b.timeout, .int .i64 b.ledger, .int .i64 b.code, .int .i64 b.flags, .int .i64 b.stamp, .int .i64 b.born]] w fun e w' => e = .returned (.int .i64 (a.again b)) ∧ Fr (fun _ => False) w w' := by
  have hcg : ∀ v, a.again b = v → Ending.returned (Value.int .i64 v) = Ending.returned (.int .i64 (a.again b)) := fun v h => by rw [h]
  have Hcg := Lib.hid hcg
  clear hcg
  have he := eqm_Tx
  have Ba := Lib.hid (blk_alloc (heap_alloc_new w (.cells #[.int .u64 a.id.hi, .int .u64 a.id.lo, .int .u64 a.debit.hi, .int .u64 a.debit.lo, .int .u64 a.credit.hi, .int .u64 a.credit.lo, .int .u64 a.amount.hi, .int .u64 a.amount.lo, .int .u64 a.pending.hi, .int .u64 a.pending.lo, .int .i64 a.timeout, .int .i64 a.ledger, .int .i64 a.code, .int .i64 a.flags, .int .i64 a.stamp, .int .i64 a.born] 26)) (.cells #[.int .u64 b.id.hi, .int .u64 b.id.lo, .int .u64 b.debit.hi, .int .u64 b.debit.lo, .int .u64 b.credit.hi, .int .u64 b.credit.lo, .int .u64 b.amount.hi, .int .u64 b.amount.lo, .int .u64 b.pending.hi, .int .u64 b.pending.lo, .int .i64 b.timeout, .int .i64 b.ledger, .int .i64 b.code, .int .i64 b.flags, .int .i64 b.stamp, .int .i64 b.born] 26))
  have Bb := Lib.hid (heap_alloc_new1 w (.cells #[.int .u64 a.id.hi, .int .u64 a.id.lo, .int .u64 a.debit.hi, .int .u64 a.debit.lo, .int .u64 a.credit.hi, .int .u64 a.credit.lo, .int .u64 a.amount.hi, .int .u64 a.amount.lo, .int .u64 a.pending.hi, .int .u64 a.pending.lo, .int .i64 a.timeout, .int .i64 a.ledger, .int .i64 a.code, .int .i64 a.flags, .int .i64 a.stamp, .int .i64 a.born] 26) (.cells #[.int .u64 b.id.hi, .int .u64 b.id.lo, .int .u64 b.debit.hi, .int .u64 b.debit.lo, .int .u64 b.credit.hi, .int .u64 b.credit.lo, .int .u64 b.amount.hi, .int .u64 b.amount.lo, .int .u64 b.pending.hi, .int .u64 b.pending.lo, .int .i64 b.timeout, .int .i64 b.ledger, .int .i64 b.code, .int .i64 b.flags, .int .i64 b.stamp, .int .i64 b.born] 26))
  have FA := Lib.hid (((Fr.refl (fun _ => False) w).alloc (.cells #[.int .u64 a.id.hi, .int .u64 a.id.lo, .int .u64 a.debit.hi, .int .u64 a.debit.lo, .int .u64 a.credit.hi, .int .u64 a.credit.lo, .int .u64 a.amount.hi, .int .u64 a.amount.lo, .int .u64 a.pending.hi, .int .u64 a.pending.lo, .int .i64 a.timeout, .int .i64 a.ledger, .int .i64 a.code, .int .i64 a.flags, .int .i64 a.stamp, .int .i64 a.born] 26)).alloc (.cells #[.int .u64 b.id.hi, .int .u64 b.id.lo, .int .u64 b.debit.hi, .int .u64 b.debit.lo, .int .u64 b.credit.hi, .int .u64 b.credit.lo, .int .u64 b.amount.hi, .int .u64 b.amount.lo, .int .u64 b.pending.hi, .int .u64 b.pending.lo, .int .i64 b.timeout, .int .i64 b.ledger, .int .i64 b.code, .int .i64 b.flags, .int .i64 b.stamp, .int .i64 b.born] 26))
  have ba := Ba.out
  have bb := Bb.out
  have a13 := blk_cell ba 13 rfl
  have b13 := blk_cell bb 13 rfl
  have fa := blk_free ba 13
  have fb := blk_free bb 13
  clear ba bb
  go_enter Tryd.func17, Tryd.ntmps17
  go_upto_region 1 with fail
  go_cut [] from 5 (fun w' => w'.heap[w.heap.size]? = some (.cells #[.int .u64 a.id.hi, .int .u64 a.id.lo, .int .u64 a.debit.hi, .int .u64 a.debit.lo, .int .u64 a.credit.hi, .int .u64 a.credit.lo, .int .u64 a.amount.hi, .int .u64 a.amount.lo, .int .u64 a.pending.hi, .int .u64 a.pending.lo, .int .i64 a.timeout, .int .i64 a.ledger, .int .i64 a.code, .int .i64 (bits .andNot .i64 a.flags 1), .int .i64 a.stamp, .int .i64 a.born] 26 (0, 0)) ∧ w'.heap[w.heap.size + 1]? = some (.cells #[.int .u64 b.id.hi, .int .u64 b.id.lo, .int .u64 b.debit.hi, .int .u64 b.debit.lo, .int .u64 b.credit.hi, .int .u64 b.credit.lo, .int .u64 b.amount.hi, .int .u64 b.amount.lo, .int .u64 b.pending.hi, .int .u64 b.pending.lo, .int .i64 b.timeout, .int .i64 b.ledger, .int .i64 b.code, .int .i64 (bits .andNot .i64 b.flags 1), .int .i64 b.stamp, .int .i64 b.born] 26 (0, 0)) ∧ Fr (fun _ => False) w w')
  case first =>
    go_region
    all_goals go_wp2_with fail
    all_goals go_meet
    all_goals exact ⟨by (repeat (first | (with_reducible refine blk_drew ?_) | (with_reducible refine blk_drewN ?_ _))) <;> exact blk_alloc (heap_alloc_new w _) _, by (repeat (first | (with_reducible refine blk_drew ?_) | (with_reducible refine blk_drewN ?_ _))) <;> exact heap_alloc_new1 w _ _, by repeat (first | (with_reducible exact Fr.refl _ _) | (with_reducible refine Fr.drew ?_) | (with_reducible refine Fr.drewN ?_ _) | (with_reducible refine Fr.alloc ?_ _) | (with_reducible refine Fr.set1 ?_ _) | (with_reducible refine Fr.setNew ?_ (by omega) _))⟩
  case rest =>
  obtain ⟨ba, bb, f⟩ := hcut
  clear Ba Bb FA a13 b13 fa fb
  have Ba := Lib.hid ba
  have Bb := Lib.hid bb
  have FA := Lib.hid f
  clear ba bb f

  cases h : a.eqx b (bits .andNot .i64 a.flags 1) (bits .andNot .i64 b.flags 1)
  · have hv := Lib.hid (show a.again b = 11 from by simp only [Tx.again, h]; rfl)
    unfold Tx.eqx at h
    go_wp2_with (first | ((with_reducible refine wpList_load_row_w ?lw 26 _ rfl (w.heap.size) rfl 26 _ _ _ (by first | (with_reducible exact Ba.out) | (with_reducible exact blk_alloc Ba.out _) | (with_reducible exact blk_alloc (blk_alloc Ba.out _) _) | (with_reducible exact blk_alloc (blk_alloc (blk_alloc Ba.out _) _) _)) Tryd.underlying26 rfl rfl ?_); (case lw => rfl)) | ((with_reducible refine wpList_load_row_w ?lw 26 _ rfl (w.heap.size + 1) rfl 26 _ _ _ (by first | (with_reducible exact Bb.out) | (with_reducible exact blk_alloc Bb.out _) | (with_reducible exact blk_alloc (blk_alloc Bb.out _) _) | (with_reducible exact blk_alloc (blk_alloc (blk_alloc Bb.out _) _) _)) Tryd.underlying26 rfl rfl ?_); (case lw => rfl)))
    go_ret
    exact ⟨Hcg.out _ hv.out, by (repeat (first | (with_reducible exact Fr.refl _ _) | (with_reducible refine Fr.drew ?_) | (with_reducible refine Fr.drewN ?_ _) | (with_reducible refine Fr.alloc ?_ _) | (with_reducible refine Fr.set1 ?_ _) | (with_reducible refine Fr.setNew ?_ (by omega) _))) <;> exact FA.out⟩
  · have hv := Lib.hid (show a.again b = 10 from by simp only [Tx.again, h]; rfl)
    unfold Tx.eqx at h
    go_wp2_with (first | ((with_reducible refine wpList_load_row_w ?lw 26 _ rfl (w.heap.size) rfl 26 _ _ _ (by first | (with_reducible exact Ba.out) | (with_reducible exact blk_alloc Ba.out _) | (with_reducible exact blk_alloc (blk_alloc Ba.out _) _) | (with_reducible exact blk_alloc (blk_alloc (blk_alloc Ba.out _) _) _)) Tryd.underlying26 rfl rfl ?_); (case lw => rfl)) | ((with_reducible refine wpList_load_row_w ?lw 26 _ rfl (w.heap.size + 1) rfl 26 _ _ _ (by first | (with_reducible exact Bb.out) | (with_reducible exact blk_alloc Bb.out _) | (with_reducible exact blk_alloc (blk_alloc Bb.out _) _) | (with_reducible exact blk_alloc (blk_alloc (blk_alloc Bb.out _) _) _)) Tryd.underlying26 rfl rfl ?_); (case lw => rfl)))
    go_ret
    exact ⟨Hcg.out _ hv.out, by (repeat (first | (with_reducible exact Fr.refl _ _) | (with_reducible refine Fr.drew ?_) | (with_reducible refine Fr.drewN ?_ _) | (with_reducible refine Fr.alloc ?_ _) | (with_reducible refine Fr.set1 ?_ _) | (with_reducible refine Fr.setNew ?_ (by omega) _))) <;> exact FA.out⟩
theorem eqx_half (a b : Tx) {f g f' g' : Int} (h : (f == g) = (f' == g')) : a.eqx b f g = a.eqx b f' g' := by simp only [Tx.eqx, h]
theorem again_eq (a b : Tx) (ha : 0 ≤ a.flags ∧ a.flags ≤ 9223372036854775807) (hb : 0 ≤ b.flags ∧ b.flags ≤ 9223372036854775807) : a.again b = a.again2 b := by
  rw [Tx.again, Tx.again2, nat_andNot1 ha, nat_andNot1 hb, eqx_half a b (f' := a.flags / 2) (g' := b.flags / 2)]
  rw [Bool.eq_iff_iff, beq_iff_eq, beq_iff_eq]
  omega
theorem eqx_self (a : Tx) (f : Int) : a.eqx a f f = true := by simp [Tx.eqx]
theorem eqx_comm (a b : Tx) (f g : Int) : a.eqx b f g = b.eqx a g f := by
  rw [Bool.eq_iff_iff]
  simp only [Tx.eqx, Bool.and_eq_true, beq_iff_eq]
  constructor
  all_goals
    rintro ⟨⟨h0, h1⟩, ⟨h2, h3⟩, ⟨h4, h5⟩, ⟨h6, h7⟩, ⟨h8, h9⟩, h10, h11, h12, h13, h14, h15⟩
    exact ⟨⟨h0.symm, h1.symm⟩, ⟨h2.symm, h3.symm⟩, ⟨h4.symm, h5.symm⟩, ⟨h6.symm, h7.symm⟩, ⟨h8.symm, h9.symm⟩, h10.symm, h11.symm, h12.symm, h13.symm, h14.symm, h15.symm⟩
theorem again_comm (a b : Tx) : b.again a = a.again b := by simp only [Tx.again]; rw [eqx_comm]
def Tx.linked (a : Tx) : Tx := { a with flags := bits .or .i64 a.flags 1 }
def Tx.unlinked (a : Tx) : Tx := { a with flags := bits .xor .i64 a.flags 1 }
def Tx.more (a : Tx) : Tx := { a with amount := ⟨a.amount.hi, IntKind.u64.wrap (a.amount.lo + 1)⟩ }
theorem again_linked (a : Tx) (h : 0 ≤ a.flags ∧ a.flags ≤ 9223372036854775807) : a.again a.linked = 10 := by
  obtain ⟨h1, h2⟩ := or1_half h
  have e : a.eqx a.linked (a.flags / 2) (bits .or .i64 a.flags 1 / 2) = a.eqx a (a.flags / 2) (a.flags / 2) := by rw [h1]; rfl
  rw [again_eq a a.linked h h2, Tx.again2]
  show (if a.eqx a.linked (a.flags / 2) (bits .or .i64 a.flags 1 / 2) = true then (10 : Int) else 11) = 10
  rw [e, eqx_self]; rfl
theorem linked_again (a : Tx) (h : 0 ≤ a.flags ∧ a.flags ≤ 9223372036854775807) : a.linked.again a = 10 := by rw [← again_comm, again_linked a h]
theorem again_unlinked (a b : Tx) (ha : 0 ≤ a.flags ∧ a.flags ≤ 9223372036854775807) (hb : 0 ≤ b.flags ∧ b.flags ≤ 9223372036854775807) : a.again b.unlinked = a.again b := by
  obtain ⟨h1, h2⟩ := xor1_half hb
  rw [again_eq a b ha hb, again_eq a b.unlinked ha h2, Tx.again2, Tx.again2]
  show (if a.eqx b.unlinked (a.flags / 2) (bits .xor .i64 b.flags 1 / 2) = true then (10 : Int) else 11) = _
  rw [h1]; rfl
theorem again_more (a : Tx) (h : a.amount.ok) : a.again a.more = 11 := by
  have := h.lo0; have := h.lo1
  have hne : (a.amount.lo == IntKind.u64.wrap (a.amount.lo + 1)) = false := by
    rw [IntKind.wrap_u64, beq_eq_false_iff_ne]; omega
  have : ∀ f g, a.eqx a.more f g = false := by intro f g; simp only [Tx.eqx, Tx.more, hne, Bool.and_false, Bool.false_and]
  rw [Tx.again, this]; rfl
end Go.Proofs.YtiabpnhkihbkjaaDoor
