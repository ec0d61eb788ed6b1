/- Package xfer: ending, moving, Check; alive. -/
import Derived.Test.YtiabpnhkihbkjaaDoorXfer
import Derived.Deep.DeepMust
namespace Go.Proofs.YtiabpnhkihbkjaaDoor
open Go.RowKit

def Tx.ending (a : Tx) : Int := if a.pending.zero = true then 16 else if a.ledger < 0 ∨ 4294967295 < a.ledger then 8 else if a.code < 0 ∨ 65535 < a.code then 9 else 0
def Tx.moving (a : Tx) : Int :=
  if a.debit.zero = true then 12 else if a.credit.zero = true then 13 else if (a.debit.hi == a.credit.hi && a.debit.lo == a.credit.lo) = true then 14 else if a.pending.zero = false then 15 else
  if a.amount.zero = true ∧ (bits .and .i64 a.flags 48 != 0) = false then 18 else if a.ledger < 1 ∨ 4294967295 < a.ledger then 8 else if a.code < 1 ∨ 65535 < a.code then 9 else 0
def Tx.check (a : Tx) : Int :=
  if a.flags < 0 ∨ 255 < a.flags then 3 else if a.id.zero = true then 4 else if a.id.most = true then 5 else if a.together = false then 6 else
  if a.stamp ≠ 0 ∨ a.born ≠ 0 then 7 else if a.timeout < 0 ∨ 1073741824 < a.timeout ∨ (a.timeout ≠ 0 ∧ (bits .and .i64 a.flags 2 != 0) = false) then 17 else
  if (bits .and .i64 a.flags 12 != 0) = true then a.ending else a.moving

set_option maxHeartbeats 12800000 in
theorem ending_any (w : World) (a : Tx) :
    Calls Tryd.prog 31 #[.agg #[.int .u64 a.id.hi, .int .u64 a.id.lo, .int .u64 a.debit.hi, .int .u64 a.debit.lo, .int .u64 a.credit.hi, .int .u64 a.credit.lo, .int .u64 a.amount.hi, .int .u64 a.amount.lo, .int .u64 a.pending.hi, .int .u64 a.pending.lo, .int .i64 a.timeout, .int .i64 a.ledger, .int .i64 a.code, .int .i64 a.flags, .int .i64 a.stamp, .int .i64 a.born]] w fun e w' => e = .returned (.int .i64 a.ending) ∧ Fr (fun _ => False) w w' := by
  have hcg : ∀ v, a.ending = v → Ending.returned (Value.int .i64 v) = Ending.returned (.int .i64 (a.ending)) := fun v h => by rw [h]
  have Hcg := Lib.hid hcg
  clear hcg
  have hb0 := Lib.hid (heap_alloc_new w (.cells #[.int .u64 a.id.hi, .int .u64 a.id.lo, .int .u64 a.debit.hi, .int .u64 a.debit.lo, .int .u64 a.credit.hi, .int .u64 a.credit.lo, .int .u64 a.amount.hi, .int .u64 a.amount.lo, .int .u64 a.pending.hi, .int .u64 a.pending.lo, .int .i64 a.timeout, .int .i64 a.ledger, .int .i64 a.code, .int .i64 a.flags, .int .i64 a.stamp, .int .i64 a.born] 26))
  have he := eqm_Num
  cases z1 : (a.pending.hi == 0 && a.pending.lo == 0)
  · rcases (show (a.ledger < 0) ∨ (¬ a.ledger < 0 ∧ 4294967295 < a.ledger) ∨ (¬ a.ledger < 0 ∧ ¬ 4294967295 < a.ledger ∧ a.code < 0) ∨ (¬ a.ledger < 0 ∧ ¬ 4294967295 < a.ledger ∧ ¬ a.code < 0 ∧ 65535 < a.code) ∨ (¬ a.ledger < 0 ∧ ¬ 4294967295 < a.ledger ∧ ¬ a.code < 0 ∧ ¬ 65535 < a.code) from by omega) with k1 | ⟨k1, k2⟩ | ⟨k1, k2, k3⟩ | ⟨k1, k2, k3, k4⟩ | ⟨k1, k2, k3, k4⟩
    · skip
      have hv := Lib.hid (show a.ending = 8 from by simp only [Tx.ending, Nm.zero, z1]; simp [k1])
      have Ba := hb0
      have FA := Lib.hid ((Fr.refl (fun _ => False) w).alloc (.cells #[.int .u64 a.id.hi, .int .u64 a.id.lo, .int .u64 a.debit.hi, .int .u64 a.debit.lo, .int .u64 a.credit.hi, .int .u64 a.credit.lo, .int .u64 a.amount.hi, .int .u64 a.amount.lo, .int .u64 a.pending.hi, .int .u64 a.pending.lo, .int .i64 a.timeout, .int .i64 a.ledger, .int .i64 a.code, .int .i64 a.flags, .int .i64 a.stamp, .int .i64 a.born] 26))
      go_enter Tryd.func31, Tryd.ntmps31
      go_wp2_with (first | ((with_reducible refine wpList_load_row_w ?lw 26 _ rfl w.heap.size rfl 26 _ _ _ (by first | (with_reducible exact Ba.out) | (with_reducible exact blk_alloc Ba.out _) | (with_reducible exact blk_alloc (blk_alloc Ba.out _) _) | (with_reducible exact blk_alloc (blk_alloc (blk_alloc Ba.out _) _) _) | (with_reducible exact blk_alloc (blk_alloc (blk_alloc (blk_alloc Ba.out _) _) _) _) | (with_reducible exact blk_alloc (blk_alloc (blk_alloc (blk_alloc (blk_alloc Ba.out _) _) _) _) _) | (with_reducible exact blk_alloc (blk_alloc (blk_alloc (blk_alloc (blk_alloc (blk_alloc Ba.out _) _) _) _) _) _)) Tryd.underlying26 rfl rfl ?_); (case lw => rfl)) | go_in)
      go_ret
      exact ⟨Hcg.out _ hv.out, by (repeat (first | (with_reducible exact Fr.refl _ _) | (with_reducible refine Fr.drew ?_) | (with_reducible refine Fr.drewN ?_ _) | (with_reducible refine Fr.alloc ?_ _) | (with_reducible refine Fr.set1 ?_ _) | (with_reducible refine Fr.setNew ?_ (by omega) _))) <;> exact FA.out⟩
    · skip
      have hv := Lib.hid (show a.ending = 8 from by simp only [Tx.ending, Nm.zero, z1]; simp [k1, k2])
      have Ba := hb0
      have FA := Lib.hid ((Fr.refl (fun _ => False) w).alloc (.cells #[.int .u64 a.id.hi, .int .u64 a.id.lo, .int .u64 a.debit.hi, .int .u64 a.debit.lo, .int .u64 a.credit.hi, .int .u64 a.credit.lo, .int .u64 a.amount.hi, .int .u64 a.amount.lo, .int .u64 a.pending.hi, .int .u64 a.pending.lo, .int .i64 a.timeout, .int .i64 a.ledger, .int .i64 a.code, .int .i64 a.flags, .int .i64 a.stamp, .int .i64 a.born] 26))
      go_enter Tryd.func31, Tryd.ntmps31
      go_wp2_with (first | ((with_reducible refine wpList_load_row_w ?lw 26 _ rfl w.heap.size rfl 26 _ _ _ (by first | (with_reducible exact Ba.out) | (with_reducible exact blk_alloc Ba.out _) | (with_reducible exact blk_alloc (blk_alloc Ba.out _) _) | (with_reducible exact blk_alloc (blk_alloc (blk_alloc Ba.out _) _) _) | (with_reducible exact blk_alloc (blk_alloc (blk_alloc (blk_alloc Ba.out _) _) _) _) | (with_reducible exact blk_alloc (blk_alloc (blk_alloc (blk_alloc (blk_alloc Ba.out _) _) _) _) _) | (with_reducible exact blk_alloc (blk_alloc (blk_alloc (blk_alloc (blk_alloc (blk_alloc Ba.out _) _) _) _) _) _)) Tryd.underlying26 rfl rfl ?_); (case lw => rfl)) | go_in)
      go_ret
      exact ⟨Hcg.out _ hv.out, by (repeat (first | (with_reducible exact Fr.refl _ _) | (with_reducible refine Fr.drew ?_) | (with_reducible refine Fr.drewN ?_ _) | (with_reducible refine Fr.alloc ?_ _) | (with_reducible refine Fr.set1 ?_ _) | (with_reducible refine Fr.setNew ?_ (by omega) _))) <;> exact FA.out⟩
    · skip
      have hv := Lib.hid (show a.ending = 9 from by simp only [Tx.ending, Nm.zero, z1]; simp [k1, k2, k3])
      have Ba := hb0
      have FA := Lib.hid ((Fr.refl (fun _ => False) w).alloc (.cells #[.int .u64 a.id.hi, .int .u64 a.id.lo, .int .u64 a.debit.hi, .int .u64 a.debit.lo, .int .u64 a.credit.hi, .int .u64 a.credit.lo, .int .u64 a.amount.hi, .int .u64 a.amount.lo, .int .u64 a.pending.hi, .int .u64 a.pending.lo, .int .i64 a.timeout, .int .i64 a.ledger, .int .i64 a.code, .int .i64 a.flags, .int .i64 a.stamp, .int .i64 a.born] 26))
      go_enter Tryd.func31, Tryd.ntmps31
      go_wp2_with (first | ((with_reducible refine wpList_load_row_w ?lw 26 _ rfl w.heap.size rfl 26 _ _ _ (by first | (with_reducible exact Ba.out) | (with_reducible exact blk_alloc Ba.out _) | (with_reducible exact blk_alloc (blk_alloc Ba.out _) _) | (with_reducible exact blk_alloc (blk_alloc (blk_alloc Ba.out _) _) _) | (with_reducible exact blk_alloc (blk_alloc (blk_alloc (blk_alloc Ba.out _) _) _) _) | (with_reducible exact blk_alloc (blk_alloc (blk_alloc (blk_alloc (blk_alloc Ba.out _) _) _) _) _) | (with_reducible exact blk_alloc (blk_alloc (blk_alloc (blk_alloc (blk_alloc (blk_alloc Ba.out _) _) _) _) _) _)) Tryd.underlying26 rfl rfl ?_); (case lw => rfl)) | go_in)
      go_ret
      exact ⟨Hcg.out _ hv.out, by (repeat (first | (with_reducible exact Fr.refl _ _) | (with_reducible refine Fr.drew ?_) | (with_reducible refine Fr.drewN ?_ _) | (with_reducible refine Fr.alloc ?_ _) | (with_reducible refine Fr.set1 ?_ _) | (with_reducible refine Fr.setNew ?_ (by omega) _))) <;> exact FA.out⟩
    · skip
      have hv := Lib.hid (show a.ending = 9 from by simp only [Tx.ending, Nm.zero, z1]; simp [k1, k2, k3, k4])
      have Ba := hb0
      have FA := Lib.hid ((Fr.refl (fun _ => False) w).alloc (.cells #[.int .u64 a.id.hi, .int .u64 a.id.lo, .int .u64 a.debit.hi, .int .u64 a.debit.lo, .int .u64 a.credit.hi, .int .u64 a.credit.lo, .int .u64 a.amount.hi, .int .u64 a.amount.lo, .int .u64 a.pending.hi, .int .u64 a.pending.lo, .int .i64 a.timeout, .int .i64 a.ledger, .int .i64 a.code, .int .i64 a.flags, .int .i64 a.stamp, .int .i64 a.born] 26))
      go_enter Tryd.func31, Tryd.ntmps31
      go_wp2_with (first | ((with_reducible refine wpList_load_row_w ?lw 26 _ rfl w.heap.size rfl 26 _ _ _ (by first | (with_reducible exact Ba.out) | (with_reducible exact blk_alloc Ba.out _) | (with_reducible exact blk_alloc (blk_alloc Ba.out _) _) | (with_reducible exact blk_alloc (blk_alloc (blk_alloc Ba.out _) _) _) | (with_reducible exact blk_alloc (blk_alloc (blk_alloc (blk_alloc Ba.out _) _) _) _) | (with_reducible exact blk_alloc (blk_alloc (blk_alloc (blk_alloc (blk_alloc Ba.out _) _) _) _) _) | (with_reducible exact blk_alloc (blk_alloc (blk_alloc (blk_alloc (blk_alloc (blk_alloc Ba.out _) _) _) _) _) _)) Tryd.underlying26 rfl rfl ?_); (case lw => rfl)) | go_in)
      go_ret
      exact ⟨Hcg.out _ hv.out, by (repeat (first | (with_reducible exact Fr.refl _ _) | (with_reducible refine Fr.drew ?_) | (with_reducible refine Fr.drewN ?_ _) | (with_reducible refine Fr.alloc ?_ _) | (with_reducible refine Fr.set1 ?_ _) | (with_reducible refine Fr.setNew ?_ (by omega) _))) <;> exact FA.out⟩
    · skip
      have hv := Lib.hid (show a.ending = 0 from by simp only [Tx.ending, Nm.zero, z1]; simp [k1, k2, k3, k4])
      have Ba := hb0
      have FA := Lib.hid ((Fr.refl (fun _ => False) w).alloc (.cells #[.int .u64 a.id.hi, .int .u64 a.id.lo, .int .u64 a.debit.hi, .int .u64 a.debit.lo, .int .u64 a.credit.hi, .int .u64 a.credit.lo, .int .u64 a.amount.hi, .int .u64 a.amount.lo, .int .u64 a.pending.hi, .int .u64 a.pending.lo, .int .i64 a.timeout, .int .i64 a.ledger, .int .i64 a.code, .int .i64 a.flags, .int .i64 a.stamp, .int .i64 a.born] 26))
      go_enter Tryd.func31, Tryd.ntmps31
      go_wp2_with (first | ((with_reducible refine wpList_load_row_w ?lw 26 _ rfl w.heap.size rfl 26 _ _ _ (by first | (with_reducible exact Ba.out) | (with_reducible exact blk_alloc Ba.out _) | (with_reducible exact blk_alloc (blk_alloc Ba.out _) _) | (with_reducible exact blk_alloc (blk_alloc (blk_alloc Ba.out _) _) _) | (with_reducible exact blk_alloc (blk_alloc (blk_alloc (blk_alloc Ba.out _) _) _) _) | (with_reducible exact blk_alloc (blk_alloc (blk_alloc (blk_alloc (blk_alloc Ba.out _) _) _) _) _) | (with_reducible exact blk_alloc (blk_alloc (blk_alloc (blk_alloc (blk_alloc (blk_alloc Ba.out _) _) _) _) _) _)) Tryd.underlying26 rfl rfl ?_); (case lw => rfl)) | go_in)
      go_ret
      exact ⟨Hcg.out _ hv.out, by (repeat (first | (with_reducible exact Fr.refl _ _) | (with_reducible refine Fr.drew ?_) | (with_reducible refine Fr.drewN ?_ _) | (with_reducible refine Fr.alloc ?_ _) | (with_reducible refine Fr.set1 ?_ _) | (with_reducible refine Fr.setNew ?_ (by omega) _))) <;> exact FA.out⟩
  · skip
    have hv := Lib.hid (show a.ending = 16 from by simp only [Tx.ending, Nm.zero, z1]; rfl)
    have Ba := hb0
    have FA := Lib.hid ((Fr.refl (fun _ => False) w).alloc (.cells #[.int .u64 a.id.hi, .int .u64 a.id.lo, .int .u64 a.debit.hi, .int .u64 a.debit.lo, .int .u64 a.credit.hi, .int .u64 a.credit.lo, .int .u64 a.amount.hi, .int .u64 a.amount.lo, .int .u64 a.pending.hi, .int .u64 a.pending.lo, .int .i64 a.timeout, .int .i64 a.ledger, .int .i64 a.code, .int .i64 a.flags, .int .i64 a.stamp, .int .i64 a.born] 26))
    go_enter Tryd.func31, Tryd.ntmps31
    go_wp2_with (first | ((with_reducible refine wpList_load_row_w ?lw 26 _ rfl w.heap.size rfl 26 _ _ _ (by first | (with_reducible exact Ba.out) | (with_reducible exact blk_alloc Ba.out _) | (with_reducible exact blk_alloc (blk_alloc Ba.out _) _) | (with_reducible exact blk_alloc (blk_alloc (blk_alloc Ba.out _) _) _) | (with_reducible exact blk_alloc (blk_alloc (blk_alloc (blk_alloc Ba.out _) _) _) _) | (with_reducible exact blk_alloc (blk_alloc (blk_alloc (blk_alloc (blk_alloc Ba.out _) _) _) _) _) | (with_reducible exact blk_alloc (blk_alloc (blk_alloc (blk_alloc (blk_alloc (blk_alloc Ba.out _) _) _) _) _) _)) Tryd.underlying26 rfl rfl ?_); (case lw => rfl)) | go_in)
    go_ret
    exact ⟨Hcg.out _ hv.out, by (repeat (first | (with_reducible exact Fr.refl _ _) | (with_reducible refine Fr.drew ?_) | (with_reducible refine Fr.drewN ?_ _) | (with_reducible refine Fr.alloc ?_ _) | (with_reducible refine Fr.set1 ?_ _) | (with_reducible refine Fr.setNew ?_ (by omega) _))) <;> exact FA.out⟩
end Go.Proofs.YtiabpnhkihbkjaaDoor
