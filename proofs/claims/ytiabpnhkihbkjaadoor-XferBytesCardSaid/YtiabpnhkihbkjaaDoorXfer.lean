/- Package xfer: Ends, Pending, Balances, together, ending, moving, Check. -/
import Derived.Test.YtiabpnhkihbkjaaDoorEqTx
import Derived.Test.YtiabpnhkihbkjaaDoorNm
import Derived.Test.YtiabpnhkihbkjaaDoorLoads
import Derived.LoopN
namespace Go.Proofs.YtiabpnhkihbkjaaDoor
open Go.RowKit

structure Tx where
  id : Nm
  debit : Nm
  credit : Nm
  amount : Nm
  pending : Nm
  timeout : Int
  ledger : Int
  code : Int
  flags : Int
  stamp : Int
  born : Int
def Tx.val (a : Tx) : Value := .agg #[.int .u64 a.id.hi, .int .u64 a.id.lo, .int .u64 a.debit.hi, .int .u64 a.debit.lo, .int .u64 a.credit.hi, .int .u64 a.credit.lo, .int .u64 a.amount.hi, .int .u64 a.amount.lo, .int .u64 a.pending.hi, .int .u64 a.pending.lo, .int .i64 a.timeout, .int .i64 a.ledger, .int .i64 a.code, .int .i64 a.flags, .int .i64 a.stamp, .int .i64 a.born]
structure Tx.ok (a : Tx) : Prop where
  id : a.id.ok
  debit : a.debit.ok
  credit : a.credit.ok
  amount : a.amount.ok
  pending : a.pending.ok
  timeout : -9223372036854775808 ≤ a.timeout ∧ a.timeout ≤ 9223372036854775807
  ledger : -9223372036854775808 ≤ a.ledger ∧ a.ledger ≤ 9223372036854775807
  code : -9223372036854775808 ≤ a.code ∧ a.code ≤ 9223372036854775807
  flags : -9223372036854775808 ≤ a.flags ∧ a.flags ≤ 9223372036854775807
  stamp : -9223372036854775808 ≤ a.stamp ∧ a.stamp ≤ 9223372036854775807
  born : -9223372036854775808 ≤ a.born ∧ a.born ≤ 9223372036854775807
theorem Ends_any (w : World) (a : Tx) :
    Calls Tryd.prog 12 #[.agg #[.int .u64 a.id.hi, .int .u64 a.id.lo, .int .u64 a.debit.hi, .int .u64 a.debit.lo, .int .u64 a.credit.hi, .int .u64 a.credit.lo, .int .u64 a.amount.hi, .int .u64 a.amount.lo, .int .u64 a.pending.hi, .int .u64 a.pending.lo, .int .i64 a.timeout, .int .i64 a.ledger, .int .i64 a.code, .int .i64 a.flags, .int .i64 a.stamp, .int .i64 a.born]] w fun e w' => e = .returned (.bool (bits .and .i64 a.flags 12 != 0)) ∧ Fr (fun _ => False) w w' := by
  go_enter Tryd.func12, Tryd.ntmps12
  go_wp2
  go_ret
  exact ⟨rfl, (Fr.refl _ w).alloc _⟩
theorem Pending_any (w : World) (a : Tx) :
    Calls Tryd.prog 13 #[.agg #[.int .u64 a.id.hi, .int .u64 a.id.lo, .int .u64 a.debit.hi, .int .u64 a.debit.lo, .int .u64 a.credit.hi, .int .u64 a.credit.lo, .int .u64 a.amount.hi, .int .u64 a.amount.lo, .int .u64 a.pending.hi, .int .u64 a.pending.lo, .int .i64 a.timeout, .int .i64 a.ledger, .int .i64 a.code, .int .i64 a.flags, .int .i64 a.stamp, .int .i64 a.born]] w fun e w' => e = .returned (.bool (bits .and .i64 a.flags 2 != 0)) ∧ Fr (fun _ => False) w w' := by
  go_enter Tryd.func13, Tryd.ntmps13
  go_wp2
  go_ret
  exact ⟨rfl, (Fr.refl _ w).alloc _⟩
theorem Balances_any (w : World) (a : Tx) :
    Calls Tryd.prog 14 #[.agg #[.int .u64 a.id.hi, .int .u64 a.id.lo, .int .u64 a.debit.hi, .int .u64 a.debit.lo, .int .u64 a.credit.hi, .int .u64 a.credit.lo, .int .u64 a.amount.hi, .int .u64 a.amount.lo, .int .u64 a.pending.hi, .int .u64 a.pending.lo, .int .i64 a.timeout, .int .i64 a.ledger, .int .i64 a.code, .int .i64 a.flags, .int .i64 a.stamp, .int .i64 a.born]] w fun e w' => e = .returned (.bool (bits .and .i64 a.flags 48 != 0)) ∧ Fr (fun _ => False) w w' := by
  go_enter Tryd.func14, Tryd.ntmps14
  go_wp2
  go_ret
  exact ⟨rfl, (Fr.refl _ w).alloc _⟩
theorem idx3_0 (W : World) (x0 x1 x2 : Value) : (Instr.index 59 (.agg #[x0, x1, x2]) (.int .i64 0)).run Tryd.prog W = .ok x0 W := by
  kernel_rfl
theorem idx3_1 (W : World) (x0 x1 x2 : Value) : (Instr.index 59 (.agg #[x0, x1, x2]) (.int .i64 1)).run Tryd.prog W = .ok x1 W := by
  kernel_rfl
theorem idx3_2 (W : World) (x0 x1 x2 : Value) : (Instr.index 59 (.agg #[x0, x1, x2]) (.int .i64 2)).run Tryd.prog W = .ok x2 W := by
  kernel_rfl
/-- The flags go together. -/
def Tx.together (a : Tx) : Bool :=
  !((bits .and .i64 a.flags 2 != 0 && bits .and .i64 a.flags 4 != 0) || (bits .and .i64 a.flags 2 != 0 && bits .and .i64 a.flags 8 != 0) || (bits .and .i64 a.flags 4 != 0 && bits .and .i64 a.flags 8 != 0)) &&
    (!(bits .and .i64 a.flags 12 != 0 && bits .and .i64 a.flags 240 != 0) && (bits .and .i64 a.flags 192 == 0 || bits .and .i64 a.flags 2 != 0))

set_option maxHeartbeats 12800000 in
theorem together_0 (w : World) (a : Tx) (p2 : (bits .and .i64 a.flags 2 != 0) = false) (p4 : (bits .and .i64 a.flags 4 != 0) = false) (p8 : (bits .and .i64 a.flags 8 != 0) = false) :
    Calls Tryd.prog 30 #[.agg #[.int .u64 a.id.hi, .int .u64 a.id.lo, .int .u64 a.debit.hi, .int .u64 a.debit.lo, .int .u64 a.credit.hi, .int .u64 a.credit.lo, .int .u64 a.amount.hi, .int .u64 a.amount.lo, .int .u64 a.pending.hi, .int .u64 a.pending.lo, .int .i64 a.timeout, .int .i64 a.ledger, .int .i64 a.code, .int .i64 a.flags, .int .i64 a.stamp, .int .i64 a.born]] w fun e w' => e = .returned (.bool a.together) ∧ Fr (fun _ => False) w w' := by
  have hcg : ∀ v, a.together = v → Ending.returned (Value.bool v) = Ending.returned (.bool a.together) := fun v h => by rw [h]
  have Hcg := Lib.hid hcg
  clear hcg
  have hb0 := Lib.hid (heap_alloc_new w (.cells #[.int .u64 a.id.hi, .int .u64 a.id.lo, .int .u64 a.debit.hi, .int .u64 a.debit.lo, .int .u64 a.credit.hi, .int .u64 a.credit.lo, .int .u64 a.amount.hi, .int .u64 a.amount.lo, .int .u64 a.pending.hi, .int .u64 a.pending.lo, .int .i64 a.timeout, .int .i64 a.ledger, .int .i64 a.code, .int .i64 a.flags, .int .i64 a.stamp, .int .i64 a.born] 26))
  have HEnds := Lib.hid (show ∀ W, Calls Tryd.prog 12 #[.agg #[.int .u64 a.id.hi, .int .u64 a.id.lo, .int .u64 a.debit.hi, .int .u64 a.debit.lo, .int .u64 a.credit.hi, .int .u64 a.credit.lo, .int .u64 a.amount.hi, .int .u64 a.amount.lo, .int .u64 a.pending.hi, .int .u64 a.pending.lo, .int .i64 a.timeout, .int .i64 a.ledger, .int .i64 a.code, .int .i64 a.flags, .int .i64 a.stamp, .int .i64 a.born]] W fun e w' => e = .returned (.bool (bits .and .i64 a.flags 12 != 0)) ∧ Fr (fun _ => False) W w' from fun W => Ends_any W a)
  have HPending := Lib.hid (show ∀ W, Calls Tryd.prog 13 #[.agg #[.int .u64 a.id.hi, .int .u64 a.id.lo, .int .u64 a.debit.hi, .int .u64 a.debit.lo, .int .u64 a.credit.hi, .int .u64 a.credit.lo, .int .u64 a.amount.hi, .int .u64 a.amount.lo, .int .u64 a.pending.hi, .int .u64 a.pending.lo, .int .i64 a.timeout, .int .i64 a.ledger, .int .i64 a.code, .int .i64 a.flags, .int .i64 a.stamp, .int .i64 a.born]] W fun e w' => e = .returned (.bool (bits .and .i64 a.flags 2 != 0)) ∧ Fr (fun _ => False) W w' from fun W => Pending_any W a)
  rw [p2] at HPending
  rcases (show ((bits .and .i64 a.flags 12 != 0) = false ∧ (bits .and .i64 a.flags 192 == 0) = true) ∨ ((bits .and .i64 a.flags 12 != 0) = false ∧ (bits .and .i64 a.flags 192 == 0) = false) ∨ ((bits .and .i64 a.flags 12 != 0) = true ∧ (bits .and .i64 a.flags 240 != 0) = true) ∨ ((bits .and .i64 a.flags 12 != 0) = true ∧ (bits .and .i64 a.flags 240 != 0) = false ∧ (bits .and .i64 a.flags 192 == 0) = true) ∨ ((bits .and .i64 a.flags 12 != 0) = true ∧ (bits .and .i64 a.flags 240 != 0) = false ∧ (bits .and .i64 a.flags 192 == 0) = false) from by cases (bits .and .i64 a.flags 12 != 0) <;> cases (bits .and .i64 a.flags 240 != 0) <;> cases (bits .and .i64 a.flags 192 == 0) <;> simp) with ⟨p12, p192⟩ | ⟨p12, p192⟩ | ⟨p12, p240⟩ | ⟨p12, p240, p192⟩ | ⟨p12, p240, p192⟩
  all_goals
    rw [p12] at HEnds
    have hv := Lib.hid (show ∀ v, (v = a.together) → Ending.returned (Value.bool v) = Ending.returned (.bool a.together) from fun v h => by rw [h])
    have i0 := idx3_0; have i1 := idx3_1; have i2 := idx3_2
    go_enter Tryd.func30, Tryd.ntmps30
    go_wp2
    refine wp_loop_rounds 4 ?_
    rw [rounds_succ]; go_wp2
    rw [rounds_succ]; go_wp2
    rw [rounds_succ]; go_wp2
    rw [rounds_succ]
    clear i0 i1 i2
    have Ba := hb0
    have FA := Lib.hid ((Fr.refl (fun _ => False) w).alloc (.cells #[.int .u64 a.id.hi, .int .u64 a.id.lo, .int .u64 a.debit.hi, .int .u64 a.debit.lo, .int .u64 a.credit.hi, .int .u64 a.credit.lo, .int .u64 a.amount.hi, .int .u64 a.amount.lo, .int .u64 a.pending.hi, .int .u64 a.pending.lo, .int .i64 a.timeout, .int .i64 a.ledger, .int .i64 a.code, .int .i64 a.flags, .int .i64 a.stamp, .int .i64 a.born] 26))
    go_wp2_with (first | (go_at_call 12; go_must (refine (HEnds.out _).mono ?_; rintro e w2 ⟨rfl, f2⟩; have ba : w2.heap[w.heap.size]? = some (.cells #[.int .u64 a.id.hi, .int .u64 a.id.lo, .int .u64 a.debit.hi, .int .u64 a.debit.lo, .int .u64 a.credit.hi, .int .u64 a.credit.lo, .int .u64 a.amount.hi, .int .u64 a.amount.lo, .int .u64 a.pending.hi, .int .u64 a.pending.lo, .int .i64 a.timeout, .int .i64 a.ledger, .int .i64 a.code, .int .i64 a.flags, .int .i64 a.stamp, .int .i64 a.born] 26 (0, 0)) := f2.blk (by first | (with_reducible exact hb0.out) | (with_reducible exact Ba.out)) (fun h => h); have a0 := blk_cell ba 0 rfl; have a1 := blk_cell ba 1 rfl; have a2 := blk_cell ba 2 rfl; have a3 := blk_cell ba 3 rfl; have a4 := blk_cell ba 4 rfl; have a5 := blk_cell ba 5 rfl; have a6 := blk_cell ba 6 rfl; have a7 := blk_cell ba 7 rfl; have a8 := blk_cell ba 8 rfl; have a9 := blk_cell ba 9 rfl; have a10 := blk_cell ba 10 rfl; have a11 := blk_cell ba 11 rfl; have a12 := blk_cell ba 12 rfl; have a13 := blk_cell ba 13 rfl; have a14 := blk_cell ba 14 rfl; have a15 := blk_cell ba 15 rfl; have Ba := Lib.hid ba; have FA := Lib.hid (FA.out.then_ f2 (fun _ h => h.elim)); clear f2 ba)) | (go_at_call 13; go_must (refine (HPending.out _).mono ?_; rintro e w2 ⟨rfl, f2⟩; have ba : w2.heap[w.heap.size]? = some (.cells #[.int .u64 a.id.hi, .int .u64 a.id.lo, .int .u64 a.debit.hi, .int .u64 a.debit.lo, .int .u64 a.credit.hi, .int .u64 a.credit.lo, .int .u64 a.amount.hi, .int .u64 a.amount.lo, .int .u64 a.pending.hi, .int .u64 a.pending.lo, .int .i64 a.timeout, .int .i64 a.ledger, .int .i64 a.code, .int .i64 a.flags, .int .i64 a.stamp, .int .i64 a.born] 26 (0, 0)) := f2.blk (by first | (with_reducible exact hb0.out) | (with_reducible exact Ba.out)) (fun h => h); have a0 := blk_cell ba 0 rfl; have a1 := blk_cell ba 1 rfl; have a2 := blk_cell ba 2 rfl; have a3 := blk_cell ba 3 rfl; have a4 := blk_cell ba 4 rfl; have a5 := blk_cell ba 5 rfl; have a6 := blk_cell ba 6 rfl; have a7 := blk_cell ba 7 rfl; have a8 := blk_cell ba 8 rfl; have a9 := blk_cell ba 9 rfl; have a10 := blk_cell ba 10 rfl; have a11 := blk_cell ba 11 rfl; have a12 := blk_cell ba 12 rfl; have a13 := blk_cell ba 13 rfl; have a14 := blk_cell ba 14 rfl; have a15 := blk_cell ba 15 rfl; have Ba := Lib.hid ba; have FA := Lib.hid (FA.out.then_ f2 (fun _ h => h.elim)); clear f2 ba)) | ((with_reducible refine wpList_load_row_w ?lw 26 _ rfl w.heap.size rfl 26 _ _ _ (by first | (with_reducible exact Ba.out) | (with_reducible exact blk_alloc Ba.out _) | (with_reducible exact blk_alloc (blk_alloc Ba.out _) _)) Tryd.underlying26 rfl rfl ?_); (case lw => rfl)))
    go_ret
    exact ⟨hv.out _ (by unfold Tx.together; simp [*]), FA.out⟩
set_option maxHeartbeats 12800000 in
theorem together_1 (w : World) (a : Tx) (p2 : (bits .and .i64 a.flags 2 != 0) = true) (p4 : (bits .and .i64 a.flags 4 != 0) = false) (p8 : (bits .and .i64 a.flags 8 != 0) = false) :
    Calls Tryd.prog 30 #[.agg #[.int .u64 a.id.hi, .int .u64 a.id.lo, .int .u64 a.debit.hi, .int .u64 a.debit.lo, .int .u64 a.credit.hi, .int .u64 a.credit.lo, .int .u64 a.amount.hi, .int .u64 a.amount.lo, .int .u64 a.pending.hi, .int .u64 a.pending.lo, .int .i64 a.timeout, .int .i64 a.ledger, .int .i64 a.code, .int .i64 a.flags, .int .i64 a.stamp, .int .i64 a.born]] w fun e w' => e = .returned (.bool a.together) ∧ Fr (fun _ => False) w w' := by
  have hcg : ∀ v, a.together = v → Ending.returned (Value.bool v) = Ending.returned (.bool a.together) := fun v h => by rw [h]
  have Hcg := Lib.hid hcg
  clear hcg
  have hb0 := Lib.hid (heap_alloc_new w (.cells #[.int .u64 a.id.hi, .int .u64 a.id.lo, .int .u64 a.debit.hi, .int .u64 a.debit.lo, .int .u64 a.credit.hi, .int .u64 a.credit.lo, .int .u64 a.amount.hi, .int .u64 a.amount.lo, .int .u64 a.pending.hi, .int .u64 a.pending.lo, .int .i64 a.timeout, .int .i64 a.ledger, .int .i64 a.code, .int .i64 a.flags, .int .i64 a.stamp, .int .i64 a.born] 26))
  have HEnds := Lib.hid (show ∀ W, Calls Tryd.prog 12 #[.agg #[.int .u64 a.id.hi, .int .u64 a.id.lo, .int .u64 a.debit.hi, .int .u64 a.debit.lo, .int .u64 a.credit.hi, .int .u64 a.credit.lo, .int .u64 a.amount.hi, .int .u64 a.amount.lo, .int .u64 a.pending.hi, .int .u64 a.pending.lo, .int .i64 a.timeout, .int .i64 a.ledger, .int .i64 a.code, .int .i64 a.flags, .int .i64 a.stamp, .int .i64 a.born]] W fun e w' => e = .returned (.bool (bits .and .i64 a.flags 12 != 0)) ∧ Fr (fun _ => False) W w' from fun W => Ends_any W a)
  have HPending := Lib.hid (show ∀ W, Calls Tryd.prog 13 #[.agg #[.int .u64 a.id.hi, .int .u64 a.id.lo, .int .u64 a.debit.hi, .int .u64 a.debit.lo, .int .u64 a.credit.hi, .int .u64 a.credit.lo, .int .u64 a.amount.hi, .int .u64 a.amount.lo, .int .u64 a.pending.hi, .int .u64 a.pending.lo, .int .i64 a.timeout, .int .i64 a.ledger, .int .i64 a.code, .int .i64 a.flags, .int .i64 a.stamp, .int .i64 a.born]] W fun e w' => e = .returned (.bool (bits .and .i64 a.flags 2 != 0)) ∧ Fr (fun _ => False) W w' from fun W => Pending_any W a)
  rw [p2] at HPending
  rcases (show ((bits .and .i64 a.flags 12 != 0) = false ∧ (bits .and .i64 a.flags 192 == 0) = true) ∨ ((bits .and .i64 a.flags 12 != 0) = false ∧ (bits .and .i64 a.flags 192 == 0) = false) ∨ ((bits .and .i64 a.flags 12 != 0) = true ∧ (bits .and .i64 a.flags 240 != 0) = true) ∨ ((bits .and .i64 a.flags 12 != 0) = true ∧ (bits .and .i64 a.flags 240 != 0) = false ∧ (bits .and .i64 a.flags 192 == 0) = true) ∨ ((bits .and .i64 a.flags 12 != 0) = true ∧ (bits .and .i64 a.flags 240 != 0) = false ∧ (bits .and .i64 a.flags 192 == 0) = false) from by cases (bits .and .i64 a.flags 12 != 0) <;> cases (bits .and .i64 a.flags 240 != 0) <;> cases (bits .and .i64 a.flags 192 == 0) <;> simp) with ⟨p12, p192⟩ | ⟨p12, p192⟩ | ⟨p12, p240⟩ | ⟨p12, p240, p192⟩ | ⟨p12, p240, p192⟩
  all_goals
    rw [p12] at HEnds
    have hv := Lib.hid (show ∀ v, (v = a.together) → Ending.returned (Value.bool v) = Ending.returned (.bool a.together) from fun v h => by rw [h])
    have i0 := idx3_0; have i1 := idx3_1; have i2 := idx3_2
    go_enter Tryd.func30, Tryd.ntmps30
    go_wp2
    refine wp_loop_rounds 4 ?_
    rw [rounds_succ]; go_wp2
    rw [rounds_succ]; go_wp2
    rw [rounds_succ]; go_wp2
    rw [rounds_succ]
    clear i0 i1 i2
    have Ba := hb0
    have FA := Lib.hid ((Fr.refl (fun _ => False) w).alloc (.cells #[.int .u64 a.id.hi, .int .u64 a.id.lo, .int .u64 a.debit.hi, .int .u64 a.debit.lo, .int .u64 a.credit.hi, .int .u64 a.credit.lo, .int .u64 a.amount.hi, .int .u64 a.amount.lo, .int .u64 a.pending.hi, .int .u64 a.pending.lo, .int .i64 a.timeout, .int .i64 a.ledger, .int .i64 a.code, .int .i64 a.flags, .int .i64 a.stamp, .int .i64 a.born] 26))
    go_wp2_with (first | (go_at_call 12; go_must (refine (HEnds.out _).mono ?_; rintro e w2 ⟨rfl, f2⟩; have ba : w2.heap[w.heap.size]? = some (.cells #[.int .u64 a.id.hi, .int .u64 a.id.lo, .int .u64 a.debit.hi, .int .u64 a.debit.lo, .int .u64 a.credit.hi, .int .u64 a.credit.lo, .int .u64 a.amount.hi, .int .u64 a.amount.lo, .int .u64 a.pending.hi, .int .u64 a.pending.lo, .int .i64 a.timeout, .int .i64 a.ledger, .int .i64 a.code, .int .i64 a.flags, .int .i64 a.stamp, .int .i64 a.born] 26 (0, 0)) := f2.blk (by first | (with_reducible exact hb0.out) | (with_reducible exact Ba.out)) (fun h => h); have a0 := blk_cell ba 0 rfl; have a1 := blk_cell ba 1 rfl; have a2 := blk_cell ba 2 rfl; have a3 := blk_cell ba 3 rfl; have a4 := blk_cell ba 4 rfl; have a5 := blk_cell ba 5 rfl; have a6 := blk_cell ba 6 rfl; have a7 := blk_cell ba 7 rfl; have a8 := blk_cell ba 8 rfl; have a9 := blk_cell ba 9 rfl; have a10 := blk_cell ba 10 rfl; have a11 := blk_cell ba 11 rfl; have a12 := blk_cell ba 12 rfl; have a13 := blk_cell ba 13 rfl; have a14 := blk_cell ba 14 rfl; have a15 := blk_cell ba 15 rfl; have Ba := Lib.hid ba; have FA := Lib.hid (FA.out.then_ f2 (fun _ h => h.elim)); clear f2 ba)) | (go_at_call 13; go_must (refine (HPending.out _).mono ?_; rintro e w2 ⟨rfl, f2⟩; have ba : w2.heap[w.heap.size]? = some (.cells #[.int .u64 a.id.hi, .int .u64 a.id.lo, .int .u64 a.debit.hi, .int .u64 a.debit.lo, .int .u64 a.credit.hi, .int .u64 a.credit.lo, .int .u64 a.amount.hi, .int .u64 a.amount.lo, .int .u64 a.pending.hi, .int .u64 a.pending.lo, .int .i64 a.timeout, .int .i64 a.ledger, .int .i64 a.code, .int .i64 a.flags, .int .i64 a.stamp, .int .i64 a.born] 26 (0, 0)) := f2.blk (by first | (with_reducible exact hb0.out) | (with_reducible exact Ba.out)) (fun h => h); have a0 := blk_cell ba 0 rfl; have a1 := blk_cell ba 1 rfl; have a2 := blk_cell ba 2 rfl; have a3 := blk_cell ba 3 rfl; have a4 := blk_cell ba 4 rfl; have a5 := blk_cell ba 5 rfl; have a6 := blk_cell ba 6 rfl; have a7 := blk_cell ba 7 rfl; have a8 := blk_cell ba 8 rfl; have a9 := blk_cell ba 9 rfl; have a10 := blk_cell ba 10 rfl; have a11 := blk_cell ba 11 rfl; have a12 := blk_cell ba 12 rfl; have a13 := blk_cell ba 13 rfl; have a14 := blk_cell ba 14 rfl; have a15 := blk_cell ba 15 rfl; have Ba := Lib.hid ba; have FA := Lib.hid (FA.out.then_ f2 (fun _ h => h.elim)); clear f2 ba)) | ((with_reducible refine wpList_load_row_w ?lw 26 _ rfl w.heap.size rfl 26 _ _ _ (by first | (with_reducible exact Ba.out) | (with_reducible exact blk_alloc Ba.out _) | (with_reducible exact blk_alloc (blk_alloc Ba.out _) _)) Tryd.underlying26 rfl rfl ?_); (case lw => rfl)))
    go_ret
    exact ⟨hv.out _ (by unfold Tx.together; simp [*]), FA.out⟩
set_option maxHeartbeats 12800000 in
theorem together_2 (w : World) (a : Tx) (p2 : (bits .and .i64 a.flags 2 != 0) = false) (p4 : (bits .and .i64 a.flags 4 != 0) = true) (p8 : (bits .and .i64 a.flags 8 != 0) = false) :
    Calls Tryd.prog 30 #[.agg #[.int .u64 a.id.hi, .int .u64 a.id.lo, .int .u64 a.debit.hi, .int .u64 a.debit.lo, .int .u64 a.credit.hi, .int .u64 a.credit.lo, .int .u64 a.amount.hi, .int .u64 a.amount.lo, .int .u64 a.pending.hi, .int .u64 a.pending.lo, .int .i64 a.timeout, .int .i64 a.ledger, .int .i64 a.code, .int .i64 a.flags, .int .i64 a.stamp, .int .i64 a.born]] w fun e w' => e = .returned (.bool a.together) ∧ Fr (fun _ => False) w w' := by
  have hcg : ∀ v, a.together = v → Ending.returned (Value.bool v) = Ending.returned (.bool a.together) := fun v h => by rw [h]
  have Hcg := Lib.hid hcg
  clear hcg
  have hb0 := Lib.hid (heap_alloc_new w (.cells #[.int .u64 a.id.hi, .int .u64 a.id.lo, .int .u64 a.debit.hi, .int .u64 a.debit.lo, .int .u64 a.credit.hi, .int .u64 a.credit.lo, .int .u64 a.amount.hi, .int .u64 a.amount.lo, .int .u64 a.pending.hi, .int .u64 a.pending.lo, .int .i64 a.timeout, .int .i64 a.ledger, .int .i64 a.code, .int .i64 a.flags, .int .i64 a.stamp, .int .i64 a.born] 26))
  have HEnds := Lib.hid (show ∀ W, Calls Tryd.prog 12 #[.agg #[.int .u64 a.id.hi, .int .u64 a.id.lo, .int .u64 a.debit.hi, .int .u64 a.debit.lo, .int .u64 a.credit.hi, .int .u64 a.credit.lo, .int .u64 a.amount.hi, .int .u64 a.amount.lo, .int .u64 a.pending.hi, .int .u64 a.pending.lo, .int .i64 a.timeout, .int .i64 a.ledger, .int .i64 a.code, .int .i64 a.flags, .int .i64 a.stamp, .int .i64 a.born]] W fun e w' => e = .returned (.bool (bits .and .i64 a.flags 12 != 0)) ∧ Fr (fun _ => False) W w' from fun W => Ends_any W a)
  have HPending := Lib.hid (show ∀ W, Calls Tryd.prog 13 #[.agg #[.int .u64 a.id.hi, .int .u64 a.id.lo, .int .u64 a.debit.hi, .int .u64 a.debit.lo, .int .u64 a.credit.hi, .int .u64 a.credit.lo, .int .u64 a.amount.hi, .int .u64 a.amount.lo, .int .u64 a.pending.hi, .int .u64 a.pending.lo, .int .i64 a.timeout, .int .i64 a.ledger, .int .i64 a.code, .int .i64 a.flags, .int .i64 a.stamp, .int .i64 a.born]] W fun e w' => e = .returned (.bool (bits .and .i64 a.flags 2 != 0)) ∧ Fr (fun _ => False) W w' from fun W => Pending_any W a)
  rw [p2] at HPending
  rcases (show ((bits .and .i64 a.flags 12 != 0) = false ∧ (bits .and .i64 a.flags 192 == 0) = true) ∨ ((bits .and .i64 a.flags 12 != 0) = false ∧ (bits .and .i64 a.flags 192 == 0) = false) ∨ ((bits .and .i64 a.flags 12 != 0) = true ∧ (bits .and .i64 a.flags 240 != 0) = true) ∨ ((bits .and .i64 a.flags 12 != 0) = true ∧ (bits .and .i64 a.flags 240 != 0) = false ∧ (bits .and .i64 a.flags 192 == 0) = true) ∨ ((bits .and .i64 a.flags 12 != 0) = true ∧ (bits .and .i64 a.flags 240 != 0) = false ∧ (bits .and .i64 a.flags 192 == 0) = false) from by cases (bits .and .i64 a.flags 12 != 0) <;> cases (bits .and .i64 a.flags 240 != 0) <;> cases (bits .and .i64 a.flags 192 == 0) <;> simp) with ⟨p12, p192⟩ | ⟨p12, p192⟩ | ⟨p12, p240⟩ | ⟨p12, p240, p192⟩ | ⟨p12, p240, p192⟩
  all_goals
    rw [p12] at HEnds
    have hv := Lib.hid (show ∀ v, (v = a.together) → Ending.returned (Value.bool v) = Ending.returned (.bool a.together) from fun v h => by rw [h])
    have i0 := idx3_0; have i1 := idx3_1; have i2 := idx3_2
    go_enter Tryd.func30, Tryd.ntmps30
    go_wp2
    refine wp_loop_rounds 4 ?_
    rw [rounds_succ]; go_wp2
    rw [rounds_succ]; go_wp2
    rw [rounds_succ]; go_wp2
    rw [rounds_succ]
    clear i0 i1 i2
    have Ba := hb0
    have FA := Lib.hid ((Fr.refl (fun _ => False) w).alloc (.cells #[.int .u64 a.id.hi, .int .u64 a.id.lo, .int .u64 a.debit.hi, .int .u64 a.debit.lo, .int .u64 a.credit.hi, .int .u64 a.credit.lo, .int .u64 a.amount.hi, .int .u64 a.amount.lo, .int .u64 a.pending.hi, .int .u64 a.pending.lo, .int .i64 a.timeout, .int .i64 a.ledger, .int .i64 a.code, .int .i64 a.flags, .int .i64 a.stamp, .int .i64 a.born] 26))
    go_wp2_with (first | (go_at_call 12; go_must (refine (HEnds.out _).mono ?_; rintro e w2 ⟨rfl, f2⟩; have ba : w2.heap[w.heap.size]? = some (.cells #[.int .u64 a.id.hi, .int .u64 a.id.lo, .int .u64 a.debit.hi, .int .u64 a.debit.lo, .int .u64 a.credit.hi, .int .u64 a.credit.lo, .int .u64 a.amount.hi, .int .u64 a.amount.lo, .int .u64 a.pending.hi, .int .u64 a.pending.lo, .int .i64 a.timeout, .int .i64 a.ledger, .int .i64 a.code, .int .i64 a.flags, .int .i64 a.stamp, .int .i64 a.born] 26 (0, 0)) := f2.blk (by first | (with_reducible exact hb0.out) | (with_reducible exact Ba.out)) (fun h => h); have a0 := blk_cell ba 0 rfl; have a1 := blk_cell ba 1 rfl; have a2 := blk_cell ba 2 rfl; have a3 := blk_cell ba 3 rfl; have a4 := blk_cell ba 4 rfl; have a5 := blk_cell ba 5 rfl; have a6 := blk_cell ba 6 rfl; have a7 := blk_cell ba 7 rfl; have a8 := blk_cell ba 8 rfl; have a9 := blk_cell ba 9 rfl; have a10 := blk_cell ba 10 rfl; have a11 := blk_cell ba 11 rfl; have a12 := blk_cell ba 12 rfl; have a13 := blk_cell ba 13 rfl; have a14 := blk_cell ba 14 rfl; have a15 := blk_cell ba 15 rfl; have Ba := Lib.hid ba; have FA := Lib.hid (FA.out.then_ f2 (fun _ h => h.elim)); clear f2 ba)) | (go_at_call 13; go_must (refine (HPending.out _).mono ?_; rintro e w2 ⟨rfl, f2⟩; have ba : w2.heap[w.heap.size]? = some (.cells #[.int .u64 a.id.hi, .int .u64 a.id.lo, .int .u64 a.debit.hi, .int .u64 a.debit.lo, .int .u64 a.credit.hi, .int .u64 a.credit.lo, .int .u64 a.amount.hi, .int .u64 a.amount.lo, .int .u64 a.pending.hi, .int .u64 a.pending.lo, .int .i64 a.timeout, .int .i64 a.ledger, .int .i64 a.code, .int .i64 a.flags, .int .i64 a.stamp, .int .i64 a.born] 26 (0, 0)) := f2.blk (by first | (with_reducible exact hb0.out) | (with_reducible exact Ba.out)) (fun h => h); have a0 := blk_cell ba 0 rfl; have a1 := blk_cell ba 1 rfl; have a2 := blk_cell ba 2 rfl; have a3 := blk_cell ba 3 rfl; have a4 := blk_cell ba 4 rfl; have a5 := blk_cell ba 5 rfl; have a6 := blk_cell ba 6 rfl; have a7 := blk_cell ba 7 rfl; have a8 := blk_cell ba 8 rfl; have a9 := blk_cell ba 9 rfl; have a10 := blk_cell ba 10 rfl; have a11 := blk_cell ba 11 rfl; have a12 := blk_cell ba 12 rfl; have a13 := blk_cell ba 13 rfl; have a14 := blk_cell ba 14 rfl; have a15 := blk_cell ba 15 rfl; have Ba := Lib.hid ba; have FA := Lib.hid (FA.out.then_ f2 (fun _ h => h.elim)); clear f2 ba)) | ((with_reducible refine wpList_load_row_w ?lw 26 _ rfl w.heap.size rfl 26 _ _ _ (by first | (with_reducible exact Ba.out) | (with_reducible exact blk_alloc Ba.out _) | (with_reducible exact blk_alloc (blk_alloc Ba.out _) _)) Tryd.underlying26 rfl rfl ?_); (case lw => rfl)))
    go_ret
    exact ⟨hv.out _ (by unfold Tx.together; simp [*]), FA.out⟩
set_option maxHeartbeats 12800000 in
theorem together_3 (w : World) (a : Tx) (p2 : (bits .and .i64 a.flags 2 != 0) = true) (p4 : (bits .and .i64 a.flags 4 != 0) = true) (p8 : (bits .and .i64 a.flags 8 != 0) = false) :
    Calls Tryd.prog 30 #[.agg #[.int .u64 a.id.hi, .int .u64 a.id.lo, .int .u64 a.debit.hi, .int .u64 a.debit.lo, .int .u64 a.credit.hi, .int .u64 a.credit.lo, .int .u64 a.amount.hi, .int .u64 a.amount.lo, .int .u64 a.pending.hi, .int .u64 a.pending.lo, .int .i64 a.timeout, .int .i64 a.ledger, .int .i64 a.code, .int .i64 a.flags, .int .i64 a.stamp, .int .i64 a.born]] w fun e w' => e = .returned (.bool a.together) ∧ Fr (fun _ => False) w w' := by
  have hcg : ∀ v, a.together = v → Ending.returned (Value.bool v) = Ending.returned (.bool a.together) := fun v h => by rw [h]
  have Hcg := Lib.hid hcg
  clear hcg
  have hb0 := Lib.hid (heap_alloc_new w (.cells #[.int .u64 a.id.hi, .int .u64 a.id.lo, .int .u64 a.debit.hi, .int .u64 a.debit.lo, .int .u64 a.credit.hi, .int .u64 a.credit.lo, .int .u64 a.amount.hi, .int .u64 a.amount.lo, .int .u64 a.pending.hi, .int .u64 a.pending.lo, .int .i64 a.timeout, .int .i64 a.ledger, .int .i64 a.code, .int .i64 a.flags, .int .i64 a.stamp, .int .i64 a.born] 26))
  have hv := Lib.hid (show ∀ v, (v = a.together) → Ending.returned (Value.bool v) = Ending.returned (.bool a.together) from fun v h => by rw [h])
  have i0 := idx3_0; have i1 := idx3_1; have i2 := idx3_2
  go_enter Tryd.func30, Tryd.ntmps30
  go_wp2
  refine wp_loop_rounds 4 ?_
  rw [rounds_succ]; go_wp2
  rw [rounds_succ]; go_wp2
  rw [rounds_succ]; go_wp2
  rw [rounds_succ]
  clear i0 i1 i2
  have Ba := hb0
  have FA := Lib.hid ((Fr.refl (fun _ => False) w).alloc (.cells #[.int .u64 a.id.hi, .int .u64 a.id.lo, .int .u64 a.debit.hi, .int .u64 a.debit.lo, .int .u64 a.credit.hi, .int .u64 a.credit.lo, .int .u64 a.amount.hi, .int .u64 a.amount.lo, .int .u64 a.pending.hi, .int .u64 a.pending.lo, .int .i64 a.timeout, .int .i64 a.ledger, .int .i64 a.code, .int .i64 a.flags, .int .i64 a.stamp, .int .i64 a.born] 26))
  go_wp2_with fail
  go_ret
  exact ⟨hv.out _ (by unfold Tx.together; simp [*]), FA.out⟩
set_option maxHeartbeats 12800000 in
theorem together_4 (w : World) (a : Tx) (p2 : (bits .and .i64 a.flags 2 != 0) = false) (p4 : (bits .and .i64 a.flags 4 != 0) = false) (p8 : (bits .and .i64 a.flags 8 != 0) = true) :
    Calls Tryd.prog 30 #[.agg #[.int .u64 a.id.hi, .int .u64 a.id.lo, .int .u64 a.debit.hi, .int .u64 a.debit.lo, .int .u64 a.credit.hi, .int .u64 a.credit.lo, .int .u64 a.amount.hi, .int .u64 a.amount.lo, .int .u64 a.pending.hi, .int .u64 a.pending.lo, .int .i64 a.timeout, .int .i64 a.ledger, .int .i64 a.code, .int .i64 a.flags, .int .i64 a.stamp, .int .i64 a.born]] w fun e w' => e = .returned (.bool a.together) ∧ Fr (fun _ => False) w w' := by
  have hcg : ∀ v, a.together = v → Ending.returned (Value.bool v) = Ending.returned (.bool a.together) := fun v h => by rw [h]
  have Hcg := Lib.hid hcg
  clear hcg
  have hb0 := Lib.hid (heap_alloc_new w (.cells #[.int .u64 a.id.hi, .int .u64 a.id.lo, .int .u64 a.debit.hi, .int .u64 a.debit.lo, .int .u64 a.credit.hi, .int .u64 a.credit.lo, .int .u64 a.amount.hi, .int .u64 a.amount.lo, .int .u64 a.pending.hi, .int .u64 a.pending.lo, .int .i64 a.timeout, .int .i64 a.ledger, .int .i64 a.code, .int .i64 a.flags, .int .i64 a.stamp, .int .i64 a.born] 26))
  have HEnds := Lib.hid (show ∀ W, Calls Tryd.prog 12 #[.agg #[.int .u64 a.id.hi, .int .u64 a.id.lo, .int .u64 a.debit.hi, .int .u64 a.debit.lo, .int .u64 a.credit.hi, .int .u64 a.credit.lo, .int .u64 a.amount.hi, .int .u64 a.amount.lo, .int .u64 a.pending.hi, .int .u64 a.pending.lo, .int .i64 a.timeout, .int .i64 a.ledger, .int .i64 a.code, .int .i64 a.flags, .int .i64 a.stamp, .int .i64 a.born]] W fun e w' => e = .returned (.bool (bits .and .i64 a.flags 12 != 0)) ∧ Fr (fun _ => False) W w' from fun W => Ends_any W a)
  have HPending := Lib.hid (show ∀ W, Calls Tryd.prog 13 #[.agg #[.int .u64 a.id.hi, .int .u64 a.id.lo, .int .u64 a.debit.hi, .int .u64 a.debit.lo, .int .u64 a.credit.hi, .int .u64 a.credit.lo, .int .u64 a.amount.hi, .int .u64 a.amount.lo, .int .u64 a.pending.hi, .int .u64 a.pending.lo, .int .i64 a.timeout, .int .i64 a.ledger, .int .i64 a.code, .int .i64 a.flags, .int .i64 a.stamp, .int .i64 a.born]] W fun e w' => e = .returned (.bool (bits .and .i64 a.flags 2 != 0)) ∧ Fr (fun _ => False) W w' from fun W => Pending_any W a)
  rw [p2] at HPending
  rcases (show ((bits .and .i64 a.flags 12 != 0) = false ∧ (bits .and .i64 a.flags 192 == 0) = true) ∨ ((bits .and .i64 a.flags 12 != 0) = false ∧ (bits .and .i64 a.flags 192 == 0) = false) ∨ ((bits .and .i64 a.flags 12 != 0) = true ∧ (bits .and .i64 a.flags 240 != 0) = true) ∨ ((bits .and .i64 a.flags 12 != 0) = true ∧ (bits .and .i64 a.flags 240 != 0) = false ∧ (bits .and .i64 a.flags 192 == 0) = true) ∨ ((bits .and .i64 a.flags 12 != 0) = true ∧ (bits .and .i64 a.flags 240 != 0) = false ∧ (bits .and .i64 a.flags 192 == 0) = false) from by cases (bits .and .i64 a.flags 12 != 0) <;> cases (bits .and .i64 a.flags 240 != 0) <;> cases (bits .and .i64 a.flags 192 == 0) <;> simp) with ⟨p12, p192⟩ | ⟨p12, p192⟩ | ⟨p12, p240⟩ | ⟨p12, p240, p192⟩ | ⟨p12, p240, p192⟩
  all_goals
    rw [p12] at HEnds
    have hv := Lib.hid (show ∀ v, (v = a.together) → Ending.returned (Value.bool v) = Ending.returned (.bool a.together) from fun v h => by rw [h])
    have i0 := idx3_0; have i1 := idx3_1; have i2 := idx3_2
    go_enter Tryd.func30, Tryd.ntmps30
    go_wp2
    refine wp_loop_rounds 4 ?_
    rw [rounds_succ]; go_wp2
    rw [rounds_succ]; go_wp2
    rw [rounds_succ]; go_wp2
    rw [rounds_succ]
    clear i0 i1 i2
    have Ba := hb0
    have FA := Lib.hid ((Fr.refl (fun _ => False) w).alloc (.cells #[.int .u64 a.id.hi, .int .u64 a.id.lo, .int .u64 a.debit.hi, .int .u64 a.debit.lo, .int .u64 a.credit.hi, .int .u64 a.credit.lo, .int .u64 a.amount.hi, .int .u64 a.amount.lo, .int .u64 a.pending.hi, .int .u64 a.pending.lo, .int .i64 a.timeout, .int .i64 a.ledger, .int .i64 a.code, .int .i64 a.flags, .int .i64 a.stamp, .int .i64 a.born] 26))
    go_wp2_with (first | (go_at_call 12; go_must (refine (HEnds.out _).mono ?_; rintro e w2 ⟨rfl, f2⟩; have ba : w2.heap[w.heap.size]? = some (.cells #[.int .u64 a.id.hi, .int .u64 a.id.lo, .int .u64 a.debit.hi, .int .u64 a.debit.lo, .int .u64 a.credit.hi, .int .u64 a.credit.lo, .int .u64 a.amount.hi, .int .u64 a.amount.lo, .int .u64 a.pending.hi, .int .u64 a.pending.lo, .int .i64 a.timeout, .int .i64 a.ledger, .int .i64 a.code, .int .i64 a.flags, .int .i64 a.stamp, .int .i64 a.born] 26 (0, 0)) := f2.blk (by first | (with_reducible exact hb0.out) | (with_reducible exact Ba.out)) (fun h => h); have a0 := blk_cell ba 0 rfl; have a1 := blk_cell ba 1 rfl; have a2 := blk_cell ba 2 rfl; have a3 := blk_cell ba 3 rfl; have a4 := blk_cell ba 4 rfl; have a5 := blk_cell ba 5 rfl; have a6 := blk_cell ba 6 rfl; have a7 := blk_cell ba 7 rfl; have a8 := blk_cell ba 8 rfl; have a9 := blk_cell ba 9 rfl; have a10 := blk_cell ba 10 rfl; have a11 := blk_cell ba 11 rfl; have a12 := blk_cell ba 12 rfl; have a13 := blk_cell ba 13 rfl; have a14 := blk_cell ba 14 rfl; have a15 := blk_cell ba 15 rfl; have Ba := Lib.hid ba; have FA := Lib.hid (FA.out.then_ f2 (fun _ h => h.elim)); clear f2 ba)) | (go_at_call 13; go_must (refine (HPending.out _).mono ?_; rintro e w2 ⟨rfl, f2⟩; have ba : w2.heap[w.heap.size]? = some (.cells #[.int .u64 a.id.hi, .int .u64 a.id.lo, .int .u64 a.debit.hi, .int .u64 a.debit.lo, .int .u64 a.credit.hi, .int .u64 a.credit.lo, .int .u64 a.amount.hi, .int .u64 a.amount.lo, .int .u64 a.pending.hi, .int .u64 a.pending.lo, .int .i64 a.timeout, .int .i64 a.ledger, .int .i64 a.code, .int .i64 a.flags, .int .i64 a.stamp, .int .i64 a.born] 26 (0, 0)) := f2.blk (by first | (with_reducible exact hb0.out) | (with_reducible exact Ba.out)) (fun h => h); have a0 := blk_cell ba 0 rfl; have a1 := blk_cell ba 1 rfl; have a2 := blk_cell ba 2 rfl; have a3 := blk_cell ba 3 rfl; have a4 := blk_cell ba 4 rfl; have a5 := blk_cell ba 5 rfl; have a6 := blk_cell ba 6 rfl; have a7 := blk_cell ba 7 rfl; have a8 := blk_cell ba 8 rfl; have a9 := blk_cell ba 9 rfl; have a10 := blk_cell ba 10 rfl; have a11 := blk_cell ba 11 rfl; have a12 := blk_cell ba 12 rfl; have a13 := blk_cell ba 13 rfl; have a14 := blk_cell ba 14 rfl; have a15 := blk_cell ba 15 rfl; have Ba := Lib.hid ba; have FA := Lib.hid (FA.out.then_ f2 (fun _ h => h.elim)); clear f2 ba)) | ((with_reducible refine wpList_load_row_w ?lw 26 _ rfl w.heap.size rfl 26 _ _ _ (by first | (with_reducible exact Ba.out) | (with_reducible exact blk_alloc Ba.out _) | (with_reducible exact blk_alloc (blk_alloc Ba.out _) _)) Tryd.underlying26 rfl rfl ?_); (case lw => rfl)))
    go_ret
    exact ⟨hv.out _ (by unfold Tx.together; simp [*]), FA.out⟩
set_option maxHeartbeats 12800000 in
theorem together_5 (w : World) (a : Tx) (p2 : (bits .and .i64 a.flags 2 != 0) = true) (p4 : (bits .and .i64 a.flags 4 != 0) = false) (p8 : (bits .and .i64 a.flags 8 != 0) = true) :
    Calls Tryd.prog 30 #[.agg #[.int .u64 a.id.hi, .int .u64 a.id.lo, .int .u64 a.debit.hi, .int .u64 a.debit.lo, .int .u64 a.credit.hi, .int .u64 a.credit.lo, .int .u64 a.amount.hi, .int .u64 a.amount.lo, .int .u64 a.pending.hi, .int .u64 a.pending.lo, .int .i64 a.timeout, .int .i64 a.ledger, .int .i64 a.code, .int .i64 a.flags, .int .i64 a.stamp, .int .i64 a.born]] w fun e w' => e = .returned (.bool a.together) ∧ Fr (fun _ => False) w w' := by
  have hcg : ∀ v, a.together = v → Ending.returned (Value.bool v) = Ending.returned (.bool a.together) := fun v h => by rw [h]
  have Hcg := Lib.hid hcg
  clear hcg
  have hb0 := Lib.hid (heap_alloc_new w (.cells #[.int .u64 a.id.hi, .int .u64 a.id.lo, .int .u64 a.debit.hi, .int .u64 a.debit.lo, .int .u64 a.credit.hi, .int .u64 a.credit.lo, .int .u64 a.amount.hi, .int .u64 a.amount.lo, .int .u64 a.pending.hi, .int .u64 a.pending.lo, .int .i64 a.timeout, .int .i64 a.ledger, .int .i64 a.code, .int .i64 a.flags, .int .i64 a.stamp, .int .i64 a.born] 26))
  have hv := Lib.hid (show ∀ v, (v = a.together) → Ending.returned (Value.bool v) = Ending.returned (.bool a.together) from fun v h => by rw [h])
  have i0 := idx3_0; have i1 := idx3_1; have i2 := idx3_2
  go_enter Tryd.func30, Tryd.ntmps30
  go_wp2
  refine wp_loop_rounds 4 ?_
  rw [rounds_succ]; go_wp2
  rw [rounds_succ]; go_wp2
  rw [rounds_succ]; go_wp2
  rw [rounds_succ]
  clear i0 i1 i2
  have Ba := hb0
  have FA := Lib.hid ((Fr.refl (fun _ => False) w).alloc (.cells #[.int .u64 a.id.hi, .int .u64 a.id.lo, .int .u64 a.debit.hi, .int .u64 a.debit.lo, .int .u64 a.credit.hi, .int .u64 a.credit.lo, .int .u64 a.amount.hi, .int .u64 a.amount.lo, .int .u64 a.pending.hi, .int .u64 a.pending.lo, .int .i64 a.timeout, .int .i64 a.ledger, .int .i64 a.code, .int .i64 a.flags, .int .i64 a.stamp, .int .i64 a.born] 26))
  go_wp2_with fail
  go_ret
  exact ⟨hv.out _ (by unfold Tx.together; simp [*]), FA.out⟩
set_option maxHeartbeats 12800000 in
theorem together_6 (w : World) (a : Tx) (p2 : (bits .and .i64 a.flags 2 != 0) = false) (p4 : (bits .and .i64 a.flags 4 != 0) = true) (p8 : (bits .and .i64 a.flags 8 != 0) = true) :
    Calls Tryd.prog 30 #[.agg #[.int .u64 a.id.hi, .int .u64 a.id.lo, .int .u64 a.debit.hi, .int .u64 a.debit.lo, .int .u64 a.credit.hi, .int .u64 a.credit.lo, .int .u64 a.amount.hi, .int .u64 a.amount.lo, .int .u64 a.pending.hi, .int .u64 a.pending.lo, .int .i64 a.timeout, .int .i64 a.ledger, .int .i64 a.code, .int .i64 a.flags, .int .i64 a.stamp, .int .i64 a.born]] w fun e w' => e = .returned (.bool a.together) ∧ Fr (fun _ => False) w w' := by
  have hcg : ∀ v, a.together = v → Ending.returned (Value.bool v) = Ending.returned (.bool a.together) := fun v h => by rw [h]
  have Hcg := Lib.hid hcg
  clear hcg
  have hb0 := Lib.hid (heap_alloc_new w (.cells #[.int .u64 a.id.hi, .int .u64 a.id.lo, .int .u64 a.debit.hi, .int .u64 a.debit.lo, .int .u64 a.credit.hi, .int .u64 a.credit.lo, .int .u64 a.amount.hi, .int .u64 a.amount.lo, .int .u64 a.pending.hi, .int .u64 a.pending.lo, .int .i64 a.timeout, .int .i64 a.ledger, .int .i64 a.code, .int .i64 a.flags, .int .i64 a.stamp, .int .i64 a.born] 26))
  have hv := Lib.hid (show ∀ v, (v = a.together) → Ending.returned (Value.bool v) = Ending.returned (.bool a.together) from fun v h => by rw [h])
  have i0 := idx3_0; have i1 := idx3_1; have i2 := idx3_2
  go_enter Tryd.func30, Tryd.ntmps30
  go_wp2
  refine wp_loop_rounds 4 ?_
  rw [rounds_succ]; go_wp2
  rw [rounds_succ]; go_wp2
  rw [rounds_succ]; go_wp2
  rw [rounds_succ]
  clear i0 i1 i2
  have Ba := hb0
  have FA := Lib.hid ((Fr.refl (fun _ => False) w).alloc (.cells #[.int .u64 a.id.hi, .int .u64 a.id.lo, .int .u64 a.debit.hi, .int .u64 a.debit.lo, .int .u64 a.credit.hi, .int .u64 a.credit.lo, .int .u64 a.amount.hi, .int .u64 a.amount.lo, .int .u64 a.pending.hi, .int .u64 a.pending.lo, .int .i64 a.timeout, .int .i64 a.ledger, .int .i64 a.code, .int .i64 a.flags, .int .i64 a.stamp, .int .i64 a.born] 26))
  go_wp2_with fail
  go_ret
  exact ⟨hv.out _ (by unfold Tx.together; simp [*]), FA.out⟩
set_option maxHeartbeats 12800000 in
theorem together_7 (w : World) (a : Tx) (p2 : (bits .and .i64 a.flags 2 != 0) = true) (p4 : (bits .and .i64 a.flags 4 != 0) = true) (p8 : (bits .and .i64 a.flags 8 != 0) = true) :
    Calls Tryd.prog 30 #[.agg #[.int .u64 a.id.hi, .int .u64 a.id.lo, .int .u64 a.debit.hi, .int .u64 a.debit.lo, .int .u64 a.credit.hi, .int .u64 a.credit.lo, .int .u64 a.amount.hi, .int .u64 a.amount.lo, .int .u64 a.pending.hi, .int .u64 a.pending.lo, .int .i64 a.timeout, .int .i64 a.ledger, .int .i64 a.code, .int .i64 a.flags, .int .i64 a.stamp, .int .i64 a.born]] w fun e w' => e = .returned (.bool a.together) ∧ Fr (fun _ => False) w w' := by
  have hcg : ∀ v, a.together = v → Ending.returned (Value.bool v) = Ending.returned (.bool a.together) := fun v h => by rw [h]
  have Hcg := Lib.hid hcg
  clear hcg
  have hb0 := Lib.hid (heap_alloc_new w (.cells #[.int .u64 a.id.hi, .int .u64 a.id.lo, .int .u64 a.debit.hi, .int .u64 a.debit.lo, .int .u64 a.credit.hi, .int .u64 a.credit.lo, .int .u64 a.amount.hi, .int .u64 a.amount.lo, .int .u64 a.pending.hi, .int .u64 a.pending.lo, .int .i64 a.timeout, .int .i64 a.ledger, .int .i64 a.code, .int .i64 a.flags, .int .i64 a.stamp, .int .i64 a.born] 26))
  have hv := Lib.hid (show ∀ v, (v = a.together) → Ending.returned (Value.bool v) = Ending.returned (.bool a.together) from fun v h => by rw [h])
  have i0 := idx3_0; have i1 := idx3_1; have i2 := idx3_2
  go_enter Tryd.func30, Tryd.ntmps30
  go_wp2
  refine wp_loop_rounds 4 ?_
  rw [rounds_succ]; go_wp2
  rw [rounds_succ]; go_wp2
  rw [rounds_succ]; go_wp2
  rw [rounds_succ]
  clear i0 i1 i2
  have Ba := hb0
  have FA := Lib.hid ((Fr.refl (fun _ => False) w).alloc (.cells #[.int .u64 a.id.hi, .int .u64 a.id.lo, .int .u64 a.debit.hi, .int .u64 a.debit.lo, .int .u64 a.credit.hi, .int .u64 a.credit.lo, .int .u64 a.amount.hi, .int .u64 a.amount.lo, .int .u64 a.pending.hi, .int .u64 a.pending.lo, .int .i64 a.timeout, .int .i64 a.ledger, .int .i64 a.code, .int .i64 a.flags, .int .i64 a.stamp, .int .i64 a.born] 26))
  go_wp2_with fail
  go_ret
  exact ⟨hv.out _ (by unfold Tx.together; simp [*]), FA.out⟩
theorem together_any (w : World) (a : Tx) :
    Calls Tryd.prog 30 #[.agg #[.int .u64 a.id.hi, .int .u64 a.id.lo, .int .u64 a.debit.hi, .int .u64 a.debit.lo, .int .u64 a.credit.hi, .int .u64 a.credit.lo, .int .u64 a.amount.hi, .int .u64 a.amount.lo, .int .u64 a.pending.hi, .int .u64 a.pending.lo, .int .i64 a.timeout, .int .i64 a.ledger, .int .i64 a.code, .int .i64 a.flags, .int .i64 a.stamp, .int .i64 a.born]] w fun e w' => e = .returned (.bool a.together) ∧ Fr (fun _ => False) w w' := by
  cases p2 : (bits .and .i64 a.flags 2 != 0) <;> cases p4 : (bits .and .i64 a.flags 4 != 0) <;> cases p8 : (bits .and .i64 a.flags 8 != 0)
  · exact together_0 w a p2 p4 p8
  · exact together_4 w a p2 p4 p8
  · exact together_2 w a p2 p4 p8
  · exact together_6 w a p2 p4 p8
  · exact together_1 w a p2 p4 p8
  · exact together_5 w a p2 p4 p8
  · exact together_3 w a p2 p4 p8
  · exact together_7 w a p2 p4 p8
end Go.Proofs.YtiabpnhkihbkjaaDoor
