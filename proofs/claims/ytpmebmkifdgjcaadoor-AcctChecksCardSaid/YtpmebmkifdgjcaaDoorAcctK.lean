/- AcctChecks. -/
import Derived.Test.YtpmebmkifdgjcaaDoorAcctC
import Derived.Test.YtpmebmkifdgjcaaDoorAlive9
import Derived.Deep.RegionHeld3
namespace Go.Proofs.YtpmebmkifdgjcaaDoor
open Go.RowKit
set_option maxHeartbeats 1600000 in
theorem checks_any (w : World) (a : Acc) (hm : Most w) (oa : a.ok) :
    Calls Tryd.prog 3 #[a.val] w fun e w' => e = .returned (.bool true) ∧ Fr (fun _ => False) w w' := by
  have hpos : 0 < w.heap.size := World.block_lt_of_cell? w _ hm.hi
  have HM := Lib.hid hm
  have OA := Lib.hid oa
  clear hm oa
  have hB := Lib.hid (heap_alloc_new w (.cells #[.int .u64 a.id.hi, .int .u64 a.id.lo, .int .u64 a.dp.hi, .int .u64 a.dp.lo, .int .u64 a.dq.hi, .int .u64 a.dq.lo, .int .u64 a.cp.hi, .int .u64 a.cp.lo, .int .u64 a.cq.hi, .int .u64 a.cq.lo, .int .i64 a.ledger, .int .i64 a.code, .int .i64 a.flags, .int .i64 a.stamp] 26))
  unfold Acc.val
  go_enter Tryd.func3, Tryd.ntmps3
  go_wp2_with fail
  refine (alive9_any _ (HM.out.fr (S := fun _ => False) (by repeat (first | (with_reducible exact Fr.refl _ _) | (with_reducible refine Fr.drew ?_) | (with_reducible refine Fr.drewN ?_ _) | (with_reducible refine Fr.alloc ?_ _) | (with_reducible refine Fr.set1 ?_ _) | (with_reducible refine Fr.setNew ?_ (by omega) _))) (fun h => h))).mono ?_
  rintro e w1 ⟨rfl, f1⟩
  have FA := Lib.hid (Fr.then_ (S2 := fun _ => False) (by repeat (first | (with_reducible exact Fr.refl _ _) | (with_reducible refine Fr.drew ?_) | (with_reducible refine Fr.drewN ?_ _) | (with_reducible refine Fr.alloc ?_ _) | (with_reducible refine Fr.set1 ?_ _) | (with_reducible refine Fr.setNew ?_ (by omega) _)) : Fr (fun _ => False) w _) f1 (fun _ h => h.elim))
  have ba := f1.blk hB.out (fun h => h)
  have a0 := blk_cell ba 0 rfl; have a1 := blk_cell ba 1 rfl; have a2 := blk_cell ba 2 rfl; have a3 := blk_cell ba 3 rfl; have a4 := blk_cell ba 4 rfl; have a5 := blk_cell ba 5 rfl; have a6 := blk_cell ba 6 rfl; have a7 := blk_cell ba 7 rfl; have a8 := blk_cell ba 8 rfl; have a9 := blk_cell ba 9 rfl; have a10 := blk_cell ba 10 rfl; have a11 := blk_cell ba 11 rfl; have a12 := blk_cell ba 12 rfl; have a13 := blk_cell ba 13 rfl
  have hsz0 := blk_lt ba
  have Ba := Lib.hid ba
  have HC := Lib.hid (show ∀ W, Most W → Calls Tryd.prog 9 #[.agg #[.int .u64 a.id.hi, .int .u64 a.id.lo, .int .u64 a.dp.hi, .int .u64 a.dp.lo, .int .u64 a.dq.hi, .int .u64 a.dq.lo, .int .u64 a.cp.hi, .int .u64 a.cp.lo, .int .u64 a.cq.hi, .int .u64 a.cq.lo, .int .i64 a.ledger, .int .i64 a.code, .int .i64 a.flags, .int .i64 a.stamp]] W fun e w' => e = .returned (.int .i64 a.refCheck) ∧ Fr (fun _ => False) W w' from fun W h => refCheck_eq OA.out ▸ check_any W a h)
  have HR := Lib.hid (show ∀ W, Calls Tryd.prog 10 #[.agg #[.int .u64 a.id.hi, .int .u64 a.id.lo, .int .u64 a.dp.hi, .int .u64 a.dp.lo, .int .u64 a.dq.hi, .int .u64 a.dq.lo, .int .u64 a.cp.hi, .int .u64 a.cp.lo, .int .u64 a.cq.hi, .int .u64 a.cq.lo, .int .i64 a.ledger, .int .i64 a.code, .int .i64 a.flags, .int .i64 a.stamp]] W fun e w' => e = .returned (.int .i64 a.refCheck) ∧ Fr (fun _ => False) W w' from fun W => refCheck_any W a OA.out)
  clear f1 ba
  go_wp2_with fail
  go_region_held3 (fun w' => w'.cell? ⟨w.heap.size, 0, none⟩ = some (Value.int .u64 a.id.hi) ∧ w'.cell? ⟨w.heap.size, 1, none⟩ = some (Value.int .u64 a.id.lo) ∧ w'.cell? ⟨w.heap.size, 2, none⟩ = some (Value.int .u64 a.dp.hi) ∧ w'.cell? ⟨w.heap.size, 3, none⟩ = some (Value.int .u64 a.dp.lo) ∧ w'.cell? ⟨w.heap.size, 4, none⟩ = some (Value.int .u64 a.dq.hi) ∧ w'.cell? ⟨w.heap.size, 5, none⟩ = some (Value.int .u64 a.dq.lo) ∧ w'.cell? ⟨w.heap.size, 6, none⟩ = some (Value.int .u64 a.cp.hi) ∧ w'.cell? ⟨w.heap.size, 7, none⟩ = some (Value.int .u64 a.cp.lo) ∧ w'.cell? ⟨w.heap.size, 8, none⟩ = some (Value.int .u64 a.cq.hi) ∧ w'.cell? ⟨w.heap.size, 9, none⟩ = some (Value.int .u64 a.cq.lo) ∧ w'.cell? ⟨w.heap.size, 10, none⟩ = some (Value.int .i64 a.ledger) ∧ w'.cell? ⟨w.heap.size, 11, none⟩ = some (Value.int .i64 a.code) ∧ w'.cell? ⟨w.heap.size, 12, none⟩ = some (Value.int .i64 a.flags) ∧ w'.cell? ⟨w.heap.size, 13, none⟩ = some (Value.int .i64 a.stamp))
    (first | go_keep | exact ⟨a0, a1, a2, a3, a4, a5, a6, a7, a8, a9, a10, a11, a12, a13⟩)
    (first
      | (go_at_call 10; with_reducible refine (HR.out _).mono ?_; rintro e w2 ⟨rfl, f2⟩; have ba := f2.blk Ba.out (fun h => h); have a0 := blk_cell ba 0 rfl; have a1 := blk_cell ba 1 rfl; have a2 := blk_cell ba 2 rfl; have a3 := blk_cell ba 3 rfl; have a4 := blk_cell ba 4 rfl; have a5 := blk_cell ba 5 rfl; have a6 := blk_cell ba 6 rfl; have a7 := blk_cell ba 7 rfl; have a8 := blk_cell ba 8 rfl; have a9 := blk_cell ba 9 rfl; have a10 := blk_cell ba 10 rfl; have a11 := blk_cell ba 11 rfl; have a12 := blk_cell ba 12 rfl; have a13 := blk_cell ba 13 rfl; have Ba := Lib.hid ba; have FA := Lib.hid (FA.out.then_ (S2 := fun _ => False) (Fr.then_ (S2 := fun _ => False) (by repeat (first | (with_reducible exact Fr.refl _ _) | (with_reducible refine Fr.drew ?_) | (with_reducible refine Fr.drewN ?_ _) | (with_reducible refine Fr.alloc ?_ _) | (with_reducible refine Fr.set1 ?_ _) | (with_reducible refine Fr.setNew ?_ (by omega) _))) f2 (fun _ h => h.elim)) (fun _ h => h.elim)); clear f2 ba)
      | (go_at_call 9; with_reducible refine (HC.out _ (HM.out.fr (S := fun _ => False) (FA.out.then_ (S2 := fun _ => False) (by repeat (first | (with_reducible exact Fr.refl _ _) | (with_reducible refine Fr.drew ?_) | (with_reducible refine Fr.drewN ?_ _) | (with_reducible refine Fr.alloc ?_ _) | (with_reducible refine Fr.set1 ?_ _) | (with_reducible refine Fr.setNew ?_ (by omega) _))) (fun _ h => h.elim)) (fun h => h))).mono ?_; rintro e w3 ⟨rfl, f2⟩; have ba := f2.blk Ba.out (fun h => h); have a0 := blk_cell ba 0 rfl; have a1 := blk_cell ba 1 rfl; have a2 := blk_cell ba 2 rfl; have a3 := blk_cell ba 3 rfl; have a4 := blk_cell ba 4 rfl; have a5 := blk_cell ba 5 rfl; have a6 := blk_cell ba 6 rfl; have a7 := blk_cell ba 7 rfl; have a8 := blk_cell ba 8 rfl; have a9 := blk_cell ba 9 rfl; have a10 := blk_cell ba 10 rfl; have a11 := blk_cell ba 11 rfl; have a12 := blk_cell ba 12 rfl; have a13 := blk_cell ba 13 rfl; have Ba := Lib.hid ba; have FA := Lib.hid (FA.out.then_ (S2 := fun _ => False) (Fr.then_ (S2 := fun _ => False) (by repeat (first | (with_reducible exact Fr.refl _ _) | (with_reducible refine Fr.drew ?_) | (with_reducible refine Fr.drewN ?_ _) | (with_reducible refine Fr.alloc ?_ _) | (with_reducible refine Fr.set1 ?_ _) | (with_reducible refine Fr.setNew ?_ (by omega) _))) f2 (fun _ h => h.elim)) (fun _ h => h.elim)); clear f2 ba))
  go_wp2_with fail
  go_ret
  exact ⟨rfl, FA.out⟩
end Go.Proofs.YtpmebmkifdgjcaaDoor
