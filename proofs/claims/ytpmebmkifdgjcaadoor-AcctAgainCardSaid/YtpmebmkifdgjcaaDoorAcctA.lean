/- acct.Again, alive; the walks of AcctAgain and AcctSame. -/
import Derived.Test.YtpmebmkifdgjcaaDoorAcct
import Derived.Test.YtpmebmkifdgjcaaDoorFlags
import Derived.Deep.RegionHeld3
namespace Go.Proofs.YtpmebmkifdgjcaaDoor
open Go.RowKit

theorem heap_alloc_new1 (w : World) (o o2 : Obj) : ((w.alloc o).alloc o2).heap[w.heap.size + 1]? = some o2 := by
  have h := heap_alloc_new (w.alloc o) o2
  have e : (w.alloc o).heap.size = w.heap.size + 1 := Array.size_push ..
  rwa [e] at h

def Acc.again (a b : Acc) : Int := if (a.ledger == b.ledger) = true then if (a.code == b.code) = true then if (bits .and .i64 a.flags 6 == bits .and .i64 b.flags 6) = true then 10 else 11 else 11 else 11
theorem chain3 (p q r : Bool) : (p = false) ∨ (p = true ∧ q = false) ∨ (p = true ∧ q = true ∧ r = false) ∨ (p = true ∧ q = true ∧ r = true) := by
  cases p <;> cases q <;> cases r <;> simp
set_option maxHeartbeats 1600000 in
theorem again_any (w : World) (a b : Acc) :
    Calls Tryd.prog 11 #[a.val, b.val] w fun e w' => e = .returned (.int .i64 (a.again b)) ∧ Fr (fun _ => False) w w' := by
  have hcg : ∀ v, a.again b = v → Ending.returned (Value.int .i64 v) = Ending.returned (.int .i64 (a.again b)) := fun v h => by rw [h]
  have Hcg := Lib.hid hcg
  clear hcg
  unfold Acc.val
  rcases chain3 (a.ledger == b.ledger) (a.code == b.code) (bits .and .i64 a.flags 6 == bits .and .i64 b.flags 6) with h1 | ⟨h1, h2⟩ | ⟨h1, h2, h3⟩ | ⟨h1, h2, h3⟩
  · have hv := Lib.hid (show a.again b = 11 from by simp [Acc.again, h1])
    go_enter Tryd.func11, Tryd.ntmps11
    go_wp2_with fail
    go_ret
    exact ⟨Hcg.out _ hv.out, by repeat (first | (with_reducible exact Fr.refl _ _) | (with_reducible refine Fr.drew ?_) | (with_reducible refine Fr.drewN ?_ _) | (with_reducible refine Fr.alloc ?_ _) | (with_reducible refine Fr.set1 ?_ _) | (with_reducible refine Fr.setNew ?_ (by omega) _))⟩
  · have hv := Lib.hid (show a.again b = 11 from by simp [Acc.again, h1, h2])
    go_enter Tryd.func11, Tryd.ntmps11
    go_wp2_with fail
    go_ret
    exact ⟨Hcg.out _ hv.out, by repeat (first | (with_reducible exact Fr.refl _ _) | (with_reducible refine Fr.drew ?_) | (with_reducible refine Fr.drewN ?_ _) | (with_reducible refine Fr.alloc ?_ _) | (with_reducible refine Fr.set1 ?_ _) | (with_reducible refine Fr.setNew ?_ (by omega) _))⟩
  · have hv := Lib.hid (show a.again b = 11 from by simp only [Acc.again, h1, h2, h3]; rfl)
    go_enter Tryd.func11, Tryd.ntmps11
    go_wp2_with fail
    go_ret
    exact ⟨Hcg.out _ hv.out, by repeat (first | (with_reducible exact Fr.refl _ _) | (with_reducible refine Fr.drew ?_) | (with_reducible refine Fr.drewN ?_ _) | (with_reducible refine Fr.alloc ?_ _) | (with_reducible refine Fr.set1 ?_ _) | (with_reducible refine Fr.setNew ?_ (by omega) _))⟩
  · have hv := Lib.hid (show a.again b = 10 from by simp only [Acc.again, h1, h2, h3]; rfl)
    go_enter Tryd.func11, Tryd.ntmps11
    go_wp2_with fail
    go_ret
    exact ⟨Hcg.out _ hv.out, by repeat (first | (with_reducible exact Fr.refl _ _) | (with_reducible refine Fr.drew ?_) | (with_reducible refine Fr.drewN ?_ _) | (with_reducible refine Fr.alloc ?_ _) | (with_reducible refine Fr.set1 ?_ _) | (with_reducible refine Fr.setNew ?_ (by omega) _))⟩

def Acc.again2 (a b : Acc) : Int := if (a.ledger == b.ledger) = true then if (a.code == b.code) = true then if (a.flags / 2 % 4 == b.flags / 2 % 4) = true then 10 else 11 else 11 else 11
set_option maxHeartbeats 1600000 in
theorem refAgain_any (w : World) (a b : Acc) (ha : 0 ≤ a.flags ∧ a.flags ≤ 9223372036854775807) (hb : 0 ≤ b.flags ∧ b.flags ≤ 9223372036854775807) :
    Calls Tryd.prog 12 #[a.val, b.val] w fun e w' => e = .returned (.int .i64 (a.again2 b)) ∧ Fr (fun _ => False) w w' := by
  have hcg : ∀ v, a.again2 b = v → Ending.returned (Value.int .i64 v) = Ending.returned (.int .i64 (a.again2 b)) := fun v h => by rw [h]
  have Hcg := Lib.hid hcg
  clear hcg
  unfold Acc.val
  rcases chain3 (a.ledger == b.ledger) (a.code == b.code) (a.flags / 2 % 4 == b.flags / 2 % 4) with h1 | ⟨h1, h2⟩ | ⟨h1, h2, h3⟩ | ⟨h1, h2, h3⟩
  · have hv := Lib.hid (show a.again2 b = 11 from by simp [Acc.again2, h1])
    go_enter Tryd.func12, Tryd.ntmps12
    go_wp2_with fail
    go_ret
    exact ⟨Hcg.out _ hv.out, by repeat (first | (with_reducible exact Fr.refl _ _) | (with_reducible refine Fr.drew ?_) | (with_reducible refine Fr.drewN ?_ _) | (with_reducible refine Fr.alloc ?_ _) | (with_reducible refine Fr.set1 ?_ _) | (with_reducible refine Fr.setNew ?_ (by omega) _))⟩
  · have hv := Lib.hid (show a.again2 b = 11 from by simp [Acc.again2, h1, h2])
    go_enter Tryd.func12, Tryd.ntmps12
    go_wp2_with fail
    go_ret
    exact ⟨Hcg.out _ hv.out, by repeat (first | (with_reducible exact Fr.refl _ _) | (with_reducible refine Fr.drew ?_) | (with_reducible refine Fr.drewN ?_ _) | (with_reducible refine Fr.alloc ?_ _) | (with_reducible refine Fr.set1 ?_ _) | (with_reducible refine Fr.setNew ?_ (by omega) _))⟩
  · have hv := Lib.hid (show a.again2 b = 11 from by simp only [Acc.again2, h1, h2, h3]; rfl)
    go_enter Tryd.func12, Tryd.ntmps12
    go_wp2_with fail
    go_ret
    exact ⟨Hcg.out _ hv.out, by repeat (first | (with_reducible exact Fr.refl _ _) | (with_reducible refine Fr.drew ?_) | (with_reducible refine Fr.drewN ?_ _) | (with_reducible refine Fr.alloc ?_ _) | (with_reducible refine Fr.set1 ?_ _) | (with_reducible refine Fr.setNew ?_ (by omega) _))⟩
  · have hv := Lib.hid (show a.again2 b = 10 from by simp only [Acc.again2, h1, h2, h3]; rfl)
    go_enter Tryd.func12, Tryd.ntmps12
    go_wp2_with fail
    go_ret
    exact ⟨Hcg.out _ hv.out, by repeat (first | (with_reducible exact Fr.refl _ _) | (with_reducible refine Fr.drew ?_) | (with_reducible refine Fr.drewN ?_ _) | (with_reducible refine Fr.alloc ?_ _) | (with_reducible refine Fr.set1 ?_ _) | (with_reducible refine Fr.setNew ?_ (by omega) _))⟩

theorem alive9_any (w : World) (hm : Most w) :
    Calls Tryd.prog 8 #[] w fun e w' => e = .returned (.bool true) ∧ Fr (fun _ => False) w w' := by
  have hpos : 0 < w.heap.size := World.block_lt_of_cell? w _ hm.hi
  have HM := Lib.hid hm
  clear hm
  have e1 := Lib.hid (show Acc.check ⟨⟨0, 1⟩, ⟨0, 0⟩, ⟨0, 0⟩, ⟨0, 0⟩, ⟨0, 0⟩, 1, 0, 0, 0⟩ = 9 from by decide)
  have e2 := Lib.hid (show Acc.check ⟨⟨0, 1⟩, ⟨0, 0⟩, ⟨0, 0⟩, ⟨0, 0⟩, ⟨0, 0⟩, 1, 1, 0, 0⟩ = 0 from by decide)
  go_enter Tryd.func8, Tryd.ntmps8
  go_wp2_with fail
  refine (check_any _ (Acc.mk ⟨0, 1⟩ ⟨0, 0⟩ ⟨0, 0⟩ ⟨0, 0⟩ ⟨0, 0⟩ 1 0 0 0) (HM.out.fr (S := fun _ => False) (by repeat (first | (with_reducible exact Fr.refl _ _) | (with_reducible refine Fr.drew ?_) | (with_reducible refine Fr.drewN ?_ _) | (with_reducible refine Fr.alloc ?_ _) | (with_reducible refine Fr.set1 ?_ _) | (with_reducible refine Fr.setNew ?_ (by omega) _))) (fun h => h))).mono ?_
  rintro e w1 ⟨rfl, f1⟩
  rw [e1.out]
  have hm1 := HM.out.fr (S := fun _ => False) (Fr.then_ (by repeat (first | (with_reducible exact Fr.refl _ _) | (with_reducible refine Fr.drew ?_) | (with_reducible refine Fr.drewN ?_ _) | (with_reducible refine Fr.alloc ?_ _) | (with_reducible refine Fr.set1 ?_ _) | (with_reducible refine Fr.setNew ?_ (by omega) _))) f1 (fun _ h => h.elim)) (fun h => h)
  have HM1 := Lib.hid hm1
  have F1 := Lib.hid f1
  clear f1 hm1
  go_wp2_with fail
  refine (check_any _ (Acc.mk ⟨0, 1⟩ ⟨0, 0⟩ ⟨0, 0⟩ ⟨0, 0⟩ ⟨0, 0⟩ 1 1 0 0) (HM1.out.fr (S := fun _ => False) (by repeat (first | (with_reducible exact Fr.refl _ _) | (with_reducible refine Fr.drew ?_) | (with_reducible refine Fr.drewN ?_ _) | (with_reducible refine Fr.alloc ?_ _) | (with_reducible refine Fr.set1 ?_ _) | (with_reducible refine Fr.setNew ?_ (by omega) _))) (fun h => h))).mono ?_
  rintro e w2 ⟨rfl, f2⟩
  rw [e2.out]
  have F2 := Lib.hid f2
  clear f2
  go_wp2_with fail
  go_ret
  exact ⟨rfl, Fr.then_ (Fr.then_ (by repeat (first | (with_reducible exact Fr.refl _ _) | (with_reducible refine Fr.drew ?_) | (with_reducible refine Fr.drewN ?_ _) | (with_reducible refine Fr.alloc ?_ _) | (with_reducible refine Fr.set1 ?_ _) | (with_reducible refine Fr.setNew ?_ (by omega) _))) F1.out (fun _ h => h.elim)) (Fr.then_ (S := fun _ => False) (by repeat (first | (with_reducible exact Fr.refl _ _) | (with_reducible refine Fr.drew ?_) | (with_reducible refine Fr.drewN ?_ _) | (with_reducible refine Fr.alloc ?_ _) | (with_reducible refine Fr.set1 ?_ _) | (with_reducible refine Fr.setNew ?_ (by omega) _))) F2.out (fun _ h => h.elim)) (fun _ h => h.elim)⟩

/-- AcctAgain's walk. -/
def Acc.other (a b : Acc) : Acc := { a with dq := b.dq, stamp := b.stamp, flags := bits .or .i64 a.flags 8 }
set_option maxHeartbeats 8000000 in
theorem agains_any (w : World) (a b : Acc) (hm : Most w) (oa : a.ok) (ob : b.ok) :
    Calls Tryd.prog 4 #[a.val, b.val] w fun e w' => e = .returned (.bool true) ∧ Fr (fun _ => False) w w' := by
  have hpos : 0 < w.heap.size := World.block_lt_of_cell? w _ hm.hi
  have HM := Lib.hid hm
  clear hm
  have hA := Lib.hid (blk_alloc (heap_alloc_new w (.cells #[.int .u64 a.id.hi, .int .u64 a.id.lo, .int .u64 a.dp.hi, .int .u64 a.dp.lo, .int .u64 a.dq.hi, .int .u64 a.dq.lo, .int .u64 a.cp.hi, .int .u64 a.cp.lo, .int .u64 a.cq.hi, .int .u64 a.cq.lo, .int .i64 a.ledger, .int .i64 a.code, .int .i64 a.flags, .int .i64 a.stamp] 26)) (.cells #[.int .u64 b.id.hi, .int .u64 b.id.lo, .int .u64 b.dp.hi, .int .u64 b.dp.lo, .int .u64 b.dq.hi, .int .u64 b.dq.lo, .int .u64 b.cp.hi, .int .u64 b.cp.lo, .int .u64 b.cq.hi, .int .u64 b.cq.lo, .int .i64 b.ledger, .int .i64 b.code, .int .i64 b.flags, .int .i64 b.stamp] 26))
  have hB := Lib.hid (heap_alloc_new1 w (.cells #[.int .u64 a.id.hi, .int .u64 a.id.lo, .int .u64 a.dp.hi, .int .u64 a.dp.lo, .int .u64 a.dq.hi, .int .u64 a.dq.lo, .int .u64 a.cp.hi, .int .u64 a.cp.lo, .int .u64 a.cq.hi, .int .u64 a.cq.lo, .int .i64 a.ledger, .int .i64 a.code, .int .i64 a.flags, .int .i64 a.stamp] 26) (.cells #[.int .u64 b.id.hi, .int .u64 b.id.lo, .int .u64 b.dp.hi, .int .u64 b.dp.lo, .int .u64 b.dq.hi, .int .u64 b.dq.lo, .int .u64 b.cp.hi, .int .u64 b.cp.lo, .int .u64 b.cq.hi, .int .u64 b.cq.lo, .int .i64 b.ledger, .int .i64 b.code, .int .i64 b.flags, .int .i64 b.stamp] 26))
  unfold Acc.val
  go_enter Tryd.func4, Tryd.ntmps4
  go_wp2_with fail
  refine (alive9_any _ (HM.out.fr (S := fun _ => False) (by repeat (first | (with_reducible exact Fr.refl _ _) | (with_reducible refine Fr.drew ?_) | (with_reducible refine Fr.drewN ?_ _) | (with_reducible refine Fr.alloc ?_ _) | (with_reducible refine Fr.set1 ?_ _) | (with_reducible refine Fr.setNew ?_ (by omega) _))) (fun h => h))).mono ?_
  rintro e w1 ⟨rfl, f1⟩
  have ba := f1.blk hA.out (fun h => h)
  have bb := f1.blk hB.out (fun h => h)
  have F1 := Lib.hid (Fr.then_ (S := fun _ => False) (w := w) (by repeat (first | (with_reducible exact Fr.refl _ _) | (with_reducible refine Fr.drew ?_) | (with_reducible refine Fr.drewN ?_ _) | (with_reducible refine Fr.alloc ?_ _) | (with_reducible refine Fr.set1 ?_ _) | (with_reducible refine Fr.setNew ?_ (by omega) _))) f1 (fun _ h => h.elim))
  have a0 := blk_cell ba 0 rfl; have a1 := blk_cell ba 1 rfl; have a2 := blk_cell ba 2 rfl; have a3 := blk_cell ba 3 rfl; have a4 := blk_cell ba 4 rfl; have a5 := blk_cell ba 5 rfl; have a6 := blk_cell ba 6 rfl; have a7 := blk_cell ba 7 rfl; have a8 := blk_cell ba 8 rfl; have a9 := blk_cell ba 9 rfl; have a10 := blk_cell ba 10 rfl; have a11 := blk_cell ba 11 rfl; have a12 := blk_cell ba 12 rfl; have a13 := blk_cell ba 13 rfl
  have b0 := blk_cell bb 0 rfl; have b1 := blk_cell bb 1 rfl; have b2 := blk_cell bb 2 rfl; have b3 := blk_cell bb 3 rfl; have b4 := blk_cell bb 4 rfl; have b5 := blk_cell bb 5 rfl; have b6 := blk_cell bb 6 rfl; have b7 := blk_cell bb 7 rfl; have b8 := blk_cell bb 8 rfl; have b9 := blk_cell bb 9 rfl; have b10 := blk_cell bb 10 rfl; have b11 := blk_cell bb 11 rfl; have b12 := blk_cell bb 12 rfl; have b13 := blk_cell bb 13 rfl
  have hsz := blk_lt bb
  have hsz0 := blk_lt ba
  have Ba := Lib.hid ba
  have Bb := Lib.hid bb
  clear f1 ba bb
  have hab : ∀ W, Calls Tryd.prog 11 #[a.val, b.val] W fun e w' => e = .returned (.int .i64 (a.again b)) ∧ Fr (fun _ => False) W w' := fun W => again_any W a b
  have hac : ∀ W, Calls Tryd.prog 11 #[a.val, (a.other b).val] W fun e w' => e = .returned (.int .i64 (a.again (a.other b))) ∧ Fr (fun _ => False) W w' := fun W => again_any W a _
  unfold Acc.val at hab hac
  have HAB := Lib.hid hab
  have HAC := Lib.hid (show ∀ W, Calls Tryd.prog 11 #[.agg #[.int .u64 a.id.hi, .int .u64 a.id.lo, .int .u64 a.dp.hi, .int .u64 a.dp.lo, .int .u64 a.dq.hi, .int .u64 a.dq.lo, .int .u64 a.cp.hi, .int .u64 a.cp.lo, .int .u64 a.cq.hi, .int .u64 a.cq.lo, .int .i64 a.ledger, .int .i64 a.code, .int .i64 a.flags, .int .i64 a.stamp], .agg #[Value.int .u64 a.id.hi, Value.int .u64 a.id.lo, Value.int .u64 a.dp.hi, Value.int .u64 a.dp.lo, Value.int .u64 b.dq.hi, Value.int .u64 b.dq.lo, Value.int .u64 a.cp.hi, Value.int .u64 a.cp.lo, Value.int .u64 a.cq.hi, Value.int .u64 a.cq.lo, Value.int .i64 a.ledger, Value.int .i64 a.code, Value.int .i64 (bits .or .i64 a.flags 8), Value.int .i64 b.stamp]] W fun e w' => e = .returned (.int .i64 (a.again (a.other b))) ∧ Fr (fun _ => False) W w' from hac)
  clear hab hac
  have g := oa.flags
  have g2 := ob.flags
  by_cases c1 : a.flags < 0
  · go_wp2_with fail
    go_ret
    exact ⟨rfl, F1.out.then_ (S2 := fun _ => False) (by repeat (first | (with_reducible exact Fr.refl _ _) | (with_reducible refine Fr.drew ?_) | (with_reducible refine Fr.drewN ?_ _) | (with_reducible refine Fr.alloc ?_ _) | (with_reducible refine Fr.set1 ?_ _) | (with_reducible refine Fr.setNew ?_ (by omega) _))) (fun _ h => h.elim)⟩
  by_cases c2 : b.flags < 0
  · go_wp2_with fail
    go_ret
    exact ⟨rfl, F1.out.then_ (S2 := fun _ => False) (by repeat (first | (with_reducible exact Fr.refl _ _) | (with_reducible refine Fr.drew ?_) | (with_reducible refine Fr.drewN ?_ _) | (with_reducible refine Fr.alloc ?_ _) | (with_reducible refine Fr.set1 ?_ _) | (with_reducible refine Fr.setNew ?_ (by omega) _))) (fun _ h => h.elim)⟩
  have ea := Lib.hid (show a.again (a.other b) = 10 from by
    have h := flags_or8 ⟨show 0 ≤ a.flags by omega, g.2⟩
    simp only [Acc.again, Acc.other, h, beq_self_eq_true, if_true])
  have e2 := Lib.hid (show a.again b = a.again2 b from by
    have h := flags_same ⟨show 0 ≤ a.flags by omega, g.2⟩ ⟨show 0 ≤ b.flags by omega, g2.2⟩
    simp only [Acc.again, Acc.again2, h])
  have hr : ∀ W, Calls Tryd.prog 12 #[a.val, b.val] W fun e w' => e = .returned (.int .i64 (a.again2 b)) ∧ Fr (fun _ => False) W w' := fun W => refAgain_any W a b ⟨by omega, g.2⟩ ⟨by omega, g2.2⟩
  unfold Acc.val at hr
  have HR := Lib.hid hr
  clear hr
  go_wp2_with fail
  have FA := Lib.hid (F1.out.alloc (.cells #[Value.int .u64 a.id.hi, Value.int .u64 a.id.lo, Value.int .u64 a.dp.hi, Value.int .u64 a.dp.lo, Value.int .u64 b.dq.hi, Value.int .u64 b.dq.lo, Value.int .u64 a.cp.hi, Value.int .u64 a.cp.lo, Value.int .u64 a.cq.hi, Value.int .u64 a.cq.lo, Value.int .i64 a.ledger, Value.int .i64 a.code, Value.int .i64 (bits .or .i64 a.flags 8), Value.int .i64 b.stamp] 26))
  have bc := heap_alloc_new w1 (.cells #[Value.int .u64 a.id.hi, Value.int .u64 a.id.lo, Value.int .u64 a.dp.hi, Value.int .u64 a.dp.lo, Value.int .u64 b.dq.hi, Value.int .u64 b.dq.lo, Value.int .u64 a.cp.hi, Value.int .u64 a.cp.lo, Value.int .u64 a.cq.hi, Value.int .u64 a.cq.lo, Value.int .i64 a.ledger, Value.int .i64 a.code, Value.int .i64 (bits .or .i64 a.flags 8), Value.int .i64 b.stamp] 26)
  have ba := blk_alloc Ba.out (.cells #[Value.int .u64 a.id.hi, Value.int .u64 a.id.lo, Value.int .u64 a.dp.hi, Value.int .u64 a.dp.lo, Value.int .u64 b.dq.hi, Value.int .u64 b.dq.lo, Value.int .u64 a.cp.hi, Value.int .u64 a.cp.lo, Value.int .u64 a.cq.hi, Value.int .u64 a.cq.lo, Value.int .i64 a.ledger, Value.int .i64 a.code, Value.int .i64 (bits .or .i64 a.flags 8), Value.int .i64 b.stamp] 26)
  have bb := blk_alloc Bb.out (.cells #[Value.int .u64 a.id.hi, Value.int .u64 a.id.lo, Value.int .u64 a.dp.hi, Value.int .u64 a.dp.lo, Value.int .u64 b.dq.hi, Value.int .u64 b.dq.lo, Value.int .u64 a.cp.hi, Value.int .u64 a.cp.lo, Value.int .u64 a.cq.hi, Value.int .u64 a.cq.lo, Value.int .i64 a.ledger, Value.int .i64 a.code, Value.int .i64 (bits .or .i64 a.flags 8), Value.int .i64 b.stamp] 26)
  have a0 := blk_cell ba 0 rfl; have a1 := blk_cell ba 1 rfl; have a2 := blk_cell ba 2 rfl; have a3 := blk_cell ba 3 rfl; have a4 := blk_cell ba 4 rfl; have a5 := blk_cell ba 5 rfl; have a6 := blk_cell ba 6 rfl; have a7 := blk_cell ba 7 rfl; have a8 := blk_cell ba 8 rfl; have a9 := blk_cell ba 9 rfl; have a10 := blk_cell ba 10 rfl; have a11 := blk_cell ba 11 rfl; have a12 := blk_cell ba 12 rfl; have a13 := blk_cell ba 13 rfl
  have b0 := blk_cell bb 0 rfl; have b1 := blk_cell bb 1 rfl; have b2 := blk_cell bb 2 rfl; have b3 := blk_cell bb 3 rfl; have b4 := blk_cell bb 4 rfl; have b5 := blk_cell bb 5 rfl; have b6 := blk_cell bb 6 rfl; have b7 := blk_cell bb 7 rfl; have b8 := blk_cell bb 8 rfl; have b9 := blk_cell bb 9 rfl; have b10 := blk_cell bb 10 rfl; have b11 := blk_cell bb 11 rfl; have b12 := blk_cell bb 12 rfl; have b13 := blk_cell bb 13 rfl
  have c0 := blk_cell bc 0 rfl; have c1 := blk_cell bc 1 rfl; have c2 := blk_cell bc 2 rfl; have c3 := blk_cell bc 3 rfl; have c4 := blk_cell bc 4 rfl; have c5 := blk_cell bc 5 rfl; have c6 := blk_cell bc 6 rfl; have c7 := blk_cell bc 7 rfl; have c8 := blk_cell bc 8 rfl; have c9 := blk_cell bc 9 rfl; have c10 := blk_cell bc 10 rfl; have c11 := blk_cell bc 11 rfl; have c12 := blk_cell bc 12 rfl; have c13 := blk_cell bc 13 rfl
  have Ba := Lib.hid ba
  have Bb := Lib.hid bb
  have Bc := Lib.hid bc
  clear ba bb bc
  go_region_held3 (fun w' => w'.cell? ⟨w.heap.size, 0, none⟩ = some (Value.int .u64 a.id.hi) ∧ w'.cell? ⟨w.heap.size, 1, none⟩ = some (Value.int .u64 a.id.lo) ∧ w'.cell? ⟨w.heap.size, 2, none⟩ = some (Value.int .u64 a.dp.hi) ∧ w'.cell? ⟨w.heap.size, 3, none⟩ = some (Value.int .u64 a.dp.lo) ∧ w'.cell? ⟨w.heap.size, 4, none⟩ = some (Value.int .u64 a.dq.hi) ∧ w'.cell? ⟨w.heap.size, 5, none⟩ = some (Value.int .u64 a.dq.lo) ∧ w'.cell? ⟨w.heap.size, 6, none⟩ = some (Value.int .u64 a.cp.hi) ∧ w'.cell? ⟨w.heap.size, 7, none⟩ = some (Value.int .u64 a.cp.lo) ∧ w'.cell? ⟨w.heap.size, 8, none⟩ = some (Value.int .u64 a.cq.hi) ∧ w'.cell? ⟨w.heap.size, 9, none⟩ = some (Value.int .u64 a.cq.lo) ∧ w'.cell? ⟨w.heap.size, 10, none⟩ = some (Value.int .i64 a.ledger) ∧ w'.cell? ⟨w.heap.size, 11, none⟩ = some (Value.int .i64 a.code) ∧ w'.cell? ⟨w.heap.size, 12, none⟩ = some (Value.int .i64 a.flags) ∧ w'.cell? ⟨w.heap.size, 13, none⟩ = some (Value.int .i64 a.stamp) ∧ w'.cell? ⟨w.heap.size + 1, 0, none⟩ = some (Value.int .u64 b.id.hi) ∧ w'.cell? ⟨w.heap.size + 1, 1, none⟩ = some (Value.int .u64 b.id.lo) ∧ w'.cell? ⟨w.heap.size + 1, 2, none⟩ = some (Value.int .u64 b.dp.hi) ∧ w'.cell? ⟨w.heap.size + 1, 3, none⟩ = some (Value.int .u64 b.dp.lo) ∧ w'.cell? ⟨w.heap.size + 1, 4, none⟩ = some (Value.int .u64 b.dq.hi) ∧ w'.cell? ⟨w.heap.size + 1, 5, none⟩ = some (Value.int .u64 b.dq.lo) ∧ w'.cell? ⟨w.heap.size + 1, 6, none⟩ = some (Value.int .u64 b.cp.hi) ∧ w'.cell? ⟨w.heap.size + 1, 7, none⟩ = some (Value.int .u64 b.cp.lo) ∧ w'.cell? ⟨w.heap.size + 1, 8, none⟩ = some (Value.int .u64 b.cq.hi) ∧ w'.cell? ⟨w.heap.size + 1, 9, none⟩ = some (Value.int .u64 b.cq.lo) ∧ w'.cell? ⟨w.heap.size + 1, 10, none⟩ = some (Value.int .i64 b.ledger) ∧ w'.cell? ⟨w.heap.size + 1, 11, none⟩ = some (Value.int .i64 b.code) ∧ w'.cell? ⟨w.heap.size + 1, 12, none⟩ = some (Value.int .i64 b.flags) ∧ w'.cell? ⟨w.heap.size + 1, 13, none⟩ = some (Value.int .i64 b.stamp) ∧ w'.cell? ⟨w1.heap.size, 0, none⟩ = some (Value.int .u64 a.id.hi) ∧ w'.cell? ⟨w1.heap.size, 1, none⟩ = some (Value.int .u64 a.id.lo) ∧ w'.cell? ⟨w1.heap.size, 2, none⟩ = some (Value.int .u64 a.dp.hi) ∧ w'.cell? ⟨w1.heap.size, 3, none⟩ = some (Value.int .u64 a.dp.lo) ∧ w'.cell? ⟨w1.heap.size, 4, none⟩ = some (Value.int .u64 b.dq.hi) ∧ w'.cell? ⟨w1.heap.size, 5, none⟩ = some (Value.int .u64 b.dq.lo) ∧ w'.cell? ⟨w1.heap.size, 6, none⟩ = some (Value.int .u64 a.cp.hi) ∧ w'.cell? ⟨w1.heap.size, 7, none⟩ = some (Value.int .u64 a.cp.lo) ∧ w'.cell? ⟨w1.heap.size, 8, none⟩ = some (Value.int .u64 a.cq.hi) ∧ w'.cell? ⟨w1.heap.size, 9, none⟩ = some (Value.int .u64 a.cq.lo) ∧ w'.cell? ⟨w1.heap.size, 10, none⟩ = some (Value.int .i64 a.ledger) ∧ w'.cell? ⟨w1.heap.size, 11, none⟩ = some (Value.int .i64 a.code) ∧ w'.cell? ⟨w1.heap.size, 12, none⟩ = some (Value.int .i64 (bits .or .i64 a.flags 8)) ∧ w'.cell? ⟨w1.heap.size, 13, none⟩ = some (Value.int .i64 b.stamp))
    (first | go_keep | exact ⟨a0, a1, a2, a3, a4, a5, a6, a7, a8, a9, a10, a11, a12, a13, b0, b1, b2, b3, b4, b5, b6, b7, b8, b9, b10, b11, b12, b13, c0, c1, c2, c3, c4, c5, c6, c7, c8, c9, c10, c11, c12, c13⟩)
    (first
      | (go_at_call 12; with_reducible refine (HR.out _).mono ?_; rintro e w2 ⟨rfl, f2⟩; rw [← e2.out]; have ba := f2.blk Ba.out (fun h => h); have bb := f2.blk Bb.out (fun h => h); have bc := f2.blk Bc.out (fun h => h); have a0 := blk_cell ba 0 rfl; have a1 := blk_cell ba 1 rfl; have a2 := blk_cell ba 2 rfl; have a3 := blk_cell ba 3 rfl; have a4 := blk_cell ba 4 rfl; have a5 := blk_cell ba 5 rfl; have a6 := blk_cell ba 6 rfl; have a7 := blk_cell ba 7 rfl; have a8 := blk_cell ba 8 rfl; have a9 := blk_cell ba 9 rfl; have a10 := blk_cell ba 10 rfl; have a11 := blk_cell ba 11 rfl; have a12 := blk_cell ba 12 rfl; have a13 := blk_cell ba 13 rfl; have b0 := blk_cell bb 0 rfl; have b1 := blk_cell bb 1 rfl; have b2 := blk_cell bb 2 rfl; have b3 := blk_cell bb 3 rfl; have b4 := blk_cell bb 4 rfl; have b5 := blk_cell bb 5 rfl; have b6 := blk_cell bb 6 rfl; have b7 := blk_cell bb 7 rfl; have b8 := blk_cell bb 8 rfl; have b9 := blk_cell bb 9 rfl; have b10 := blk_cell bb 10 rfl; have b11 := blk_cell bb 11 rfl; have b12 := blk_cell bb 12 rfl; have b13 := blk_cell bb 13 rfl; have c0 := blk_cell bc 0 rfl; have c1 := blk_cell bc 1 rfl; have c2 := blk_cell bc 2 rfl; have c3 := blk_cell bc 3 rfl; have c4 := blk_cell bc 4 rfl; have c5 := blk_cell bc 5 rfl; have c6 := blk_cell bc 6 rfl; have c7 := blk_cell bc 7 rfl; have c8 := blk_cell bc 8 rfl; have c9 := blk_cell bc 9 rfl; have c10 := blk_cell bc 10 rfl; have c11 := blk_cell bc 11 rfl; have c12 := blk_cell bc 12 rfl; have c13 := blk_cell bc 13 rfl; have Ba := Lib.hid ba; have Bb := Lib.hid bb; have Bc := Lib.hid bc; have FA := Lib.hid (FA.out.then_ (S2 := fun _ => False) (Fr.then_ (S2 := fun _ => False) (by repeat (first | (with_reducible exact Fr.refl _ _) | (with_reducible refine Fr.drew ?_) | (with_reducible refine Fr.drewN ?_ _) | (with_reducible refine Fr.alloc ?_ _) | (with_reducible refine Fr.set1 ?_ _) | (with_reducible refine Fr.setNew ?_ (by omega) _))) f2 (fun _ h => h.elim)) (fun _ h => h.elim)); clear f2 ba bb bc)
      | (go_at_call 11; with_reducible refine (HAB.out _).mono ?_; rintro e w3 ⟨rfl, f2⟩; have ba := f2.blk Ba.out (fun h => h); have bb := f2.blk Bb.out (fun h => h); have bc := f2.blk Bc.out (fun h => h); have a0 := blk_cell ba 0 rfl; have a1 := blk_cell ba 1 rfl; have a2 := blk_cell ba 2 rfl; have a3 := blk_cell ba 3 rfl; have a4 := blk_cell ba 4 rfl; have a5 := blk_cell ba 5 rfl; have a6 := blk_cell ba 6 rfl; have a7 := blk_cell ba 7 rfl; have a8 := blk_cell ba 8 rfl; have a9 := blk_cell ba 9 rfl; have a10 := blk_cell ba 10 rfl; have a11 := blk_cell ba 11 rfl; have a12 := blk_cell ba 12 rfl; have a13 := blk_cell ba 13 rfl; have b0 := blk_cell bb 0 rfl; have b1 := blk_cell bb 1 rfl; have b2 := blk_cell bb 2 rfl; have b3 := blk_cell bb 3 rfl; have b4 := blk_cell bb 4 rfl; have b5 := blk_cell bb 5 rfl; have b6 := blk_cell bb 6 rfl; have b7 := blk_cell bb 7 rfl; have b8 := blk_cell bb 8 rfl; have b9 := blk_cell bb 9 rfl; have b10 := blk_cell bb 10 rfl; have b11 := blk_cell bb 11 rfl; have b12 := blk_cell bb 12 rfl; have b13 := blk_cell bb 13 rfl; have c0 := blk_cell bc 0 rfl; have c1 := blk_cell bc 1 rfl; have c2 := blk_cell bc 2 rfl; have c3 := blk_cell bc 3 rfl; have c4 := blk_cell bc 4 rfl; have c5 := blk_cell bc 5 rfl; have c6 := blk_cell bc 6 rfl; have c7 := blk_cell bc 7 rfl; have c8 := blk_cell bc 8 rfl; have c9 := blk_cell bc 9 rfl; have c10 := blk_cell bc 10 rfl; have c11 := blk_cell bc 11 rfl; have c12 := blk_cell bc 12 rfl; have c13 := blk_cell bc 13 rfl; have Ba := Lib.hid ba; have Bb := Lib.hid bb; have Bc := Lib.hid bc; have FA := Lib.hid (FA.out.then_ (S2 := fun _ => False) (Fr.then_ (S2 := fun _ => False) (by repeat (first | (with_reducible exact Fr.refl _ _) | (with_reducible refine Fr.drew ?_) | (with_reducible refine Fr.drewN ?_ _) | (with_reducible refine Fr.alloc ?_ _) | (with_reducible refine Fr.set1 ?_ _) | (with_reducible refine Fr.setNew ?_ (by omega) _))) f2 (fun _ h => h.elim)) (fun _ h => h.elim)); clear f2 ba bb bc)
      | (go_at_call 11; with_reducible refine (HAC.out _).mono ?_; rintro e w4 ⟨rfl, f2⟩; rw [ea.out]; have ba := f2.blk Ba.out (fun h => h); have bb := f2.blk Bb.out (fun h => h); have bc := f2.blk Bc.out (fun h => h); have a0 := blk_cell ba 0 rfl; have a1 := blk_cell ba 1 rfl; have a2 := blk_cell ba 2 rfl; have a3 := blk_cell ba 3 rfl; have a4 := blk_cell ba 4 rfl; have a5 := blk_cell ba 5 rfl; have a6 := blk_cell ba 6 rfl; have a7 := blk_cell ba 7 rfl; have a8 := blk_cell ba 8 rfl; have a9 := blk_cell ba 9 rfl; have a10 := blk_cell ba 10 rfl; have a11 := blk_cell ba 11 rfl; have a12 := blk_cell ba 12 rfl; have a13 := blk_cell ba 13 rfl; have b0 := blk_cell bb 0 rfl; have b1 := blk_cell bb 1 rfl; have b2 := blk_cell bb 2 rfl; have b3 := blk_cell bb 3 rfl; have b4 := blk_cell bb 4 rfl; have b5 := blk_cell bb 5 rfl; have b6 := blk_cell bb 6 rfl; have b7 := blk_cell bb 7 rfl; have b8 := blk_cell bb 8 rfl; have b9 := blk_cell bb 9 rfl; have b10 := blk_cell bb 10 rfl; have b11 := blk_cell bb 11 rfl; have b12 := blk_cell bb 12 rfl; have b13 := blk_cell bb 13 rfl; have c0 := blk_cell bc 0 rfl; have c1 := blk_cell bc 1 rfl; have c2 := blk_cell bc 2 rfl; have c3 := blk_cell bc 3 rfl; have c4 := blk_cell bc 4 rfl; have c5 := blk_cell bc 5 rfl; have c6 := blk_cell bc 6 rfl; have c7 := blk_cell bc 7 rfl; have c8 := blk_cell bc 8 rfl; have c9 := blk_cell bc 9 rfl; have c10 := blk_cell bc 10 rfl; have c11 := blk_cell bc 11 rfl; have c12 := blk_cell bc 12 rfl; have c13 := blk_cell bc 13 rfl; have Ba := Lib.hid ba; have Bb := Lib.hid bb; have Bc := Lib.hid bc; have FA := Lib.hid (FA.out.then_ (S2 := fun _ => False) (Fr.then_ (S2 := fun _ => False) (by repeat (first | (with_reducible exact Fr.refl _ _) | (with_reducible refine Fr.drew ?_) | (with_reducible refine Fr.drewN ?_ _) | (with_reducible refine Fr.alloc ?_ _) | (with_reducible refine Fr.set1 ?_ _) | (with_reducible refine Fr.setNew ?_ (by omega) _))) f2 (fun _ h => h.elim)) (fun _ h => h.elim)); clear f2 ba bb bc))
  go_wp2_with fail
  go_ret
  exact ⟨rfl, FA.out⟩
end Go.Proofs.YtpmebmkifdgjcaaDoor
