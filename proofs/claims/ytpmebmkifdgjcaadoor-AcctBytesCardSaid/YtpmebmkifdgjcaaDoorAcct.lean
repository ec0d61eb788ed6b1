/- wide.Zero; acct.Check, Again, Good. -/
import Derived.Test.YtpmebmkifdgjcaaDoorProg
import Derived.Test.YtpmebmkifdgjcaaDoorBase
import Derived.Test.YtpmebmkifdgjcaaDoorEqAcc
import Derived.KernelRfl
import Derived.BigQuiet
import Derived.Lib.Hide
import Derived.Deep.DeepMust
namespace Go.Proofs.YtpmebmkifdgjcaaDoor
open Go.RowKit

structure Nm where
  hi : Int
  lo : Int
def Nm.cells (x : Nm) : List Value := [.int .u64 x.hi, .int .u64 x.lo]
structure Nm.ok (x : Nm) : Prop where
  hi0 : 0 ≤ x.hi
  hi1 : x.hi < 18446744073709551616
  lo0 : 0 ≤ x.lo
  lo1 : x.lo < 18446744073709551616
/-- The greatest number of 64 bits. -/
def M64 : Int := 18446744073709551615
def Nm.zero (x : Nm) : Bool := x.hi == 0 && x.lo == 0
def Nm.most (x : Nm) : Bool := x.hi == M64 && x.lo == M64

structure Acc where
  id : Nm
  dp : Nm
  dq : Nm
  cp : Nm
  cq : Nm
  ledger : Int
  code : Int
  flags : Int
  stamp : Int
def Acc.cells (a : Acc) : List Value := [.int .u64 a.id.hi, .int .u64 a.id.lo, .int .u64 a.dp.hi, .int .u64 a.dp.lo, .int .u64 a.dq.hi, .int .u64 a.dq.lo, .int .u64 a.cp.hi, .int .u64 a.cp.lo, .int .u64 a.cq.hi, .int .u64 a.cq.lo, .int .i64 a.ledger, .int .i64 a.code, .int .i64 a.flags, .int .i64 a.stamp]
def Acc.val (a : Acc) : Value := .agg #[.int .u64 a.id.hi, .int .u64 a.id.lo, .int .u64 a.dp.hi, .int .u64 a.dp.lo, .int .u64 a.dq.hi, .int .u64 a.dq.lo, .int .u64 a.cp.hi, .int .u64 a.cp.lo, .int .u64 a.cq.hi, .int .u64 a.cq.lo, .int .i64 a.ledger, .int .i64 a.code, .int .i64 a.flags, .int .i64 a.stamp]
structure Acc.ok (a : Acc) : Prop where
  id : a.id.ok
  dp : a.dp.ok
  dq : a.dq.ok
  cp : a.cp.ok
  cq : a.cq.ok
  ledger : -9223372036854775808 ≤ a.ledger ∧ a.ledger ≤ 9223372036854775807
  code : -9223372036854775808 ≤ a.code ∧ a.code ≤ 9223372036854775807
  flags : -9223372036854775808 ≤ a.flags ∧ a.flags ≤ 9223372036854775807
  stamp : -9223372036854775808 ≤ a.stamp ∧ a.stamp ≤ 9223372036854775807

theorem zero_any (w : World) (x : Nm) :
    Calls Tryd.prog 23 #[.agg #[.int .u64 x.hi, .int .u64 x.lo]] w fun e w' => e = .returned (.bool x.zero) ∧ Fr (fun _ => False) w w' := by
  have he := eqm_Num
  go_enter Tryd.func23, Tryd.ntmps23
  go_wp2
  go_ret
  exact ⟨rfl, (Fr.refl _ w).alloc _⟩

def Acc.fresh (a : Acc) : Bool := a.dp.zero && (a.dq.zero && (a.cp.zero && (a.cq.zero && a.stamp == 0)))
theorem chain5 (p q r s t : Bool) : (p = false) ∨ (p = true ∧ q = false) ∨ (p = true ∧ q = true ∧ r = false) ∨ (p = true ∧ q = true ∧ r = true ∧ s = false) ∨ (p = true ∧ q = true ∧ r = true ∧ s = true ∧ t = false) ∨ (p = true ∧ q = true ∧ r = true ∧ s = true ∧ t = true) := by
  cases p <;> cases q <;> cases r <;> cases s <;> cases t <;> simp
set_option maxHeartbeats 1600000 in
theorem fresh_any (w : World) (a : Acc) :
    Calls Tryd.prog 24 #[a.val] w fun e w' => e = .returned (.bool a.fresh) ∧ Fr (fun _ => False) w w' := by
  have he := eqm_Num
  have fin : ∀ b, b = a.fresh → Ending.returned (Value.bool b) = Ending.returned (.bool a.fresh) := fun b h => by rw [h]
  have Hfin := Lib.hid fin
  clear fin
  unfold Acc.fresh Nm.zero at Hfin
  unfold Acc.val Acc.fresh Nm.zero
  rcases chain5 (a.dp.hi == 0 && a.dp.lo == 0) (a.dq.hi == 0 && a.dq.lo == 0) (a.cp.hi == 0 && a.cp.lo == 0) (a.cq.hi == 0 && a.cq.lo == 0) (a.stamp == 0) with h1 | ⟨h1, h2⟩ | ⟨h1, h2, h3⟩ | ⟨h1, h2, h3, h4⟩ | ⟨h1, h2, h3, h4, h5⟩ | ⟨h1, h2, h3, h4, h5⟩
  all_goals
    go_enter Tryd.func24, Tryd.ntmps24
    go_wp2_with go_in
    go_ret
    refine ⟨Hfin.out _ ?_, ?_⟩
    · simp only [*, Bool.true_and, Bool.false_and, Bool.and_true, Bool.and_false]
    · repeat (first | (with_reducible exact Fr.refl _ _) | (with_reducible refine Fr.drew ?_) | (with_reducible refine Fr.drewN ?_ _) | (with_reducible refine Fr.alloc ?_ _) | (with_reducible refine Fr.set1 ?_ _) | (with_reducible refine Fr.setNew ?_ (by omega) _))

/-- The package's greatest number lies where it was laid. -/
structure Most (w : World) : Prop where
  hi : w.cell? ⟨0, 0, none⟩ = some (.int .u64 M64)
  lo : w.cell? ⟨0, 1, none⟩ = some (.int .u64 M64)
theorem Most.fr {w w' : World} {S : Nat → Prop} (h : Most w) (hf : Fr S w w') (hn : ¬ S 0) : Most w' := ⟨hf.cell (p := ⟨0, 0, none⟩) h.hi hn, hf.cell (p := ⟨0, 1, none⟩) h.lo hn⟩

/-- What is wrong with an account, as the program asks it. -/
def Acc.check (a : Acc) : Int :=
  if (bits .andNot .i64 a.flags 7 != 0) = true then 3 else if a.id.zero = true then 4 else if a.id.most = true then 5 else if (bits .and .i64 a.flags 6 == 6) = true then 6 else
  if a.fresh = false then 7 else if a.ledger < 1 ∨ 4294967295 < a.ledger then 8 else if a.code < 1 ∨ 65535 < a.code then 9 else 0

theorem chain7 (p q r s t u v : Bool) : (p = true) ∨ (p = false ∧ q = true) ∨ (p = false ∧ q = false ∧ r = true) ∨ (p = false ∧ q = false ∧ r = false ∧ s = true) ∨ (p = false ∧ q = false ∧ r = false ∧ s = false ∧ t = false) ∨ (p = false ∧ q = false ∧ r = false ∧ s = false ∧ t = true ∧ u = true) ∨
    (p = false ∧ q = false ∧ r = false ∧ s = false ∧ t = true ∧ u = false ∧ v = true) ∨ (p = false ∧ q = false ∧ r = false ∧ s = false ∧ t = true ∧ u = false ∧ v = false) := by
  cases p <;> cases q <;> cases r <;> cases s <;> cases t <;> cases u <;> cases v <;> simp

set_option maxHeartbeats 3200000 in
theorem check_any (w : World) (a : Acc) (hm : Most w) :
    Calls Tryd.prog 9 #[a.val] w fun e w' => e = .returned (.int .i64 a.check) ∧ Fr (fun _ => False) w w' := by
  have he := eqm_Num
  have m0 := hm.hi
  have m1 := hm.lo
  have hpos : 0 < w.heap.size := World.block_lt_of_cell? w _ m0
  have hcg : ∀ v, a.check = v → Ending.returned (Value.int .i64 v) = Ending.returned (.int .i64 a.check) := fun v h => by rw [h]
  have Hcg := Lib.hid hcg
  clear hm hcg
  have hfr : ∀ W, Calls Tryd.prog 24 #[a.val] W fun e w' => e = .returned (.bool a.fresh) ∧ Fr (fun _ => False) W w' := fun W => fresh_any W a
  have Hfr := Lib.hid hfr
  clear hfr
  have hb0 := Lib.hid (heap_alloc_new w (.cells #[.int .u64 a.id.hi, .int .u64 a.id.lo, .int .u64 a.dp.hi, .int .u64 a.dp.lo, .int .u64 a.dq.hi, .int .u64 a.dq.lo, .int .u64 a.cp.hi, .int .u64 a.cp.lo, .int .u64 a.cq.hi, .int .u64 a.cq.lo, .int .i64 a.ledger, .int .i64 a.code, .int .i64 a.flags, .int .i64 a.stamp] 26))
  unfold Acc.val at Hfr
  unfold Acc.val
  rcases chain7 (bits .andNot .i64 a.flags 7 != 0) (a.id.hi == 0 && a.id.lo == 0) (a.id.hi == M64 && a.id.lo == M64) (bits .and .i64 a.flags 6 == 6) a.fresh (decide (a.ledger < 1 ∨ 4294967295 < a.ledger)) (decide (a.code < 1 ∨ 65535 < a.code)) with h1 | ⟨h1, h2⟩ | ⟨h1, h2, h3⟩ | ⟨h1, h2, h3, h4⟩ | ⟨h1, h2, h3, h4, h5⟩ | ⟨h1, h2, h3, h4, h5, h6⟩ | ⟨h1, h2, h3, h4, h5, h6, h7⟩ | ⟨h1, h2, h3, h4, h5, h6, h7⟩
  · have hv := Lib.hid (show a.check = 3 from by simp [Acc.check, h1])
    go_enter Tryd.func9, Tryd.ntmps9
    go_wp2_with go_in
    go_ret
    exact ⟨Hcg.out _ hv.out, by repeat (first | (with_reducible exact Fr.refl _ _) | (with_reducible refine Fr.drew ?_) | (with_reducible refine Fr.drewN ?_ _) | (with_reducible refine Fr.alloc ?_ _) | (with_reducible refine Fr.set1 ?_ _) | (with_reducible refine Fr.setNew ?_ (by omega) _))⟩
  · have hv := Lib.hid (show a.check = 4 from by simp [Acc.check, Nm.zero, h1, h2])
    go_enter Tryd.func9, Tryd.ntmps9
    go_wp2_with go_in
    go_ret
    exact ⟨Hcg.out _ hv.out, by repeat (first | (with_reducible exact Fr.refl _ _) | (with_reducible refine Fr.drew ?_) | (with_reducible refine Fr.drewN ?_ _) | (with_reducible refine Fr.alloc ?_ _) | (with_reducible refine Fr.set1 ?_ _) | (with_reducible refine Fr.setNew ?_ (by omega) _))⟩
  · have hv := Lib.hid (show a.check = 5 from by simp [Acc.check, Nm.zero, Nm.most, h1, h2, h3])
    go_enter Tryd.func9, Tryd.ntmps9
    go_wp2_with go_in
    go_ret
    exact ⟨Hcg.out _ hv.out, by repeat (first | (with_reducible exact Fr.refl _ _) | (with_reducible refine Fr.drew ?_) | (with_reducible refine Fr.drewN ?_ _) | (with_reducible refine Fr.alloc ?_ _) | (with_reducible refine Fr.set1 ?_ _) | (with_reducible refine Fr.setNew ?_ (by omega) _))⟩
  · have hv := Lib.hid (show a.check = 6 from by simp [Acc.check, Nm.zero, Nm.most, h1, h2, h3, h4])
    go_enter Tryd.func9, Tryd.ntmps9
    go_wp2_with go_in
    go_ret
    exact ⟨Hcg.out _ hv.out, by repeat (first | (with_reducible exact Fr.refl _ _) | (with_reducible refine Fr.drew ?_) | (with_reducible refine Fr.drewN ?_ _) | (with_reducible refine Fr.alloc ?_ _) | (with_reducible refine Fr.set1 ?_ _) | (with_reducible refine Fr.setNew ?_ (by omega) _))⟩
  · have hv := Lib.hid (show a.check = 7 from by simp [Acc.check, Nm.zero, Nm.most, h1, h2, h3, h4, h5])
    go_enter Tryd.func9, Tryd.ntmps9
    go_wp2_with (first | (go_at_call 24; go_must (refine (Hfr.out _).mono ?_; rintro e w1 ⟨rfl, f1⟩; rw [h5]; have hb := f1.blk (blk_alloc hb0.out _) (fun h => h); have c10 := blk_cell hb 10 rfl; have c11 := blk_cell hb 11 rfl; have F1 := Lib.hid f1; clear f1)) | go_in)
    go_ret
    exact ⟨Hcg.out _ hv.out, by have f1 := F1.out; exact Fr.then_ (by repeat (first | (with_reducible exact Fr.refl _ _) | (with_reducible refine Fr.drew ?_) | (with_reducible refine Fr.drewN ?_ _) | (with_reducible refine Fr.alloc ?_ _) | (with_reducible refine Fr.set1 ?_ _) | (with_reducible refine Fr.setNew ?_ (by omega) _))) f1 (fun _ h => h.elim)⟩
  · have h6 := of_decide_eq_true h6
    rcases (show a.ledger < 1 ∨ (¬ a.ledger < 1 ∧ 4294967295 < a.ledger) from by omega) with g1 | ⟨g1, g2⟩
    all_goals
      have hv := Lib.hid (show a.check = 8 from by simp only [Acc.check, Nm.zero, Nm.most, h1, h2, h3, h4, h5]; simp [h6])
      clear h6
      go_enter Tryd.func9, Tryd.ntmps9
      go_wp2_with (first | (go_at_call 24; go_must (refine (Hfr.out _).mono ?_; rintro e w1 ⟨rfl, f1⟩; rw [h5]; have hb := f1.blk (blk_alloc hb0.out _) (fun h => h); have c10 := blk_cell hb 10 rfl; have c11 := blk_cell hb 11 rfl; have F1 := Lib.hid f1; clear f1 hb)) | go_in)
      go_ret
      exact ⟨Hcg.out _ hv.out, by have f1 := F1.out; exact Fr.then_ (by repeat (first | (with_reducible exact Fr.refl _ _) | (with_reducible refine Fr.drew ?_) | (with_reducible refine Fr.drewN ?_ _) | (with_reducible refine Fr.alloc ?_ _) | (with_reducible refine Fr.set1 ?_ _) | (with_reducible refine Fr.setNew ?_ (by omega) _))) f1 (fun _ h => h.elim)⟩
  · have h6 := of_decide_eq_false h6
    have h7 := of_decide_eq_true h7
    have g1 : ¬ a.ledger < 1 := fun h => h6 (.inl h)
    have g2 : ¬ 4294967295 < a.ledger := fun h => h6 (.inr h)
    rcases (show a.code < 1 ∨ (¬ a.code < 1 ∧ 65535 < a.code) from by omega) with g3 | ⟨g3, g4⟩
    all_goals
      have hv := Lib.hid (show a.check = 9 from by simp only [Acc.check, Nm.zero, Nm.most, h1, h2, h3, h4, h5, h6]; simp [h7])
      clear h6 h7
      go_enter Tryd.func9, Tryd.ntmps9
      go_wp2_with (first | (go_at_call 24; go_must (refine (Hfr.out _).mono ?_; rintro e w1 ⟨rfl, f1⟩; rw [h5]; have hb := f1.blk (blk_alloc hb0.out _) (fun h => h); have c10 := blk_cell hb 10 rfl; have c11 := blk_cell hb 11 rfl; have F1 := Lib.hid f1; clear f1 hb)) | go_in)
      go_ret
      exact ⟨Hcg.out _ hv.out, by have f1 := F1.out; exact Fr.then_ (by repeat (first | (with_reducible exact Fr.refl _ _) | (with_reducible refine Fr.drew ?_) | (with_reducible refine Fr.drewN ?_ _) | (with_reducible refine Fr.alloc ?_ _) | (with_reducible refine Fr.set1 ?_ _) | (with_reducible refine Fr.setNew ?_ (by omega) _))) f1 (fun _ h => h.elim)⟩
  · have h6 := of_decide_eq_false h6
    have h7 := of_decide_eq_false h7
    have g1 : ¬ a.ledger < 1 := fun h => h6 (.inl h)
    have g2 : ¬ 4294967295 < a.ledger := fun h => h6 (.inr h)
    have g3 : ¬ a.code < 1 := fun h => h7 (.inl h)
    have g4 : ¬ 65535 < a.code := fun h => h7 (.inr h)
    have hv := Lib.hid (show a.check = 0 from by simp only [Acc.check, Nm.zero, Nm.most, h1, h2, h3, h4, h5, h6]; simp [h7])
    clear h6 h7
    go_enter Tryd.func9, Tryd.ntmps9
    go_wp2_with (first | (go_at_call 24; go_must (refine (Hfr.out _).mono ?_; rintro e w1 ⟨rfl, f1⟩; rw [h5]; have hb := f1.blk (blk_alloc hb0.out _) (fun h => h); have c10 := blk_cell hb 10 rfl; have c11 := blk_cell hb 11 rfl; have F1 := Lib.hid f1; clear f1 hb)) | go_in)
    go_ret
    exact ⟨Hcg.out _ hv.out, by have f1 := F1.out; exact Fr.then_ (by repeat (first | (with_reducible exact Fr.refl _ _) | (with_reducible refine Fr.drew ?_) | (with_reducible refine Fr.drewN ?_ _) | (with_reducible refine Fr.alloc ?_ _) | (with_reducible refine Fr.set1 ?_ _) | (with_reducible refine Fr.setNew ?_ (by omega) _))) f1 (fun _ h => h.elim)⟩
end Go.Proofs.YtpmebmkifdgjcaaDoor
