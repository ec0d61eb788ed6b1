/- Good, Get and Put of bondstore/xfer; the document's Good and Bytes. -/
import Derived.Test.YtfmcimngogibkaaGets
import Derived.Test.YtfmcimngogibkaaXfer
import Derived.Deep.RegionHeld3
import Derived.Lib.ItoaWalk
import Derived.LoopN
import Derived.Deep.DeepMust
set_option linter.unusedSimpArgs false
set_option linter.unusedVariables false
namespace Go.Proofs.Ytfmcimngogibkaa
open Go.RowKit

def Tx.none : Tx := ⟨⟨0, 0⟩, ⟨0, 0⟩, ⟨0, 0⟩, ⟨0, 0⟩, ⟨0, 0⟩, 0, 0, 0, 0, 0, 0⟩
/-- Has it bytes? -/
def Tx.good (a : Tx) : Bool := decide (0 ≤ a.timeout ∧ a.timeout ≤ 4294967295 ∧ 0 ≤ a.ledger ∧ a.ledger ≤ 4294967295 ∧ 0 ≤ a.code ∧ a.code ≤ 65535 ∧ 0 ≤ a.flags ∧ a.flags ≤ 65535)
/-- Its bytes. -/
def Tx.bytes (a : Tx) : List Int := wideBytes a.id.hi a.id.lo ++ wideBytes a.debit.hi a.debit.lo ++ wideBytes a.credit.hi a.credit.lo ++ wideBytes a.amount.hi a.amount.lo ++ wideBytes a.pending.hi a.pending.lo ++ bytesOf a.timeout 4 ++ bytesOf a.ledger 4 ++ bytesOf a.code 2 ++ bytesOf a.flags 2 ++ bytesOf a.stamp 8 ++ bytesOf a.born 8
theorem Tx.bytes_len (a : Tx) : a.bytes.length = 108 := by simp only [Tx.bytes, List.length_append, wideBytes_len, blen]
theorem Tx.bytes_ok (a : Tx) : Bytes a.bytes := by
  unfold Tx.bytes
  intro x hx
  simp only [List.mem_append] at hx
  rcases hx with (((((((((h | h) | h) | h) | h) | h) | h) | h) | h) | h) | h
  all_goals first | exact wideBytes_bd _ _ _ h | exact bytesOf_bytes _ _ _ h
set_option maxHeartbeats 3200000 in
theorem xgood_any (w : World) (a : Tx) :
    Calls Try.prog 35 #[a.val] w fun e w' => e = .returned (.bool a.good) ∧ Fr (fun _ => False) w w' := by
  have hcg : ∀ v, a.good = v → Ending.returned (Value.bool v) = Ending.returned (.bool a.good) := fun v h => by rw [h]
  have Hcg := Lib.hid hcg
  clear hcg
  unfold Tx.val
  rcases (show (¬ 0 ≤ a.timeout) ∨ (0 ≤ a.timeout ∧ ¬ a.timeout ≤ 4294967295) ∨ (0 ≤ a.timeout ∧ a.timeout ≤ 4294967295 ∧ ¬ 0 ≤ a.ledger) ∨ (0 ≤ a.timeout ∧ a.timeout ≤ 4294967295 ∧ 0 ≤ a.ledger ∧ ¬ a.ledger ≤ 4294967295) ∨ (0 ≤ a.timeout ∧ a.timeout ≤ 4294967295 ∧ 0 ≤ a.ledger ∧ a.ledger ≤ 4294967295 ∧ ¬ 0 ≤ a.code) ∨ (0 ≤ a.timeout ∧ a.timeout ≤ 4294967295 ∧ 0 ≤ a.ledger ∧ a.ledger ≤ 4294967295 ∧ 0 ≤ a.code ∧ ¬ a.code ≤ 65535) ∨ (0 ≤ a.timeout ∧ a.timeout ≤ 4294967295 ∧ 0 ≤ a.ledger ∧ a.ledger ≤ 4294967295 ∧ 0 ≤ a.code ∧ a.code ≤ 65535 ∧ ¬ 0 ≤ a.flags) ∨ (0 ≤ a.timeout ∧ a.timeout ≤ 4294967295 ∧ 0 ≤ a.ledger ∧ a.ledger ≤ 4294967295 ∧ 0 ≤ a.code ∧ a.code ≤ 65535 ∧ 0 ≤ a.flags ∧ ¬ a.flags ≤ 65535) ∨ (0 ≤ a.timeout ∧ a.timeout ≤ 4294967295 ∧ 0 ≤ a.ledger ∧ a.ledger ≤ 4294967295 ∧ 0 ≤ a.code ∧ a.code ≤ 65535 ∧ 0 ≤ a.flags ∧ a.flags ≤ 65535) from by omega) with h1 | ⟨h1, h2⟩ | ⟨h1, h2, h3⟩ | ⟨h1, h2, h3, h4⟩ | ⟨h1, h2, h3, h4, h5⟩ | ⟨h1, h2, h3, h4, h5, h6⟩ | ⟨h1, h2, h3, h4, h5, h6, h7⟩ | ⟨h1, h2, h3, h4, h5, h6, h7, h8⟩ | ⟨h1, h2, h3, h4, h5, h6, h7, h8⟩
  · have hv := Lib.hid (show a.good = false from by simp only [Tx.good, decide_eq_false_iff_not]; omega)
    go_enter Try.func35, Try.ntmps35
    go_wp2_with fail
    go_ret
    exact ⟨Hcg.out _ hv.out, by repeat (first | (with_reducible exact Fr.refl _ _) | (with_reducible refine Fr.drew ?_) | (with_reducible refine Fr.drewN ?_ _) | (with_reducible refine Fr.alloc ?_ _) | (with_reducible refine Fr.set1 ?_ _) | (with_reducible refine Fr.setNew ?_ (by omega) _))⟩
  · have hv := Lib.hid (show a.good = false from by simp only [Tx.good, decide_eq_false_iff_not]; omega)
    go_enter Try.func35, Try.ntmps35
    go_wp2_with fail
    go_ret
    exact ⟨Hcg.out _ hv.out, by repeat (first | (with_reducible exact Fr.refl _ _) | (with_reducible refine Fr.drew ?_) | (with_reducible refine Fr.drewN ?_ _) | (with_reducible refine Fr.alloc ?_ _) | (with_reducible refine Fr.set1 ?_ _) | (with_reducible refine Fr.setNew ?_ (by omega) _))⟩
  · have hv := Lib.hid (show a.good = false from by simp only [Tx.good, decide_eq_false_iff_not]; omega)
    go_enter Try.func35, Try.ntmps35
    go_wp2_with fail
    go_ret
    exact ⟨Hcg.out _ hv.out, by repeat (first | (with_reducible exact Fr.refl _ _) | (with_reducible refine Fr.drew ?_) | (with_reducible refine Fr.drewN ?_ _) | (with_reducible refine Fr.alloc ?_ _) | (with_reducible refine Fr.set1 ?_ _) | (with_reducible refine Fr.setNew ?_ (by omega) _))⟩
  · have hv := Lib.hid (show a.good = false from by simp only [Tx.good, decide_eq_false_iff_not]; omega)
    go_enter Try.func35, Try.ntmps35
    go_wp2_with fail
    go_ret
    exact ⟨Hcg.out _ hv.out, by repeat (first | (with_reducible exact Fr.refl _ _) | (with_reducible refine Fr.drew ?_) | (with_reducible refine Fr.drewN ?_ _) | (with_reducible refine Fr.alloc ?_ _) | (with_reducible refine Fr.set1 ?_ _) | (with_reducible refine Fr.setNew ?_ (by omega) _))⟩
  · have hv := Lib.hid (show a.good = false from by simp only [Tx.good, decide_eq_false_iff_not]; omega)
    go_enter Try.func35, Try.ntmps35
    go_wp2_with fail
    go_ret
    exact ⟨Hcg.out _ hv.out, by repeat (first | (with_reducible exact Fr.refl _ _) | (with_reducible refine Fr.drew ?_) | (with_reducible refine Fr.drewN ?_ _) | (with_reducible refine Fr.alloc ?_ _) | (with_reducible refine Fr.set1 ?_ _) | (with_reducible refine Fr.setNew ?_ (by omega) _))⟩
  · have hv := Lib.hid (show a.good = false from by simp only [Tx.good, decide_eq_false_iff_not]; omega)
    go_enter Try.func35, Try.ntmps35
    go_wp2_with fail
    go_ret
    exact ⟨Hcg.out _ hv.out, by repeat (first | (with_reducible exact Fr.refl _ _) | (with_reducible refine Fr.drew ?_) | (with_reducible refine Fr.drewN ?_ _) | (with_reducible refine Fr.alloc ?_ _) | (with_reducible refine Fr.set1 ?_ _) | (with_reducible refine Fr.setNew ?_ (by omega) _))⟩
  · have hv := Lib.hid (show a.good = false from by simp only [Tx.good, decide_eq_false_iff_not]; omega)
    go_enter Try.func35, Try.ntmps35
    go_wp2_with fail
    go_ret
    exact ⟨Hcg.out _ hv.out, by repeat (first | (with_reducible exact Fr.refl _ _) | (with_reducible refine Fr.drew ?_) | (with_reducible refine Fr.drewN ?_ _) | (with_reducible refine Fr.alloc ?_ _) | (with_reducible refine Fr.set1 ?_ _) | (with_reducible refine Fr.setNew ?_ (by omega) _))⟩
  · have hv := Lib.hid (show a.good = false from by simp only [Tx.good, decide_eq_false_iff_not]; omega)
    go_enter Try.func35, Try.ntmps35
    go_wp2_with fail
    go_ret
    exact ⟨Hcg.out _ hv.out, by repeat (first | (with_reducible exact Fr.refl _ _) | (with_reducible refine Fr.drew ?_) | (with_reducible refine Fr.drewN ?_ _) | (with_reducible refine Fr.alloc ?_ _) | (with_reducible refine Fr.set1 ?_ _) | (with_reducible refine Fr.setNew ?_ (by omega) _))⟩
  · have hv := Lib.hid (show a.good = true from by simp only [Tx.good, decide_eq_true_eq]; omega)
    go_enter Try.func35, Try.ntmps35
    go_wp2_with fail
    go_ret
    exact ⟨Hcg.out _ hv.out, by repeat (first | (with_reducible exact Fr.refl _ _) | (with_reducible refine Fr.drew ?_) | (with_reducible refine Fr.drewN ?_ _) | (with_reducible refine Fr.alloc ?_ _) | (with_reducible refine Fr.set1 ?_ _) | (with_reducible refine Fr.setNew ?_ (by omega) _))⟩
set_option maxHeartbeats 3200000 in
theorem xrefGood_any (w : World) (a : Tx) :
    Calls Try.prog 25 #[a.val] w fun e w' => e = .returned (.bool a.good) ∧ Fr (fun _ => False) w w' := by
  have hcg : ∀ v, a.good = v → Ending.returned (Value.bool v) = Ending.returned (.bool a.good) := fun v h => by rw [h]
  have Hcg := Lib.hid hcg
  clear hcg
  unfold Tx.val
  rcases (show (¬ 0 ≤ a.timeout) ∨ (0 ≤ a.timeout ∧ ¬ a.timeout < 4294967296) ∨ (0 ≤ a.timeout ∧ a.timeout < 4294967296 ∧ ¬ 0 ≤ a.ledger) ∨ (0 ≤ a.timeout ∧ a.timeout < 4294967296 ∧ 0 ≤ a.ledger ∧ ¬ a.ledger < 4294967296) ∨ (0 ≤ a.timeout ∧ a.timeout < 4294967296 ∧ 0 ≤ a.ledger ∧ a.ledger < 4294967296 ∧ ¬ 0 ≤ a.code) ∨ (0 ≤ a.timeout ∧ a.timeout < 4294967296 ∧ 0 ≤ a.ledger ∧ a.ledger < 4294967296 ∧ 0 ≤ a.code ∧ ¬ a.code < 65536) ∨ (0 ≤ a.timeout ∧ a.timeout < 4294967296 ∧ 0 ≤ a.ledger ∧ a.ledger < 4294967296 ∧ 0 ≤ a.code ∧ a.code < 65536 ∧ ¬ 0 ≤ a.flags) ∨ (0 ≤ a.timeout ∧ a.timeout < 4294967296 ∧ 0 ≤ a.ledger ∧ a.ledger < 4294967296 ∧ 0 ≤ a.code ∧ a.code < 65536 ∧ 0 ≤ a.flags ∧ ¬ a.flags < 65536) ∨ (0 ≤ a.timeout ∧ a.timeout < 4294967296 ∧ 0 ≤ a.ledger ∧ a.ledger < 4294967296 ∧ 0 ≤ a.code ∧ a.code < 65536 ∧ 0 ≤ a.flags ∧ a.flags < 65536) from by omega) with h1 | ⟨h1, h2⟩ | ⟨h1, h2, h3⟩ | ⟨h1, h2, h3, h4⟩ | ⟨h1, h2, h3, h4, h5⟩ | ⟨h1, h2, h3, h4, h5, h6⟩ | ⟨h1, h2, h3, h4, h5, h6, h7⟩ | ⟨h1, h2, h3, h4, h5, h6, h7, h8⟩ | ⟨h1, h2, h3, h4, h5, h6, h7, h8⟩
  · have hv := Lib.hid (show a.good = false from by simp only [Tx.good, decide_eq_false_iff_not]; omega)
    go_enter Try.func25, Try.ntmps25
    go_wp2_with fail
    go_ret
    exact ⟨Hcg.out _ hv.out, by repeat (first | (with_reducible exact Fr.refl _ _) | (with_reducible refine Fr.drew ?_) | (with_reducible refine Fr.drewN ?_ _) | (with_reducible refine Fr.alloc ?_ _) | (with_reducible refine Fr.set1 ?_ _) | (with_reducible refine Fr.setNew ?_ (by omega) _))⟩
  · have hv := Lib.hid (show a.good = false from by simp only [Tx.good, decide_eq_false_iff_not]; omega)
    go_enter Try.func25, Try.ntmps25
    go_wp2_with fail
    go_ret
    exact ⟨Hcg.out _ hv.out, by repeat (first | (with_reducible exact Fr.refl _ _) | (with_reducible refine Fr.drew ?_) | (with_reducible refine Fr.drewN ?_ _) | (with_reducible refine Fr.alloc ?_ _) | (with_reducible refine Fr.set1 ?_ _) | (with_reducible refine Fr.setNew ?_ (by omega) _))⟩
  · have hv := Lib.hid (show a.good = false from by simp only [Tx.good, decide_eq_false_iff_not]; omega)
    go_enter Try.func25, Try.ntmps25
    go_wp2_with fail
    go_ret
    exact ⟨Hcg.out _ hv.out, by repeat (first | (with_reducible exact Fr.refl _ _) | (with_reducible refine Fr.drew ?_) | (with_reducible refine Fr.drewN ?_ _) | (with_reducible refine Fr.alloc ?_ _) | (with_reducible refine Fr.set1 ?_ _) | (with_reducible refine Fr.setNew ?_ (by omega) _))⟩
  · have hv := Lib.hid (show a.good = false from by simp only [Tx.good, decide_eq_false_iff_not]; omega)
    go_enter Try.func25, Try.ntmps25
    go_wp2_with fail
    go_ret
    exact ⟨Hcg.out _ hv.out, by repeat (first | (with_reducible exact Fr.refl _ _) | (with_reducible refine Fr.drew ?_) | (with_reducible refine Fr.drewN ?_ _) | (with_reducible refine Fr.alloc ?_ _) | (with_reducible refine Fr.set1 ?_ _) | (with_reducible refine Fr.setNew ?_ (by omega) _))⟩
  · have hv := Lib.hid (show a.good = false from by simp only [Tx.good, decide_eq_false_iff_not]; omega)
    go_enter Try.func25, Try.ntmps25
    go_wp2_with fail
    go_ret
    exact ⟨Hcg.out _ hv.out, by repeat (first | (with_reducible exact Fr.refl _ _) | (with_reducible refine Fr.drew ?_) | (with_reducible refine Fr.drewN ?_ _) | (with_reducible refine Fr.alloc ?_ _) | (with_reducible refine Fr.set1 ?_ _) | (with_reducible refine Fr.setNew ?_ (by omega) _))⟩
  · have hv := Lib.hid (show a.good = false from by simp only [Tx.good, decide_eq_false_iff_not]; omega)
    go_enter Try.func25, Try.ntmps25
    go_wp2_with fail
    go_ret
    exact ⟨Hcg.out _ hv.out, by repeat (first | (with_reducible exact Fr.refl _ _) | (with_reducible refine Fr.drew ?_) | (with_reducible refine Fr.drewN ?_ _) | (with_reducible refine Fr.alloc ?_ _) | (with_reducible refine Fr.set1 ?_ _) | (with_reducible refine Fr.setNew ?_ (by omega) _))⟩
  · have hv := Lib.hid (show a.good = false from by simp only [Tx.good, decide_eq_false_iff_not]; omega)
    go_enter Try.func25, Try.ntmps25
    go_wp2_with fail
    go_ret
    exact ⟨Hcg.out _ hv.out, by repeat (first | (with_reducible exact Fr.refl _ _) | (with_reducible refine Fr.drew ?_) | (with_reducible refine Fr.drewN ?_ _) | (with_reducible refine Fr.alloc ?_ _) | (with_reducible refine Fr.set1 ?_ _) | (with_reducible refine Fr.setNew ?_ (by omega) _))⟩
  · have hv := Lib.hid (show a.good = false from by simp only [Tx.good, decide_eq_false_iff_not]; omega)
    go_enter Try.func25, Try.ntmps25
    go_wp2_with fail
    go_ret
    exact ⟨Hcg.out _ hv.out, by repeat (first | (with_reducible exact Fr.refl _ _) | (with_reducible refine Fr.drew ?_) | (with_reducible refine Fr.drewN ?_ _) | (with_reducible refine Fr.alloc ?_ _) | (with_reducible refine Fr.set1 ?_ _) | (with_reducible refine Fr.setNew ?_ (by omega) _))⟩
  · have hv := Lib.hid (show a.good = true from by simp only [Tx.good, decide_eq_true_eq]; omega)
    go_enter Try.func25, Try.ntmps25
    go_wp2_with fail
    go_ret
    exact ⟨Hcg.out _ hv.out, by repeat (first | (with_reducible exact Fr.refl _ _) | (with_reducible refine Fr.drew ?_) | (with_reducible refine Fr.drewN ?_ _) | (with_reducible refine Fr.alloc ?_ _) | (with_reducible refine Fr.set1 ?_ _) | (with_reducible refine Fr.setNew ?_ (by omega) _))⟩
/-- What is left behind getting one; what is got. -/
def Tx.left (s : List Int × Bool) : List Int × Bool := rdAll s [16, 16, 16, 16, 16, 4, 4, 2, 2, 8, 8]
def Tx.got (s : List Int × Bool) : Tx :=
  let s1 := rdS s 16
  let s2 := rdS s1 16
  let s3 := rdS s2 16
  let s4 := rdS s3 16
  let s5 := rdS s4 16
  let s6 := rdS s5 4
  let s7 := rdS s6 4
  let s8 := rdS s7 2
  let s9 := rdS s8 2
  let s10 := rdS s9 8
  ⟨⟨numHi (rdV s 16), numLo (rdV s 16)⟩, ⟨numHi (rdV s1 16), numLo (rdV s1 16)⟩, ⟨numHi (rdV s2 16), numLo (rdV s2 16)⟩, ⟨numHi (rdV s3 16), numLo (rdV s3 16)⟩, ⟨numHi (rdV s4 16), numLo (rdV s4 16)⟩, wrap64 (le (rdV s5 4)), wrap64 (le (rdV s6 4)), wrap64 (le (rdV s7 2)), wrap64 (le (rdV s8 2)), wrap64 (le (rdV s9 8)), wrap64 (le (rdV s10 8))⟩
def setAll : World → Nat → Nat → List Value → World
  | W, _, _, [] => W
  | W, g, j, v :: vs => setAll (W.setCell ⟨g, j, none⟩ v) g (j + 1) vs
theorem setAll_blk : ∀ (vs : List Value) (W : World) (g j : Nat) (c : Array Value) (t : TypeId) (f : Nat × Nat), W.heap[g]? = some (.cells c t f) → c.size = j + vs.length → (setAll W g j vs).heap[g]? = some (.cells (c.toList.take j ++ vs).toArray t f)
  | [], W, g, j, c, t, f, h, hl => by
    rw [setAll, h, List.append_nil, List.take_of_length_le (by simp at hl ⊢; omega)]
  | v :: vs, W, g, j, c, t, f, h, hl => by
    rw [setAll, setAll_blk vs _ g (j + 1) (c.setIfInBounds j v) t f (blk_set h j v) (by simp at hl ⊢; omega)]
    congr 3
    rw [Array.toList_setIfInBounds, List.take_add_one, List.take_set_of_le (Nat.le_refl _), List.getElem?_set_self (by simp at hl ⊢; omega)]
    simp
theorem bodyPost_gen {P : Program} {f : Func} {Q : Ending → World → Prop} {a : Act} {W : World} (k : ∀ V, V = W → bodyPost P f Q Exit.ret a V) : bodyPost P f Q Exit.ret a W := k W rfl
set_option maxHeartbeats 6400000 in
theorem get_true (w : World) (g : Nat) (s : List Int × Bool) (h : IsR w g s.1 s.2) (hB : Bytes s.1) (hL : (Tx.left s).2 = true) :
    Calls Try.prog 41 #[.pointer (some ⟨g, 0, none⟩)] w fun e w' => e = .returned (Tx.none.val) ∧ IsR w' g (Tx.left s).1 true ∧ Fr (fun k => k = g) w w' := by
  have Rb0 := Lib.hid (heap_alloc_new w (.cells #[.int .u64 0, .int .u64 0, .int .u64 0, .int .u64 0, .int .u64 0, .int .u64 0, .int .u64 0, .int .u64 0, .int .u64 0, .int .u64 0, .int .i64 0, .int .i64 0, .int .i64 0, .int .i64 0, .int .i64 0, .int .i64 0] 61))
  have Hgn := Lib.hid (show ¬ w.heap.size = g from by have := blk_lt h; omega)
  have K0 := Lib.hid h
  have B0 := Lib.hid hB
  have hg := blk_lt h
  have F0 := Lib.hid (Fr.refl (fun k => k = g) w)
  clear h hB
  obtain ⟨s1, e1⟩ : ∃ x, rdS s 16 = x := ⟨_, rfl⟩
  have B1 := Lib.hid (e1 ▸ rdS_bytes 16 B0.out)
  have E1 := Lib.hid e1
  clear e1
  obtain ⟨s2, e2⟩ : ∃ x, rdS s1 16 = x := ⟨_, rfl⟩
  have B2 := Lib.hid (e2 ▸ rdS_bytes 16 B1.out)
  have E2 := Lib.hid e2
  clear e2
  obtain ⟨s3, e3⟩ : ∃ x, rdS s2 16 = x := ⟨_, rfl⟩
  have B3 := Lib.hid (e3 ▸ rdS_bytes 16 B2.out)
  have E3 := Lib.hid e3
  clear e3
  obtain ⟨s4, e4⟩ : ∃ x, rdS s3 16 = x := ⟨_, rfl⟩
  have B4 := Lib.hid (e4 ▸ rdS_bytes 16 B3.out)
  have E4 := Lib.hid e4
  clear e4
  obtain ⟨s5, e5⟩ : ∃ x, rdS s4 16 = x := ⟨_, rfl⟩
  have B5 := Lib.hid (e5 ▸ rdS_bytes 16 B4.out)
  have E5 := Lib.hid e5
  clear e5
  obtain ⟨s6, e6⟩ : ∃ x, rdS s5 4 = x := ⟨_, rfl⟩
  have B6 := Lib.hid (e6 ▸ rdS_bytes 4 B5.out)
  have E6 := Lib.hid e6
  clear e6
  obtain ⟨s7, e7⟩ : ∃ x, rdS s6 4 = x := ⟨_, rfl⟩
  have B7 := Lib.hid (e7 ▸ rdS_bytes 4 B6.out)
  have E7 := Lib.hid e7
  clear e7
  obtain ⟨s8, e8⟩ : ∃ x, rdS s7 2 = x := ⟨_, rfl⟩
  have B8 := Lib.hid (e8 ▸ rdS_bytes 2 B7.out)
  have E8 := Lib.hid e8
  clear e8
  obtain ⟨s9, e9⟩ : ∃ x, rdS s8 2 = x := ⟨_, rfl⟩
  have B9 := Lib.hid (e9 ▸ rdS_bytes 2 B8.out)
  have E9 := Lib.hid e9
  clear e9
  obtain ⟨s10, e10⟩ : ∃ x, rdS s9 8 = x := ⟨_, rfl⟩
  have B10 := Lib.hid (e10 ▸ rdS_bytes 8 B9.out)
  have E10 := Lib.hid e10
  clear e10
  obtain ⟨s11, e11⟩ : ∃ x, rdS s10 8 = x := ⟨_, rfl⟩
  have B11 := Lib.hid (e11 ▸ rdS_bytes 8 B10.out)
  have E11 := Lib.hid e11
  clear e11
  have HL := Lib.hid (show Tx.left s = s11 from by unfold Tx.left; simp only [rdAll, E1.out, E2.out, E3.out, E4.out, E5.out, E6.out, E7.out, E8.out, E9.out, E10.out, E11.out])
  have HG := Lib.hid (show Tx.got s = ⟨⟨numHi (rdV s 16), numLo (rdV s 16)⟩, ⟨numHi (rdV s1 16), numLo (rdV s1 16)⟩, ⟨numHi (rdV s2 16), numLo (rdV s2 16)⟩, ⟨numHi (rdV s3 16), numLo (rdV s3 16)⟩, ⟨numHi (rdV s4 16), numLo (rdV s4 16)⟩, wrap64 (le (rdV s5 4)), wrap64 (le (rdV s6 4)), wrap64 (le (rdV s7 2)), wrap64 (le (rdV s8 2)), wrap64 (le (rdV s9 8)), wrap64 (le (rdV s10 8))⟩ from by unfold Tx.got; simp only [E1.out, E2.out, E3.out, E4.out, E5.out, E6.out, E7.out, E8.out, E9.out, E10.out])
  obtain ⟨h0, y0⟩ : ∃ x, numHi (rdV s 16) = x := ⟨_, rfl⟩
  obtain ⟨o0, z0⟩ : ∃ x, numLo (rdV s 16) = x := ⟨_, rfl⟩
  have Y0 := Lib.hid y0
  have Z0 := Lib.hid z0
  clear y0 z0
  obtain ⟨h1, y1⟩ : ∃ x, numHi (rdV s1 16) = x := ⟨_, rfl⟩
  obtain ⟨o1, z1⟩ : ∃ x, numLo (rdV s1 16) = x := ⟨_, rfl⟩
  have Y1 := Lib.hid y1
  have Z1 := Lib.hid z1
  clear y1 z1
  obtain ⟨h2, y2⟩ : ∃ x, numHi (rdV s2 16) = x := ⟨_, rfl⟩
  obtain ⟨o2, z2⟩ : ∃ x, numLo (rdV s2 16) = x := ⟨_, rfl⟩
  have Y2 := Lib.hid y2
  have Z2 := Lib.hid z2
  clear y2 z2
  obtain ⟨h3, y3⟩ : ∃ x, numHi (rdV s3 16) = x := ⟨_, rfl⟩
  obtain ⟨o3, z3⟩ : ∃ x, numLo (rdV s3 16) = x := ⟨_, rfl⟩
  have Y3 := Lib.hid y3
  have Z3 := Lib.hid z3
  clear y3 z3
  obtain ⟨h4, y4⟩ : ∃ x, numHi (rdV s4 16) = x := ⟨_, rfl⟩
  obtain ⟨o4, z4⟩ : ∃ x, numLo (rdV s4 16) = x := ⟨_, rfl⟩
  have Y4 := Lib.hid y4
  have Z4 := Lib.hid z4
  clear y4 z4
  obtain ⟨i5, y5⟩ : ∃ x, wrap64 (le (rdV s5 4)) = x := ⟨_, rfl⟩
  have Y5 := Lib.hid y5
  clear y5
  obtain ⟨i6, y6⟩ : ∃ x, wrap64 (le (rdV s6 4)) = x := ⟨_, rfl⟩
  have Y6 := Lib.hid y6
  clear y6
  obtain ⟨i7, y7⟩ : ∃ x, wrap64 (le (rdV s7 2)) = x := ⟨_, rfl⟩
  have Y7 := Lib.hid y7
  clear y7
  obtain ⟨i8, y8⟩ : ∃ x, wrap64 (le (rdV s8 2)) = x := ⟨_, rfl⟩
  have Y8 := Lib.hid y8
  clear y8
  obtain ⟨i9, y9⟩ : ∃ x, wrap64 (le (rdV s9 8)) = x := ⟨_, rfl⟩
  have Y9 := Lib.hid y9
  clear y9
  obtain ⟨i10, y10⟩ : ∃ x, wrap64 (le (rdV s10 8)) = x := ⟨_, rfl⟩
  have Y10 := Lib.hid y10
  clear y10
  have HG2 := Lib.hid (show (Tx.got s).val = .agg #[.int .u64 h0, .int .u64 o0, .int .u64 h1, .int .u64 o1, .int .u64 h2, .int .u64 o2, .int .u64 h3, .int .u64 o3, .int .u64 h4, .int .u64 o4, .int .i64 i5, .int .i64 i6, .int .i64 i7, .int .i64 i8, .int .i64 i9, .int .i64 i10] from by rw [HG.out]; simp only [Y0.out, Z0.out, Y1.out, Z1.out, Y2.out, Z2.out, Y3.out, Z3.out, Y4.out, Z4.out, Y5.out, Y6.out, Y7.out, Y8.out, Y9.out, Y10.out, Tx.val])
  rw [HL.out] at hL ⊢
  have ht := Lib.hid hL
  clear hL HL HG
  go_enter Try.func41, Try.ntmps41
  go_wp2_with fail
  refine (rNum_tot _ g s (by first | exact K0.out | (unfold IsR; (repeat (first | (with_reducible refine blk_drew ?_) | (with_reducible refine blk_drewN ?_ _) | (with_reducible refine blk_alloc ?_ _) | (with_reducible refine blk_far2 ?_ (by omega) _))); exact K0.out)) B0.out).mono ?_
  rintro e w1 ⟨rfl, k1, f1⟩
  rw [Y0.out, Z0.out]
  rw [E1.out] at k1
  have K1 := Lib.hid k1
  have F1 := Lib.hid (Fr.then_ (S2 := fun k => k = g) (show Fr (fun k => k = g) w _ from by (repeat (first | (with_reducible exact Fr.refl _ _) | (with_reducible refine Fr.drew ?_) | (with_reducible refine Fr.drewN ?_ _) | (with_reducible refine Fr.alloc ?_ _) | (with_reducible refine Fr.set1 ?_ _) | (with_reducible refine Fr.setNew ?_ (by omega) _))) <;> exact F0.out) f1 (fun _ h => .inl h))
  have Rb1 := Lib.hid (f1.blk Rb0.out Hgn.out)
  clear k1 f1
  go_wp2_with fail
  refine (rNum_tot _ g s1 (by first | exact K1.out | (unfold IsR; (repeat (first | (with_reducible refine blk_drew ?_) | (with_reducible refine blk_drewN ?_ _) | (with_reducible refine blk_alloc ?_ _) | (with_reducible refine blk_far2 ?_ (by omega) _))); exact K1.out)) B1.out).mono ?_
  rintro e w2 ⟨rfl, k2, f2⟩
  rw [Y1.out, Z1.out]
  rw [E2.out] at k2
  have K2 := Lib.hid k2
  have F2 := Lib.hid (Fr.then_ (S2 := fun k => k = g) (show Fr (fun k => k = g) w _ from by (repeat (first | (with_reducible exact Fr.refl _ _) | (with_reducible refine Fr.drew ?_) | (with_reducible refine Fr.drewN ?_ _) | (with_reducible refine Fr.alloc ?_ _) | (with_reducible refine Fr.set1 ?_ _) | (with_reducible refine Fr.setNew ?_ (by omega) _))) <;> exact F1.out) f2 (fun _ h => .inl h))
  have Rb2 := Lib.hid (f2.blk Rb1.out Hgn.out)
  clear k2 f2
  go_wp2_with fail
  refine (rNum_tot _ g s2 (by first | exact K2.out | (unfold IsR; (repeat (first | (with_reducible refine blk_drew ?_) | (with_reducible refine blk_drewN ?_ _) | (with_reducible refine blk_alloc ?_ _) | (with_reducible refine blk_far2 ?_ (by omega) _))); exact K2.out)) B2.out).mono ?_
  rintro e w3 ⟨rfl, k3, f3⟩
  rw [Y2.out, Z2.out]
  rw [E3.out] at k3
  have K3 := Lib.hid k3
  have F3 := Lib.hid (Fr.then_ (S2 := fun k => k = g) (show Fr (fun k => k = g) w _ from by (repeat (first | (with_reducible exact Fr.refl _ _) | (with_reducible refine Fr.drew ?_) | (with_reducible refine Fr.drewN ?_ _) | (with_reducible refine Fr.alloc ?_ _) | (with_reducible refine Fr.set1 ?_ _) | (with_reducible refine Fr.setNew ?_ (by omega) _))) <;> exact F2.out) f3 (fun _ h => .inl h))
  have Rb3 := Lib.hid (f3.blk Rb2.out Hgn.out)
  clear k3 f3
  go_wp2_with fail
  refine (rNum_tot _ g s3 (by first | exact K3.out | (unfold IsR; (repeat (first | (with_reducible refine blk_drew ?_) | (with_reducible refine blk_drewN ?_ _) | (with_reducible refine blk_alloc ?_ _) | (with_reducible refine blk_far2 ?_ (by omega) _))); exact K3.out)) B3.out).mono ?_
  rintro e w4 ⟨rfl, k4, f4⟩
  rw [Y3.out, Z3.out]
  rw [E4.out] at k4
  have K4 := Lib.hid k4
  have F4 := Lib.hid (Fr.then_ (S2 := fun k => k = g) (show Fr (fun k => k = g) w _ from by (repeat (first | (with_reducible exact Fr.refl _ _) | (with_reducible refine Fr.drew ?_) | (with_reducible refine Fr.drewN ?_ _) | (with_reducible refine Fr.alloc ?_ _) | (with_reducible refine Fr.set1 ?_ _) | (with_reducible refine Fr.setNew ?_ (by omega) _))) <;> exact F3.out) f4 (fun _ h => .inl h))
  have Rb4 := Lib.hid (f4.blk Rb3.out Hgn.out)
  clear k4 f4
  go_wp2_with fail
  refine (rNum_tot _ g s4 (by first | exact K4.out | (unfold IsR; (repeat (first | (with_reducible refine blk_drew ?_) | (with_reducible refine blk_drewN ?_ _) | (with_reducible refine blk_alloc ?_ _) | (with_reducible refine blk_far2 ?_ (by omega) _))); exact K4.out)) B4.out).mono ?_
  rintro e w5 ⟨rfl, k5, f5⟩
  rw [Y4.out, Z4.out]
  rw [E5.out] at k5
  have K5 := Lib.hid k5
  have F5 := Lib.hid (Fr.then_ (S2 := fun k => k = g) (show Fr (fun k => k = g) w _ from by (repeat (first | (with_reducible exact Fr.refl _ _) | (with_reducible refine Fr.drew ?_) | (with_reducible refine Fr.drewN ?_ _) | (with_reducible refine Fr.alloc ?_ _) | (with_reducible refine Fr.set1 ?_ _) | (with_reducible refine Fr.setNew ?_ (by omega) _))) <;> exact F4.out) f5 (fun _ h => .inl h))
  have Rb5 := Lib.hid (f5.blk Rb4.out Hgn.out)
  clear k5 f5
  go_wp2_with fail
  refine (rInt_tot _ g s5 4 (by first | exact K5.out | (unfold IsR; (repeat (first | (with_reducible refine blk_drew ?_) | (with_reducible refine blk_drewN ?_ _) | (with_reducible refine blk_alloc ?_ _) | (with_reducible refine blk_far2 ?_ (by omega) _))); exact K5.out)) B5.out (by omega)).mono ?_
  rintro e w6 ⟨rfl, k6, f6⟩
  rw [Y5.out]
  rw [E6.out] at k6
  have K6 := Lib.hid k6
  have F6 := Lib.hid (Fr.then_ (S2 := fun k => k = g) (show Fr (fun k => k = g) w _ from by (repeat (first | (with_reducible exact Fr.refl _ _) | (with_reducible refine Fr.drew ?_) | (with_reducible refine Fr.drewN ?_ _) | (with_reducible refine Fr.alloc ?_ _) | (with_reducible refine Fr.set1 ?_ _) | (with_reducible refine Fr.setNew ?_ (by omega) _))) <;> exact F5.out) f6 (fun _ h => .inl h))
  have Rb6 := Lib.hid (f6.blk Rb5.out Hgn.out)
  clear k6 f6
  go_wp2_with fail
  refine (rInt_tot _ g s6 4 (by first | exact K6.out | (unfold IsR; (repeat (first | (with_reducible refine blk_drew ?_) | (with_reducible refine blk_drewN ?_ _) | (with_reducible refine blk_alloc ?_ _) | (with_reducible refine blk_far2 ?_ (by omega) _))); exact K6.out)) B6.out (by omega)).mono ?_
  rintro e w7 ⟨rfl, k7, f7⟩
  rw [Y6.out]
  rw [E7.out] at k7
  have K7 := Lib.hid k7
  have F7 := Lib.hid (Fr.then_ (S2 := fun k => k = g) (show Fr (fun k => k = g) w _ from by (repeat (first | (with_reducible exact Fr.refl _ _) | (with_reducible refine Fr.drew ?_) | (with_reducible refine Fr.drewN ?_ _) | (with_reducible refine Fr.alloc ?_ _) | (with_reducible refine Fr.set1 ?_ _) | (with_reducible refine Fr.setNew ?_ (by omega) _))) <;> exact F6.out) f7 (fun _ h => .inl h))
  have Rb7 := Lib.hid (f7.blk Rb6.out Hgn.out)
  clear k7 f7
  go_wp2_with fail
  refine (rInt_tot _ g s7 2 (by first | exact K7.out | (unfold IsR; (repeat (first | (with_reducible refine blk_drew ?_) | (with_reducible refine blk_drewN ?_ _) | (with_reducible refine blk_alloc ?_ _) | (with_reducible refine blk_far2 ?_ (by omega) _))); exact K7.out)) B7.out (by omega)).mono ?_
  rintro e w8 ⟨rfl, k8, f8⟩
  rw [Y7.out]
  rw [E8.out] at k8
  have K8 := Lib.hid k8
  have F8 := Lib.hid (Fr.then_ (S2 := fun k => k = g) (show Fr (fun k => k = g) w _ from by (repeat (first | (with_reducible exact Fr.refl _ _) | (with_reducible refine Fr.drew ?_) | (with_reducible refine Fr.drewN ?_ _) | (with_reducible refine Fr.alloc ?_ _) | (with_reducible refine Fr.set1 ?_ _) | (with_reducible refine Fr.setNew ?_ (by omega) _))) <;> exact F7.out) f8 (fun _ h => .inl h))
  have Rb8 := Lib.hid (f8.blk Rb7.out Hgn.out)
  clear k8 f8
  go_wp2_with fail
  refine (rInt_tot _ g s8 2 (by first | exact K8.out | (unfold IsR; (repeat (first | (with_reducible refine blk_drew ?_) | (with_reducible refine blk_drewN ?_ _) | (with_reducible refine blk_alloc ?_ _) | (with_reducible refine blk_far2 ?_ (by omega) _))); exact K8.out)) B8.out (by omega)).mono ?_
  rintro e w9 ⟨rfl, k9, f9⟩
  rw [Y8.out]
  rw [E9.out] at k9
  have K9 := Lib.hid k9
  have F9 := Lib.hid (Fr.then_ (S2 := fun k => k = g) (show Fr (fun k => k = g) w _ from by (repeat (first | (with_reducible exact Fr.refl _ _) | (with_reducible refine Fr.drew ?_) | (with_reducible refine Fr.drewN ?_ _) | (with_reducible refine Fr.alloc ?_ _) | (with_reducible refine Fr.set1 ?_ _) | (with_reducible refine Fr.setNew ?_ (by omega) _))) <;> exact F8.out) f9 (fun _ h => .inl h))
  have Rb9 := Lib.hid (f9.blk Rb8.out Hgn.out)
  clear k9 f9
  go_wp2_with fail
  refine (rInt_tot _ g s9 8 (by first | exact K9.out | (unfold IsR; (repeat (first | (with_reducible refine blk_drew ?_) | (with_reducible refine blk_drewN ?_ _) | (with_reducible refine blk_alloc ?_ _) | (with_reducible refine blk_far2 ?_ (by omega) _))); exact K9.out)) B9.out (by omega)).mono ?_
  rintro e w10 ⟨rfl, k10, f10⟩
  rw [Y9.out]
  rw [E10.out] at k10
  have K10 := Lib.hid k10
  have F10 := Lib.hid (Fr.then_ (S2 := fun k => k = g) (show Fr (fun k => k = g) w _ from by (repeat (first | (with_reducible exact Fr.refl _ _) | (with_reducible refine Fr.drew ?_) | (with_reducible refine Fr.drewN ?_ _) | (with_reducible refine Fr.alloc ?_ _) | (with_reducible refine Fr.set1 ?_ _) | (with_reducible refine Fr.setNew ?_ (by omega) _))) <;> exact F9.out) f10 (fun _ h => .inl h))
  have Rb10 := Lib.hid (f10.blk Rb9.out Hgn.out)
  clear k10 f10
  go_wp2_with fail
  refine (rInt_tot _ g s10 8 (by first | exact K10.out | (unfold IsR; (repeat (first | (with_reducible refine blk_drew ?_) | (with_reducible refine blk_drewN ?_ _) | (with_reducible refine blk_alloc ?_ _) | (with_reducible refine blk_far2 ?_ (by omega) _))); exact K10.out)) B10.out (by omega)).mono ?_
  rintro e w11 ⟨rfl, k11, f11⟩
  rw [Y10.out]
  rw [E11.out] at k11
  have K11 := Lib.hid k11
  have F11 := Lib.hid (Fr.then_ (S2 := fun k => k = g) (show Fr (fun k => k = g) w _ from by (repeat (first | (with_reducible exact Fr.refl _ _) | (with_reducible refine Fr.drew ?_) | (with_reducible refine Fr.drewN ?_ _) | (with_reducible refine Fr.alloc ?_ _) | (with_reducible refine Fr.set1 ?_ _) | (with_reducible refine Fr.setNew ?_ (by omega) _))) <;> exact F10.out) f11 (fun _ h => .inl h))
  have Rb11 := Lib.hid (f11.blk Rb10.out Hgn.out)
  clear k11 f11
  go_wp2_with fail
  refine (rTorn_any _ g s11.1 s11.2 (by first | exact K11.out | (unfold IsR; (repeat (first | (with_reducible refine blk_drew ?_) | (with_reducible refine blk_drewN ?_ _) | (with_reducible refine blk_alloc ?_ _) | (with_reducible refine blk_far2 ?_ (by omega) _))); exact K11.out))).mono ?_
  rintro e wT ⟨rfl, rfl⟩
  rw [ht.out]
  have rb := blk_alloc Rb11.out (.cells #[.int .u64 h0, .int .u64 o0, .int .u64 h1, .int .u64 o1, .int .u64 h2, .int .u64 o2, .int .u64 h3, .int .u64 o3, .int .u64 h4, .int .u64 o4, .int .i64 i5, .int .i64 i6, .int .i64 i7, .int .i64 i8, .int .i64 i9, .int .i64 i10] 61)
  have r0 := blk_cell rb 0 rfl; have q0 := blk_free rb 0; have r1 := blk_cell rb 1 rfl; have q1 := blk_free rb 1; have r2 := blk_cell rb 2 rfl; have q2 := blk_free rb 2; have r3 := blk_cell rb 3 rfl; have q3 := blk_free rb 3; have r4 := blk_cell rb 4 rfl; have q4 := blk_free rb 4; have r5 := blk_cell rb 5 rfl; have q5 := blk_free rb 5; have r6 := blk_cell rb 6 rfl; have q6 := blk_free rb 6; have r7 := blk_cell rb 7 rfl; have q7 := blk_free rb 7; have r8 := blk_cell rb 8 rfl; have q8 := blk_free rb 8; have r9 := blk_cell rb 9 rfl; have q9 := blk_free rb 9; have r10 := blk_cell rb 10 rfl; have q10 := blk_free rb 10; have r11 := blk_cell rb 11 rfl; have q11 := blk_free rb 11; have r12 := blk_cell rb 12 rfl; have q12 := blk_free rb 12; have r13 := blk_cell rb 13 rfl; have q13 := blk_free rb 13; have r14 := blk_cell rb 14 rfl; have q14 := blk_free rb 14; have r15 := blk_cell rb 15 rfl; have q15 := blk_free rb 15
  have hgr := Lib.hid (blk_lt rb)
  have Rb := Lib.hid rb
  clear rb
  go_wp2_with fail
  refine bodyPost_gen fun V hV => ?_
  have hV2 : V = setAll (w11.alloc (.cells #[.int .u64 h0, .int .u64 o0, .int .u64 h1, .int .u64 o1, .int .u64 h2, .int .u64 o2, .int .u64 h3, .int .u64 o3, .int .u64 h4, .int .u64 o4, .int .i64 i5, .int .i64 i6, .int .i64 i7, .int .i64 i8, .int .i64 i9, .int .i64 i10] 61)) w.heap.size 0 [.int .u64 0, .int .u64 0, .int .u64 0, .int .u64 0, .int .u64 0, .int .u64 0, .int .u64 0, .int .u64 0, .int .u64 0, .int .u64 0, .int .i64 0, .int .i64 0, .int .i64 0, .int .i64 0, .int .i64 0, .int .i64 0] := hV
  have rb : V.heap[w.heap.size]? = some (.cells #[.int .u64 0, .int .u64 0, .int .u64 0, .int .u64 0, .int .u64 0, .int .u64 0, .int .u64 0, .int .u64 0, .int .u64 0, .int .u64 0, .int .i64 0, .int .i64 0, .int .i64 0, .int .i64 0, .int .i64 0, .int .i64 0] 61 (0, 0)) := by rw [hV2]; exact setAll_blk _ _ _ 0 _ _ _ Rb.out rfl
  have kk : V.heap[g]? = some (.cells #[.string (strOfNums s11.1), .bool true] 98 (0, 0)) := by rw [hV]; have e2 := K11.out; rw [ht.out] at e2; (repeat (with_reducible refine blk_far2 ?_ (fun e => Hgn.out e.symm) _)); (repeat (first | (with_reducible refine blk_drew ?_) | (with_reducible refine blk_drewN ?_ _) | (with_reducible refine blk_alloc ?_ _) | (with_reducible refine blk_far2 ?_ (by omega) _))) <;> exact e2
  have ff : Fr (fun k => k = g) w V := by rw [hV]; (repeat (first | (with_reducible exact Fr.refl _ _) | (with_reducible refine Fr.drew ?_) | (with_reducible refine Fr.drewN ?_ _) | (with_reducible refine Fr.alloc ?_ _) | (with_reducible refine Fr.set1 ?_ _) | (with_reducible refine Fr.setNew ?_ (by omega) _))) <;> exact F11.out
  clear hV hV2 r0 q0 r1 q1 r2 q2 r3 q3 r4 q4 r5 q5 r6 q6 r7 q7 r8 q8 r9 q9 r10 q10 r11 q11 r12 q12 r13 q13 r14 q14 r15 q15
  have r0 := blk_cell rb 0 rfl; have r1 := blk_cell rb 1 rfl; have r2 := blk_cell rb 2 rfl; have r3 := blk_cell rb 3 rfl; have r4 := blk_cell rb 4 rfl; have r5 := blk_cell rb 5 rfl; have r6 := blk_cell rb 6 rfl; have r7 := blk_cell rb 7 rfl; have r8 := blk_cell rb 8 rfl; have r9 := blk_cell rb 9 rfl; have r10 := blk_cell rb 10 rfl; have r11 := blk_cell rb 11 rfl; have r12 := blk_cell rb 12 rfl; have r13 := blk_cell rb 13 rfl; have r14 := blk_cell rb 14 rfl; have r15 := blk_cell rb 15 rfl
  have hgr2 := blk_lt rb
  refine bodyPost_ret (v := .agg #[.int .u64 0, .int .u64 0, .int .u64 0, .int .u64 0, .int .u64 0, .int .u64 0, .int .u64 0, .int .u64 0, .int .u64 0, .int .u64 0, .int .i64 0, .int .i64 0, .int .i64 0, .int .i64 0, .int .i64 0, .int .i64 0]) (by simp [results, Try.results41, go_sem, r0, r1, r2, r3, r4, r5, r6, r7, r8, r9, r10, r11, r12, r13, r14, r15, hgr2]) rfl ⟨?_, kk, ff⟩
  rfl
set_option maxHeartbeats 6400000 in
theorem get_false (w : World) (g : Nat) (s : List Int × Bool) (h : IsR w g s.1 s.2) (hB : Bytes s.1) (hL : (Tx.left s).2 = false) :
    Calls Try.prog 41 #[.pointer (some ⟨g, 0, none⟩)] w fun e w' => e = .returned ((Tx.got s).val) ∧ IsR w' g (Tx.left s).1 false ∧ Fr (fun k => k = g) w w' := by
  have Rb0 := Lib.hid (heap_alloc_new w (.cells #[.int .u64 0, .int .u64 0, .int .u64 0, .int .u64 0, .int .u64 0, .int .u64 0, .int .u64 0, .int .u64 0, .int .u64 0, .int .u64 0, .int .i64 0, .int .i64 0, .int .i64 0, .int .i64 0, .int .i64 0, .int .i64 0] 61))
  have Hgn := Lib.hid (show ¬ w.heap.size = g from by have := blk_lt h; omega)
  have K0 := Lib.hid h
  have B0 := Lib.hid hB
  have hg := blk_lt h
  have F0 := Lib.hid (Fr.refl (fun k => k = g) w)
  clear h hB
  obtain ⟨s1, e1⟩ : ∃ x, rdS s 16 = x := ⟨_, rfl⟩
  have B1 := Lib.hid (e1 ▸ rdS_bytes 16 B0.out)
  have E1 := Lib.hid e1
  clear e1
  obtain ⟨s2, e2⟩ : ∃ x, rdS s1 16 = x := ⟨_, rfl⟩
  have B2 := Lib.hid (e2 ▸ rdS_bytes 16 B1.out)
  have E2 := Lib.hid e2
  clear e2
  obtain ⟨s3, e3⟩ : ∃ x, rdS s2 16 = x := ⟨_, rfl⟩
  have B3 := Lib.hid (e3 ▸ rdS_bytes 16 B2.out)
  have E3 := Lib.hid e3
  clear e3
  obtain ⟨s4, e4⟩ : ∃ x, rdS s3 16 = x := ⟨_, rfl⟩
  have B4 := Lib.hid (e4 ▸ rdS_bytes 16 B3.out)
  have E4 := Lib.hid e4
  clear e4
  obtain ⟨s5, e5⟩ : ∃ x, rdS s4 16 = x := ⟨_, rfl⟩
  have B5 := Lib.hid (e5 ▸ rdS_bytes 16 B4.out)
  have E5 := Lib.hid e5
  clear e5
  obtain ⟨s6, e6⟩ : ∃ x, rdS s5 4 = x := ⟨_, rfl⟩
  have B6 := Lib.hid (e6 ▸ rdS_bytes 4 B5.out)
  have E6 := Lib.hid e6
  clear e6
  obtain ⟨s7, e7⟩ : ∃ x, rdS s6 4 = x := ⟨_, rfl⟩
  have B7 := Lib.hid (e7 ▸ rdS_bytes 4 B6.out)
  have E7 := Lib.hid e7
  clear e7
  obtain ⟨s8, e8⟩ : ∃ x, rdS s7 2 = x := ⟨_, rfl⟩
  have B8 := Lib.hid (e8 ▸ rdS_bytes 2 B7.out)
  have E8 := Lib.hid e8
  clear e8
  obtain ⟨s9, e9⟩ : ∃ x, rdS s8 2 = x := ⟨_, rfl⟩
  have B9 := Lib.hid (e9 ▸ rdS_bytes 2 B8.out)
  have E9 := Lib.hid e9
  clear e9
  obtain ⟨s10, e10⟩ : ∃ x, rdS s9 8 = x := ⟨_, rfl⟩
  have B10 := Lib.hid (e10 ▸ rdS_bytes 8 B9.out)
  have E10 := Lib.hid e10
  clear e10
  obtain ⟨s11, e11⟩ : ∃ x, rdS s10 8 = x := ⟨_, rfl⟩
  have B11 := Lib.hid (e11 ▸ rdS_bytes 8 B10.out)
  have E11 := Lib.hid e11
  clear e11
  have HL := Lib.hid (show Tx.left s = s11 from by unfold Tx.left; simp only [rdAll, E1.out, E2.out, E3.out, E4.out, E5.out, E6.out, E7.out, E8.out, E9.out, E10.out, E11.out])
  have HG := Lib.hid (show Tx.got s = ⟨⟨numHi (rdV s 16), numLo (rdV s 16)⟩, ⟨numHi (rdV s1 16), numLo (rdV s1 16)⟩, ⟨numHi (rdV s2 16), numLo (rdV s2 16)⟩, ⟨numHi (rdV s3 16), numLo (rdV s3 16)⟩, ⟨numHi (rdV s4 16), numLo (rdV s4 16)⟩, wrap64 (le (rdV s5 4)), wrap64 (le (rdV s6 4)), wrap64 (le (rdV s7 2)), wrap64 (le (rdV s8 2)), wrap64 (le (rdV s9 8)), wrap64 (le (rdV s10 8))⟩ from by unfold Tx.got; simp only [E1.out, E2.out, E3.out, E4.out, E5.out, E6.out, E7.out, E8.out, E9.out, E10.out])
  obtain ⟨h0, y0⟩ : ∃ x, numHi (rdV s 16) = x := ⟨_, rfl⟩
  obtain ⟨o0, z0⟩ : ∃ x, numLo (rdV s 16) = x := ⟨_, rfl⟩
  have Y0 := Lib.hid y0
  have Z0 := Lib.hid z0
  clear y0 z0
  obtain ⟨h1, y1⟩ : ∃ x, numHi (rdV s1 16) = x := ⟨_, rfl⟩
  obtain ⟨o1, z1⟩ : ∃ x, numLo (rdV s1 16) = x := ⟨_, rfl⟩
  have Y1 := Lib.hid y1
  have Z1 := Lib.hid z1
  clear y1 z1
  obtain ⟨h2, y2⟩ : ∃ x, numHi (rdV s2 16) = x := ⟨_, rfl⟩
  obtain ⟨o2, z2⟩ : ∃ x, numLo (rdV s2 16) = x := ⟨_, rfl⟩
  have Y2 := Lib.hid y2
  have Z2 := Lib.hid z2
  clear y2 z2
  obtain ⟨h3, y3⟩ : ∃ x, numHi (rdV s3 16) = x := ⟨_, rfl⟩
  obtain ⟨o3, z3⟩ : ∃ x, numLo (rdV s3 16) = x := ⟨_, rfl⟩
  have Y3 := Lib.hid y3
  have Z3 := Lib.hid z3
  clear y3 z3
  obtain ⟨h4, y4⟩ : ∃ x, numHi (rdV s4 16) = x := ⟨_, rfl⟩
  obtain ⟨o4, z4⟩ : ∃ x, numLo (rdV s4 16) = x := ⟨_, rfl⟩
  have Y4 := Lib.hid y4
  have Z4 := Lib.hid z4
  clear y4 z4
  obtain ⟨i5, y5⟩ : ∃ x, wrap64 (le (rdV s5 4)) = x := ⟨_, rfl⟩
  have Y5 := Lib.hid y5
  clear y5
  obtain ⟨i6, y6⟩ : ∃ x, wrap64 (le (rdV s6 4)) = x := ⟨_, rfl⟩
  have Y6 := Lib.hid y6
  clear y6
  obtain ⟨i7, y7⟩ : ∃ x, wrap64 (le (rdV s7 2)) = x := ⟨_, rfl⟩
  have Y7 := Lib.hid y7
  clear y7
  obtain ⟨i8, y8⟩ : ∃ x, wrap64 (le (rdV s8 2)) = x := ⟨_, rfl⟩
  have Y8 := Lib.hid y8
  clear y8
  obtain ⟨i9, y9⟩ : ∃ x, wrap64 (le (rdV s9 8)) = x := ⟨_, rfl⟩
  have Y9 := Lib.hid y9
  clear y9
  obtain ⟨i10, y10⟩ : ∃ x, wrap64 (le (rdV s10 8)) = x := ⟨_, rfl⟩
  have Y10 := Lib.hid y10
  clear y10
  have HG2 := Lib.hid (show (Tx.got s).val = .agg #[.int .u64 h0, .int .u64 o0, .int .u64 h1, .int .u64 o1, .int .u64 h2, .int .u64 o2, .int .u64 h3, .int .u64 o3, .int .u64 h4, .int .u64 o4, .int .i64 i5, .int .i64 i6, .int .i64 i7, .int .i64 i8, .int .i64 i9, .int .i64 i10] from by rw [HG.out]; simp only [Y0.out, Z0.out, Y1.out, Z1.out, Y2.out, Z2.out, Y3.out, Z3.out, Y4.out, Z4.out, Y5.out, Y6.out, Y7.out, Y8.out, Y9.out, Y10.out, Tx.val])
  rw [HL.out] at hL ⊢
  have ht := Lib.hid hL
  clear hL HL HG
  go_enter Try.func41, Try.ntmps41
  go_wp2_with fail
  refine (rNum_tot _ g s (by first | exact K0.out | (unfold IsR; (repeat (first | (with_reducible refine blk_drew ?_) | (with_reducible refine blk_drewN ?_ _) | (with_reducible refine blk_alloc ?_ _) | (with_reducible refine blk_far2 ?_ (by omega) _))); exact K0.out)) B0.out).mono ?_
  rintro e w1 ⟨rfl, k1, f1⟩
  rw [Y0.out, Z0.out]
  rw [E1.out] at k1
  have K1 := Lib.hid k1
  have F1 := Lib.hid (Fr.then_ (S2 := fun k => k = g) (show Fr (fun k => k = g) w _ from by (repeat (first | (with_reducible exact Fr.refl _ _) | (with_reducible refine Fr.drew ?_) | (with_reducible refine Fr.drewN ?_ _) | (with_reducible refine Fr.alloc ?_ _) | (with_reducible refine Fr.set1 ?_ _) | (with_reducible refine Fr.setNew ?_ (by omega) _))) <;> exact F0.out) f1 (fun _ h => .inl h))
  have Rb1 := Lib.hid (f1.blk Rb0.out Hgn.out)
  clear k1 f1
  go_wp2_with fail
  refine (rNum_tot _ g s1 (by first | exact K1.out | (unfold IsR; (repeat (first | (with_reducible refine blk_drew ?_) | (with_reducible refine blk_drewN ?_ _) | (with_reducible refine blk_alloc ?_ _) | (with_reducible refine blk_far2 ?_ (by omega) _))); exact K1.out)) B1.out).mono ?_
  rintro e w2 ⟨rfl, k2, f2⟩
  rw [Y1.out, Z1.out]
  rw [E2.out] at k2
  have K2 := Lib.hid k2
  have F2 := Lib.hid (Fr.then_ (S2 := fun k => k = g) (show Fr (fun k => k = g) w _ from by (repeat (first | (with_reducible exact Fr.refl _ _) | (with_reducible refine Fr.drew ?_) | (with_reducible refine Fr.drewN ?_ _) | (with_reducible refine Fr.alloc ?_ _) | (with_reducible refine Fr.set1 ?_ _) | (with_reducible refine Fr.setNew ?_ (by omega) _))) <;> exact F1.out) f2 (fun _ h => .inl h))
  have Rb2 := Lib.hid (f2.blk Rb1.out Hgn.out)
  clear k2 f2
  go_wp2_with fail
  refine (rNum_tot _ g s2 (by first | exact K2.out | (unfold IsR; (repeat (first | (with_reducible refine blk_drew ?_) | (with_reducible refine blk_drewN ?_ _) | (with_reducible refine blk_alloc ?_ _) | (with_reducible refine blk_far2 ?_ (by omega) _))); exact K2.out)) B2.out).mono ?_
  rintro e w3 ⟨rfl, k3, f3⟩
  rw [Y2.out, Z2.out]
  rw [E3.out] at k3
  have K3 := Lib.hid k3
  have F3 := Lib.hid (Fr.then_ (S2 := fun k => k = g) (show Fr (fun k => k = g) w _ from by (repeat (first | (with_reducible exact Fr.refl _ _) | (with_reducible refine Fr.drew ?_) | (with_reducible refine Fr.drewN ?_ _) | (with_reducible refine Fr.alloc ?_ _) | (with_reducible refine Fr.set1 ?_ _) | (with_reducible refine Fr.setNew ?_ (by omega) _))) <;> exact F2.out) f3 (fun _ h => .inl h))
  have Rb3 := Lib.hid (f3.blk Rb2.out Hgn.out)
  clear k3 f3
  go_wp2_with fail
  refine (rNum_tot _ g s3 (by first | exact K3.out | (unfold IsR; (repeat (first | (with_reducible refine blk_drew ?_) | (with_reducible refine blk_drewN ?_ _) | (with_reducible refine blk_alloc ?_ _) | (with_reducible refine blk_far2 ?_ (by omega) _))); exact K3.out)) B3.out).mono ?_
  rintro e w4 ⟨rfl, k4, f4⟩
  rw [Y3.out, Z3.out]
  rw [E4.out] at k4
  have K4 := Lib.hid k4
  have F4 := Lib.hid (Fr.then_ (S2 := fun k => k = g) (show Fr (fun k => k = g) w _ from by (repeat (first | (with_reducible exact Fr.refl _ _) | (with_reducible refine Fr.drew ?_) | (with_reducible refine Fr.drewN ?_ _) | (with_reducible refine Fr.alloc ?_ _) | (with_reducible refine Fr.set1 ?_ _) | (with_reducible refine Fr.setNew ?_ (by omega) _))) <;> exact F3.out) f4 (fun _ h => .inl h))
  have Rb4 := Lib.hid (f4.blk Rb3.out Hgn.out)
  clear k4 f4
  go_wp2_with fail
  refine (rNum_tot _ g s4 (by first | exact K4.out | (unfold IsR; (repeat (first | (with_reducible refine blk_drew ?_) | (with_reducible refine blk_drewN ?_ _) | (with_reducible refine blk_alloc ?_ _) | (with_reducible refine blk_far2 ?_ (by omega) _))); exact K4.out)) B4.out).mono ?_
  rintro e w5 ⟨rfl, k5, f5⟩
  rw [Y4.out, Z4.out]
  rw [E5.out] at k5
  have K5 := Lib.hid k5
  have F5 := Lib.hid (Fr.then_ (S2 := fun k => k = g) (show Fr (fun k => k = g) w _ from by (repeat (first | (with_reducible exact Fr.refl _ _) | (with_reducible refine Fr.drew ?_) | (with_reducible refine Fr.drewN ?_ _) | (with_reducible refine Fr.alloc ?_ _) | (with_reducible refine Fr.set1 ?_ _) | (with_reducible refine Fr.setNew ?_ (by omega) _))) <;> exact F4.out) f5 (fun _ h => .inl h))
  have Rb5 := Lib.hid (f5.blk Rb4.out Hgn.out)
  clear k5 f5
  go_wp2_with fail
  refine (rInt_tot _ g s5 4 (by first | exact K5.out | (unfold IsR; (repeat (first | (with_reducible refine blk_drew ?_) | (with_reducible refine blk_drewN ?_ _) | (with_reducible refine blk_alloc ?_ _) | (with_reducible refine blk_far2 ?_ (by omega) _))); exact K5.out)) B5.out (by omega)).mono ?_
  rintro e w6 ⟨rfl, k6, f6⟩
  rw [Y5.out]
  rw [E6.out] at k6
  have K6 := Lib.hid k6
  have F6 := Lib.hid (Fr.then_ (S2 := fun k => k = g) (show Fr (fun k => k = g) w _ from by (repeat (first | (with_reducible exact Fr.refl _ _) | (with_reducible refine Fr.drew ?_) | (with_reducible refine Fr.drewN ?_ _) | (with_reducible refine Fr.alloc ?_ _) | (with_reducible refine Fr.set1 ?_ _) | (with_reducible refine Fr.setNew ?_ (by omega) _))) <;> exact F5.out) f6 (fun _ h => .inl h))
  have Rb6 := Lib.hid (f6.blk Rb5.out Hgn.out)
  clear k6 f6
  go_wp2_with fail
  refine (rInt_tot _ g s6 4 (by first | exact K6.out | (unfold IsR; (repeat (first | (with_reducible refine blk_drew ?_) | (with_reducible refine blk_drewN ?_ _) | (with_reducible refine blk_alloc ?_ _) | (with_reducible refine blk_far2 ?_ (by omega) _))); exact K6.out)) B6.out (by omega)).mono ?_
  rintro e w7 ⟨rfl, k7, f7⟩
  rw [Y6.out]
  rw [E7.out] at k7
  have K7 := Lib.hid k7
  have F7 := Lib.hid (Fr.then_ (S2 := fun k => k = g) (show Fr (fun k => k = g) w _ from by (repeat (first | (with_reducible exact Fr.refl _ _) | (with_reducible refine Fr.drew ?_) | (with_reducible refine Fr.drewN ?_ _) | (with_reducible refine Fr.alloc ?_ _) | (with_reducible refine Fr.set1 ?_ _) | (with_reducible refine Fr.setNew ?_ (by omega) _))) <;> exact F6.out) f7 (fun _ h => .inl h))
  have Rb7 := Lib.hid (f7.blk Rb6.out Hgn.out)
  clear k7 f7
  go_wp2_with fail
  refine (rInt_tot _ g s7 2 (by first | exact K7.out | (unfold IsR; (repeat (first | (with_reducible refine blk_drew ?_) | (with_reducible refine blk_drewN ?_ _) | (with_reducible refine blk_alloc ?_ _) | (with_reducible refine blk_far2 ?_ (by omega) _))); exact K7.out)) B7.out (by omega)).mono ?_
  rintro e w8 ⟨rfl, k8, f8⟩
  rw [Y7.out]
  rw [E8.out] at k8
  have K8 := Lib.hid k8
  have F8 := Lib.hid (Fr.then_ (S2 := fun k => k = g) (show Fr (fun k => k = g) w _ from by (repeat (first | (with_reducible exact Fr.refl _ _) | (with_reducible refine Fr.drew ?_) | (with_reducible refine Fr.drewN ?_ _) | (with_reducible refine Fr.alloc ?_ _) | (with_reducible refine Fr.set1 ?_ _) | (with_reducible refine Fr.setNew ?_ (by omega) _))) <;> exact F7.out) f8 (fun _ h => .inl h))
  have Rb8 := Lib.hid (f8.blk Rb7.out Hgn.out)
  clear k8 f8
  go_wp2_with fail
  refine (rInt_tot _ g s8 2 (by first | exact K8.out | (unfold IsR; (repeat (first | (with_reducible refine blk_drew ?_) | (with_reducible refine blk_drewN ?_ _) | (with_reducible refine blk_alloc ?_ _) | (with_reducible refine blk_far2 ?_ (by omega) _))); exact K8.out)) B8.out (by omega)).mono ?_
  rintro e w9 ⟨rfl, k9, f9⟩
  rw [Y8.out]
  rw [E9.out] at k9
  have K9 := Lib.hid k9
  have F9 := Lib.hid (Fr.then_ (S2 := fun k => k = g) (show Fr (fun k => k = g) w _ from by (repeat (first | (with_reducible exact Fr.refl _ _) | (with_reducible refine Fr.drew ?_) | (with_reducible refine Fr.drewN ?_ _) | (with_reducible refine Fr.alloc ?_ _) | (with_reducible refine Fr.set1 ?_ _) | (with_reducible refine Fr.setNew ?_ (by omega) _))) <;> exact F8.out) f9 (fun _ h => .inl h))
  have Rb9 := Lib.hid (f9.blk Rb8.out Hgn.out)
  clear k9 f9
  go_wp2_with fail
  refine (rInt_tot _ g s9 8 (by first | exact K9.out | (unfold IsR; (repeat (first | (with_reducible refine blk_drew ?_) | (with_reducible refine blk_drewN ?_ _) | (with_reducible refine blk_alloc ?_ _) | (with_reducible refine blk_far2 ?_ (by omega) _))); exact K9.out)) B9.out (by omega)).mono ?_
  rintro e w10 ⟨rfl, k10, f10⟩
  rw [Y9.out]
  rw [E10.out] at k10
  have K10 := Lib.hid k10
  have F10 := Lib.hid (Fr.then_ (S2 := fun k => k = g) (show Fr (fun k => k = g) w _ from by (repeat (first | (with_reducible exact Fr.refl _ _) | (with_reducible refine Fr.drew ?_) | (with_reducible refine Fr.drewN ?_ _) | (with_reducible refine Fr.alloc ?_ _) | (with_reducible refine Fr.set1 ?_ _) | (with_reducible refine Fr.setNew ?_ (by omega) _))) <;> exact F9.out) f10 (fun _ h => .inl h))
  have Rb10 := Lib.hid (f10.blk Rb9.out Hgn.out)
  clear k10 f10
  go_wp2_with fail
  refine (rInt_tot _ g s10 8 (by first | exact K10.out | (unfold IsR; (repeat (first | (with_reducible refine blk_drew ?_) | (with_reducible refine blk_drewN ?_ _) | (with_reducible refine blk_alloc ?_ _) | (with_reducible refine blk_far2 ?_ (by omega) _))); exact K10.out)) B10.out (by omega)).mono ?_
  rintro e w11 ⟨rfl, k11, f11⟩
  rw [Y10.out]
  rw [E11.out] at k11
  have K11 := Lib.hid k11
  have F11 := Lib.hid (Fr.then_ (S2 := fun k => k = g) (show Fr (fun k => k = g) w _ from by (repeat (first | (with_reducible exact Fr.refl _ _) | (with_reducible refine Fr.drew ?_) | (with_reducible refine Fr.drewN ?_ _) | (with_reducible refine Fr.alloc ?_ _) | (with_reducible refine Fr.set1 ?_ _) | (with_reducible refine Fr.setNew ?_ (by omega) _))) <;> exact F10.out) f11 (fun _ h => .inl h))
  have Rb11 := Lib.hid (f11.blk Rb10.out Hgn.out)
  clear k11 f11
  go_wp2_with fail
  refine (rTorn_any _ g s11.1 s11.2 (by first | exact K11.out | (unfold IsR; (repeat (first | (with_reducible refine blk_drew ?_) | (with_reducible refine blk_drewN ?_ _) | (with_reducible refine blk_alloc ?_ _) | (with_reducible refine blk_far2 ?_ (by omega) _))); exact K11.out))).mono ?_
  rintro e wT ⟨rfl, rfl⟩
  rw [ht.out]
  have rb := blk_alloc Rb11.out (.cells #[.int .u64 h0, .int .u64 o0, .int .u64 h1, .int .u64 o1, .int .u64 h2, .int .u64 o2, .int .u64 h3, .int .u64 o3, .int .u64 h4, .int .u64 o4, .int .i64 i5, .int .i64 i6, .int .i64 i7, .int .i64 i8, .int .i64 i9, .int .i64 i10] 61)
  have r0 := blk_cell rb 0 rfl; have q0 := blk_free rb 0; have r1 := blk_cell rb 1 rfl; have q1 := blk_free rb 1; have r2 := blk_cell rb 2 rfl; have q2 := blk_free rb 2; have r3 := blk_cell rb 3 rfl; have q3 := blk_free rb 3; have r4 := blk_cell rb 4 rfl; have q4 := blk_free rb 4; have r5 := blk_cell rb 5 rfl; have q5 := blk_free rb 5; have r6 := blk_cell rb 6 rfl; have q6 := blk_free rb 6; have r7 := blk_cell rb 7 rfl; have q7 := blk_free rb 7; have r8 := blk_cell rb 8 rfl; have q8 := blk_free rb 8; have r9 := blk_cell rb 9 rfl; have q9 := blk_free rb 9; have r10 := blk_cell rb 10 rfl; have q10 := blk_free rb 10; have r11 := blk_cell rb 11 rfl; have q11 := blk_free rb 11; have r12 := blk_cell rb 12 rfl; have q12 := blk_free rb 12; have r13 := blk_cell rb 13 rfl; have q13 := blk_free rb 13; have r14 := blk_cell rb 14 rfl; have q14 := blk_free rb 14; have r15 := blk_cell rb 15 rfl; have q15 := blk_free rb 15
  have hgr := Lib.hid (blk_lt rb)
  have Rb := Lib.hid rb
  clear rb
  go_wp2_with fail
  refine bodyPost_gen fun V hV => ?_
  have hV2 : V = setAll (w11.alloc (.cells #[.int .u64 h0, .int .u64 o0, .int .u64 h1, .int .u64 o1, .int .u64 h2, .int .u64 o2, .int .u64 h3, .int .u64 o3, .int .u64 h4, .int .u64 o4, .int .i64 i5, .int .i64 i6, .int .i64 i7, .int .i64 i8, .int .i64 i9, .int .i64 i10] 61)) w.heap.size 0 [.int .u64 h0, .int .u64 o0, .int .u64 h1, .int .u64 o1, .int .u64 h2, .int .u64 o2, .int .u64 h3, .int .u64 o3, .int .u64 h4, .int .u64 o4, .int .i64 i5, .int .i64 i6, .int .i64 i7, .int .i64 i8, .int .i64 i9, .int .i64 i10] := hV
  have rb : V.heap[w.heap.size]? = some (.cells #[.int .u64 h0, .int .u64 o0, .int .u64 h1, .int .u64 o1, .int .u64 h2, .int .u64 o2, .int .u64 h3, .int .u64 o3, .int .u64 h4, .int .u64 o4, .int .i64 i5, .int .i64 i6, .int .i64 i7, .int .i64 i8, .int .i64 i9, .int .i64 i10] 61 (0, 0)) := by rw [hV2]; exact setAll_blk _ _ _ 0 _ _ _ Rb.out rfl
  have kk : V.heap[g]? = some (.cells #[.string (strOfNums s11.1), .bool false] 98 (0, 0)) := by rw [hV]; have e2 := K11.out; rw [ht.out] at e2; (repeat (with_reducible refine blk_far2 ?_ (fun e => Hgn.out e.symm) _)); (repeat (first | (with_reducible refine blk_drew ?_) | (with_reducible refine blk_drewN ?_ _) | (with_reducible refine blk_alloc ?_ _) | (with_reducible refine blk_far2 ?_ (by omega) _))) <;> exact e2
  have ff : Fr (fun k => k = g) w V := by rw [hV]; (repeat (first | (with_reducible exact Fr.refl _ _) | (with_reducible refine Fr.drew ?_) | (with_reducible refine Fr.drewN ?_ _) | (with_reducible refine Fr.alloc ?_ _) | (with_reducible refine Fr.set1 ?_ _) | (with_reducible refine Fr.setNew ?_ (by omega) _))) <;> exact F11.out
  clear hV hV2 r0 q0 r1 q1 r2 q2 r3 q3 r4 q4 r5 q5 r6 q6 r7 q7 r8 q8 r9 q9 r10 q10 r11 q11 r12 q12 r13 q13 r14 q14 r15 q15
  have r0 := blk_cell rb 0 rfl; have r1 := blk_cell rb 1 rfl; have r2 := blk_cell rb 2 rfl; have r3 := blk_cell rb 3 rfl; have r4 := blk_cell rb 4 rfl; have r5 := blk_cell rb 5 rfl; have r6 := blk_cell rb 6 rfl; have r7 := blk_cell rb 7 rfl; have r8 := blk_cell rb 8 rfl; have r9 := blk_cell rb 9 rfl; have r10 := blk_cell rb 10 rfl; have r11 := blk_cell rb 11 rfl; have r12 := blk_cell rb 12 rfl; have r13 := blk_cell rb 13 rfl; have r14 := blk_cell rb 14 rfl; have r15 := blk_cell rb 15 rfl
  have hgr2 := blk_lt rb
  refine bodyPost_ret (v := .agg #[.int .u64 h0, .int .u64 o0, .int .u64 h1, .int .u64 o1, .int .u64 h2, .int .u64 o2, .int .u64 h3, .int .u64 o3, .int .u64 h4, .int .u64 o4, .int .i64 i5, .int .i64 i6, .int .i64 i7, .int .i64 i8, .int .i64 i9, .int .i64 i10]) (by simp [results, Try.results41, go_sem, r0, r1, r2, r3, r4, r5, r6, r7, r8, r9, r10, r11, r12, r13, r14, r15, hgr2]) rfl ⟨?_, kk, ff⟩
  rw [HG2.out]
theorem xget_any (w : World) (g : Nat) (s : List Int × Bool) (h : IsR w g s.1 s.2) (hB : Bytes s.1) :
    Calls Try.prog 41 #[.pointer (some ⟨g, 0, none⟩)] w fun e w' => e = .returned (if (Tx.left s).2 = true then Tx.none.val else (Tx.got s).val) ∧ IsR w' g (Tx.left s).1 (Tx.left s).2 ∧ Fr (fun k => k = g) w w' := by
  cases hL : (Tx.left s).2
  · rw [if_neg (by decide)]
    exact get_false w g s h hB hL
  · rw [if_pos rfl]
    exact get_true w g s h hB hL
set_option maxHeartbeats 12800000 in
theorem xrefBytesOf_any (w : World) (a : Tx) (oa : a.ok) :
    Calls Try.prog 48 #[a.val] w fun e w' => e = .returned (.string (strOfNums a.bytes)) ∧ Fr (fun _ => False) w w' := by
  have hB := Lib.hid (heap_alloc_new w (.cells #[.int .u64 a.id.hi, .int .u64 a.id.lo, .int .u64 a.debit.hi, .int .u64 a.debit.lo, .int .u64 a.credit.hi, .int .u64 a.credit.lo, .int .u64 a.amount.hi, .int .u64 a.amount.lo, .int .u64 a.pending.hi, .int .u64 a.pending.lo, .int .i64 a.timeout, .int .i64 a.ledger, .int .i64 a.code, .int .i64 a.flags, .int .i64 a.stamp, .int .i64 a.born] 61))
  have N_id := Lib.hid (show ∀ W, Calls Try.prog 49 #[.agg #[.int .u64 a.id.hi, .int .u64 a.id.lo]] W fun e w' => e = .returned (.string (strOfNums (wideBytes a.id.hi a.id.lo))) ∧ Fr (fun _ => False) W w' from fun W => refBytes_any W _ _ oa.id.hi0 oa.id.hi1 oa.id.lo0 oa.id.lo1)
  have N_debit := Lib.hid (show ∀ W, Calls Try.prog 49 #[.agg #[.int .u64 a.debit.hi, .int .u64 a.debit.lo]] W fun e w' => e = .returned (.string (strOfNums (wideBytes a.debit.hi a.debit.lo))) ∧ Fr (fun _ => False) W w' from fun W => refBytes_any W _ _ oa.debit.hi0 oa.debit.hi1 oa.debit.lo0 oa.debit.lo1)
  have N_credit := Lib.hid (show ∀ W, Calls Try.prog 49 #[.agg #[.int .u64 a.credit.hi, .int .u64 a.credit.lo]] W fun e w' => e = .returned (.string (strOfNums (wideBytes a.credit.hi a.credit.lo))) ∧ Fr (fun _ => False) W w' from fun W => refBytes_any W _ _ oa.credit.hi0 oa.credit.hi1 oa.credit.lo0 oa.credit.lo1)
  have N_amount := Lib.hid (show ∀ W, Calls Try.prog 49 #[.agg #[.int .u64 a.amount.hi, .int .u64 a.amount.lo]] W fun e w' => e = .returned (.string (strOfNums (wideBytes a.amount.hi a.amount.lo))) ∧ Fr (fun _ => False) W w' from fun W => refBytes_any W _ _ oa.amount.hi0 oa.amount.hi1 oa.amount.lo0 oa.amount.lo1)
  have N_pending := Lib.hid (show ∀ W, Calls Try.prog 49 #[.agg #[.int .u64 a.pending.hi, .int .u64 a.pending.lo]] W fun e w' => e = .returned (.string (strOfNums (wideBytes a.pending.hi a.pending.lo))) ∧ Fr (fun _ => False) W w' from fun W => refBytes_any W _ _ oa.pending.hi0 oa.pending.hi1 oa.pending.lo0 oa.pending.lo1)
  have N_timeout := Lib.hid (show ∀ W, Calls Try.prog 46 #[.int .i64 4, .int .i64 a.timeout] W fun e w' => e = .returned (.string (strOfNums (bytesOf a.timeout 4))) ∧ Fr (fun _ => False) W w' from fun W => by have h := refInt_any W 4 a.timeout; rwa [show clampN 4 = 4 from rfl] at h)
  have N_ledger := Lib.hid (show ∀ W, Calls Try.prog 46 #[.int .i64 4, .int .i64 a.ledger] W fun e w' => e = .returned (.string (strOfNums (bytesOf a.ledger 4))) ∧ Fr (fun _ => False) W w' from fun W => by have h := refInt_any W 4 a.ledger; rwa [show clampN 4 = 4 from rfl] at h)
  have N_code := Lib.hid (show ∀ W, Calls Try.prog 46 #[.int .i64 2, .int .i64 a.code] W fun e w' => e = .returned (.string (strOfNums (bytesOf a.code 2))) ∧ Fr (fun _ => False) W w' from fun W => by have h := refInt_any W 2 a.code; rwa [show clampN 2 = 2 from rfl] at h)
  have N_flags := Lib.hid (show ∀ W, Calls Try.prog 46 #[.int .i64 2, .int .i64 a.flags] W fun e w' => e = .returned (.string (strOfNums (bytesOf a.flags 2))) ∧ Fr (fun _ => False) W w' from fun W => by have h := refInt_any W 2 a.flags; rwa [show clampN 2 = 2 from rfl] at h)
  have N_stamp := Lib.hid (show ∀ W, Calls Try.prog 46 #[.int .i64 8, .int .i64 a.stamp] W fun e w' => e = .returned (.string (strOfNums (bytesOf a.stamp 8))) ∧ Fr (fun _ => False) W w' from fun W => by have h := refInt_any W 8 a.stamp; rwa [show clampN 8 = 8 from rfl] at h)
  have N_born := Lib.hid (show ∀ W, Calls Try.prog 46 #[.int .i64 8, .int .i64 a.born] W fun e w' => e = .returned (.string (strOfNums (bytesOf a.born 8))) ∧ Fr (fun _ => False) W w' from fun W => by have h := refInt_any W 8 a.born; rwa [show clampN 8 = 8 from rfl] at h)
  have z_id : (strOfNums (wideBytes a.id.hi a.id.lo)).size = 16 := by rw [strOfNums_size, wideBytes_len]
  have z_debit : (strOfNums (wideBytes a.debit.hi a.debit.lo)).size = 16 := by rw [strOfNums_size, wideBytes_len]
  have z_credit : (strOfNums (wideBytes a.credit.hi a.credit.lo)).size = 16 := by rw [strOfNums_size, wideBytes_len]
  have z_amount : (strOfNums (wideBytes a.amount.hi a.amount.lo)).size = 16 := by rw [strOfNums_size, wideBytes_len]
  have z_pending : (strOfNums (wideBytes a.pending.hi a.pending.lo)).size = 16 := by rw [strOfNums_size, wideBytes_len]
  have z_timeout : (strOfNums (bytesOf a.timeout 4)).size = 4 := by rw [strOfNums_size, blen]
  have z_ledger : (strOfNums (bytesOf a.ledger 4)).size = 4 := by rw [strOfNums_size, blen]
  have z_code : (strOfNums (bytesOf a.code 2)).size = 2 := by rw [strOfNums_size, blen]
  have z_flags : (strOfNums (bytesOf a.flags 2)).size = 2 := by rw [strOfNums_size, blen]
  have z_stamp : (strOfNums (bytesOf a.stamp 8)).size = 8 := by rw [strOfNums_size, blen]
  have z_born : (strOfNums (bytesOf a.born 8)).size = 8 := by rw [strOfNums_size, blen]
  have hb := Lib.hid (show strOfNums a.bytes = strOfNums (wideBytes a.id.hi a.id.lo) ++ strOfNums (wideBytes a.debit.hi a.debit.lo) ++ strOfNums (wideBytes a.credit.hi a.credit.lo) ++ strOfNums (wideBytes a.amount.hi a.amount.lo) ++ strOfNums (wideBytes a.pending.hi a.pending.lo) ++ strOfNums (bytesOf a.timeout 4) ++ strOfNums (bytesOf a.ledger 4) ++ strOfNums (bytesOf a.code 2) ++ strOfNums (bytesOf a.flags 2) ++ strOfNums (bytesOf a.stamp 8) ++ strOfNums (bytesOf a.born 8) from by simp only [Tx.bytes, strOf_append])
  clear oa
  unfold Tx.val
  go_enter Try.func48, Try.ntmps48
  go_wp2_with fail
  have FA := Lib.hid ((Fr.refl (fun _ => False) w).alloc (.cells #[.int .u64 a.id.hi, .int .u64 a.id.lo, .int .u64 a.debit.hi, .int .u64 a.debit.lo, .int .u64 a.credit.hi, .int .u64 a.credit.lo, .int .u64 a.amount.hi, .int .u64 a.amount.lo, .int .u64 a.pending.hi, .int .u64 a.pending.lo, .int .i64 a.timeout, .int .i64 a.ledger, .int .i64 a.code, .int .i64 a.flags, .int .i64 a.stamp, .int .i64 a.born] 61))
  have ba := hB.out
  have a0 := blk_cell ba 0 rfl; have a1 := blk_cell ba 1 rfl; have a2 := blk_cell ba 2 rfl; have a3 := blk_cell ba 3 rfl; have a4 := blk_cell ba 4 rfl; have a5 := blk_cell ba 5 rfl; have a6 := blk_cell ba 6 rfl; have a7 := blk_cell ba 7 rfl; have a8 := blk_cell ba 8 rfl; have a9 := blk_cell ba 9 rfl; have a10 := blk_cell ba 10 rfl; have a11 := blk_cell ba 11 rfl; have a12 := blk_cell ba 12 rfl; have a13 := blk_cell ba 13 rfl; have a14 := blk_cell ba 14 rfl; have a15 := blk_cell ba 15 rfl
  have hsz0 := blk_lt ba
  have Ba := Lib.hid ba
  clear ba
  go_region_held3 (fun w' => w'.cell? ⟨w.heap.size, 0, none⟩ = some (Value.int .u64 a.id.hi) ∧ w'.cell? ⟨w.heap.size, 1, none⟩ = some (Value.int .u64 a.id.lo) ∧ w'.cell? ⟨w.heap.size, 2, none⟩ = some (Value.int .u64 a.debit.hi) ∧ w'.cell? ⟨w.heap.size, 3, none⟩ = some (Value.int .u64 a.debit.lo) ∧ w'.cell? ⟨w.heap.size, 4, none⟩ = some (Value.int .u64 a.credit.hi) ∧ w'.cell? ⟨w.heap.size, 5, none⟩ = some (Value.int .u64 a.credit.lo) ∧ w'.cell? ⟨w.heap.size, 6, none⟩ = some (Value.int .u64 a.amount.hi) ∧ w'.cell? ⟨w.heap.size, 7, none⟩ = some (Value.int .u64 a.amount.lo) ∧ w'.cell? ⟨w.heap.size, 8, none⟩ = some (Value.int .u64 a.pending.hi) ∧ w'.cell? ⟨w.heap.size, 9, none⟩ = some (Value.int .u64 a.pending.lo) ∧ w'.cell? ⟨w.heap.size, 10, none⟩ = some (Value.int .i64 a.timeout) ∧ w'.cell? ⟨w.heap.size, 11, none⟩ = some (Value.int .i64 a.ledger) ∧ w'.cell? ⟨w.heap.size, 12, none⟩ = some (Value.int .i64 a.code) ∧ w'.cell? ⟨w.heap.size, 13, none⟩ = some (Value.int .i64 a.flags) ∧ w'.cell? ⟨w.heap.size, 14, none⟩ = some (Value.int .i64 a.stamp) ∧ w'.cell? ⟨w.heap.size, 15, none⟩ = some (Value.int .i64 a.born))
    (first | exact ⟨a0, a1, a2, a3, a4, a5, a6, a7, a8, a9, a10, a11, a12, a13, a14, a15⟩ | go_keep)
    (first
      | (go_at_call 49; (first | (with_reducible refine (N_id.out _).mono ?_; rintro e w2 ⟨rfl, f2⟩) | (with_reducible refine (N_debit.out _).mono ?_; rintro e w2 ⟨rfl, f2⟩) | (with_reducible refine (N_credit.out _).mono ?_; rintro e w2 ⟨rfl, f2⟩) | (with_reducible refine (N_amount.out _).mono ?_; rintro e w2 ⟨rfl, f2⟩) | (with_reducible refine (N_pending.out _).mono ?_; rintro e w2 ⟨rfl, f2⟩)); have ba := f2.blk Ba.out (fun h => h); have a0 := blk_cell ba 0 rfl; have a1 := blk_cell ba 1 rfl; have a2 := blk_cell ba 2 rfl; have a3 := blk_cell ba 3 rfl; have a4 := blk_cell ba 4 rfl; have a5 := blk_cell ba 5 rfl; have a6 := blk_cell ba 6 rfl; have a7 := blk_cell ba 7 rfl; have a8 := blk_cell ba 8 rfl; have a9 := blk_cell ba 9 rfl; have a10 := blk_cell ba 10 rfl; have a11 := blk_cell ba 11 rfl; have a12 := blk_cell ba 12 rfl; have a13 := blk_cell ba 13 rfl; have a14 := blk_cell ba 14 rfl; have a15 := blk_cell ba 15 rfl; have Ba := Lib.hid ba; have FA := Lib.hid (FA.out.then_ (S2 := fun _ => False) (Fr.then_ (S2 := fun _ => False) (by repeat (first | (with_reducible exact Fr.refl _ _) | (with_reducible refine Fr.drew ?_) | (with_reducible refine Fr.drewN ?_ _) | (with_reducible refine Fr.alloc ?_ _) | (with_reducible refine Fr.set1 ?_ _) | (with_reducible refine Fr.setNew ?_ (by omega) _))) f2 (fun _ h => h.elim)) (fun _ h => h.elim)); clear f2 ba)
      | (go_at_call 46; (first | (with_reducible refine (N_timeout.out _).mono ?_; rintro e w2 ⟨rfl, f2⟩) | (with_reducible refine (N_ledger.out _).mono ?_; rintro e w2 ⟨rfl, f2⟩) | (with_reducible refine (N_code.out _).mono ?_; rintro e w2 ⟨rfl, f2⟩) | (with_reducible refine (N_flags.out _).mono ?_; rintro e w2 ⟨rfl, f2⟩) | (with_reducible refine (N_stamp.out _).mono ?_; rintro e w2 ⟨rfl, f2⟩) | (with_reducible refine (N_born.out _).mono ?_; rintro e w2 ⟨rfl, f2⟩)); have ba := f2.blk Ba.out (fun h => h); have a0 := blk_cell ba 0 rfl; have a1 := blk_cell ba 1 rfl; have a2 := blk_cell ba 2 rfl; have a3 := blk_cell ba 3 rfl; have a4 := blk_cell ba 4 rfl; have a5 := blk_cell ba 5 rfl; have a6 := blk_cell ba 6 rfl; have a7 := blk_cell ba 7 rfl; have a8 := blk_cell ba 8 rfl; have a9 := blk_cell ba 9 rfl; have a10 := blk_cell ba 10 rfl; have a11 := blk_cell ba 11 rfl; have a12 := blk_cell ba 12 rfl; have a13 := blk_cell ba 13 rfl; have a14 := blk_cell ba 14 rfl; have a15 := blk_cell ba 15 rfl; have Ba := Lib.hid ba; have FA := Lib.hid (FA.out.then_ (S2 := fun _ => False) (Fr.then_ (S2 := fun _ => False) (by repeat (first | (with_reducible exact Fr.refl _ _) | (with_reducible refine Fr.drew ?_) | (with_reducible refine Fr.drewN ?_ _) | (with_reducible refine Fr.alloc ?_ _) | (with_reducible refine Fr.set1 ?_ _) | (with_reducible refine Fr.setNew ?_ (by omega) _))) f2 (fun _ h => h.elim)) (fun _ h => h.elim)); clear f2 ba))
  go_wp2_with fail
  go_region_held3 (fun w' => w'.cell? ⟨w.heap.size, 0, none⟩ = some (Value.int .u64 a.id.hi) ∧ w'.cell? ⟨w.heap.size, 1, none⟩ = some (Value.int .u64 a.id.lo) ∧ w'.cell? ⟨w.heap.size, 2, none⟩ = some (Value.int .u64 a.debit.hi) ∧ w'.cell? ⟨w.heap.size, 3, none⟩ = some (Value.int .u64 a.debit.lo) ∧ w'.cell? ⟨w.heap.size, 4, none⟩ = some (Value.int .u64 a.credit.hi) ∧ w'.cell? ⟨w.heap.size, 5, none⟩ = some (Value.int .u64 a.credit.lo) ∧ w'.cell? ⟨w.heap.size, 6, none⟩ = some (Value.int .u64 a.amount.hi) ∧ w'.cell? ⟨w.heap.size, 7, none⟩ = some (Value.int .u64 a.amount.lo) ∧ w'.cell? ⟨w.heap.size, 8, none⟩ = some (Value.int .u64 a.pending.hi) ∧ w'.cell? ⟨w.heap.size, 9, none⟩ = some (Value.int .u64 a.pending.lo) ∧ w'.cell? ⟨w.heap.size, 10, none⟩ = some (Value.int .i64 a.timeout) ∧ w'.cell? ⟨w.heap.size, 11, none⟩ = some (Value.int .i64 a.ledger) ∧ w'.cell? ⟨w.heap.size, 12, none⟩ = some (Value.int .i64 a.code) ∧ w'.cell? ⟨w.heap.size, 13, none⟩ = some (Value.int .i64 a.flags) ∧ w'.cell? ⟨w.heap.size, 14, none⟩ = some (Value.int .i64 a.stamp) ∧ w'.cell? ⟨w.heap.size, 15, none⟩ = some (Value.int .i64 a.born))
    (first | exact ⟨a0, a1, a2, a3, a4, a5, a6, a7, a8, a9, a10, a11, a12, a13, a14, a15⟩ | go_keep)
    (first
      | (go_at_call 49; (first | (with_reducible refine (N_id.out _).mono ?_; rintro e w2 ⟨rfl, f2⟩) | (with_reducible refine (N_debit.out _).mono ?_; rintro e w2 ⟨rfl, f2⟩) | (with_reducible refine (N_credit.out _).mono ?_; rintro e w2 ⟨rfl, f2⟩) | (with_reducible refine (N_amount.out _).mono ?_; rintro e w2 ⟨rfl, f2⟩) | (with_reducible refine (N_pending.out _).mono ?_; rintro e w2 ⟨rfl, f2⟩)); have ba := f2.blk Ba.out (fun h => h); have a0 := blk_cell ba 0 rfl; have a1 := blk_cell ba 1 rfl; have a2 := blk_cell ba 2 rfl; have a3 := blk_cell ba 3 rfl; have a4 := blk_cell ba 4 rfl; have a5 := blk_cell ba 5 rfl; have a6 := blk_cell ba 6 rfl; have a7 := blk_cell ba 7 rfl; have a8 := blk_cell ba 8 rfl; have a9 := blk_cell ba 9 rfl; have a10 := blk_cell ba 10 rfl; have a11 := blk_cell ba 11 rfl; have a12 := blk_cell ba 12 rfl; have a13 := blk_cell ba 13 rfl; have a14 := blk_cell ba 14 rfl; have a15 := blk_cell ba 15 rfl; have Ba := Lib.hid ba; have FA := Lib.hid (FA.out.then_ (S2 := fun _ => False) (Fr.then_ (S2 := fun _ => False) (by repeat (first | (with_reducible exact Fr.refl _ _) | (with_reducible refine Fr.drew ?_) | (with_reducible refine Fr.drewN ?_ _) | (with_reducible refine Fr.alloc ?_ _) | (with_reducible refine Fr.set1 ?_ _) | (with_reducible refine Fr.setNew ?_ (by omega) _))) f2 (fun _ h => h.elim)) (fun _ h => h.elim)); clear f2 ba)
      | (go_at_call 46; (first | (with_reducible refine (N_timeout.out _).mono ?_; rintro e w2 ⟨rfl, f2⟩) | (with_reducible refine (N_ledger.out _).mono ?_; rintro e w2 ⟨rfl, f2⟩) | (with_reducible refine (N_code.out _).mono ?_; rintro e w2 ⟨rfl, f2⟩) | (with_reducible refine (N_flags.out _).mono ?_; rintro e w2 ⟨rfl, f2⟩) | (with_reducible refine (N_stamp.out _).mono ?_; rintro e w2 ⟨rfl, f2⟩) | (with_reducible refine (N_born.out _).mono ?_; rintro e w2 ⟨rfl, f2⟩)); have ba := f2.blk Ba.out (fun h => h); have a0 := blk_cell ba 0 rfl; have a1 := blk_cell ba 1 rfl; have a2 := blk_cell ba 2 rfl; have a3 := blk_cell ba 3 rfl; have a4 := blk_cell ba 4 rfl; have a5 := blk_cell ba 5 rfl; have a6 := blk_cell ba 6 rfl; have a7 := blk_cell ba 7 rfl; have a8 := blk_cell ba 8 rfl; have a9 := blk_cell ba 9 rfl; have a10 := blk_cell ba 10 rfl; have a11 := blk_cell ba 11 rfl; have a12 := blk_cell ba 12 rfl; have a13 := blk_cell ba 13 rfl; have a14 := blk_cell ba 14 rfl; have a15 := blk_cell ba 15 rfl; have Ba := Lib.hid ba; have FA := Lib.hid (FA.out.then_ (S2 := fun _ => False) (Fr.then_ (S2 := fun _ => False) (by repeat (first | (with_reducible exact Fr.refl _ _) | (with_reducible refine Fr.drew ?_) | (with_reducible refine Fr.drewN ?_ _) | (with_reducible refine Fr.alloc ?_ _) | (with_reducible refine Fr.set1 ?_ _) | (with_reducible refine Fr.setNew ?_ (by omega) _))) f2 (fun _ h => h.elim)) (fun _ h => h.elim)); clear f2 ba))
  go_wp2_with fail
  go_region_held3 (fun w' => w'.cell? ⟨w.heap.size, 0, none⟩ = some (Value.int .u64 a.id.hi) ∧ w'.cell? ⟨w.heap.size, 1, none⟩ = some (Value.int .u64 a.id.lo) ∧ w'.cell? ⟨w.heap.size, 2, none⟩ = some (Value.int .u64 a.debit.hi) ∧ w'.cell? ⟨w.heap.size, 3, none⟩ = some (Value.int .u64 a.debit.lo) ∧ w'.cell? ⟨w.heap.size, 4, none⟩ = some (Value.int .u64 a.credit.hi) ∧ w'.cell? ⟨w.heap.size, 5, none⟩ = some (Value.int .u64 a.credit.lo) ∧ w'.cell? ⟨w.heap.size, 6, none⟩ = some (Value.int .u64 a.amount.hi) ∧ w'.cell? ⟨w.heap.size, 7, none⟩ = some (Value.int .u64 a.amount.lo) ∧ w'.cell? ⟨w.heap.size, 8, none⟩ = some (Value.int .u64 a.pending.hi) ∧ w'.cell? ⟨w.heap.size, 9, none⟩ = some (Value.int .u64 a.pending.lo) ∧ w'.cell? ⟨w.heap.size, 10, none⟩ = some (Value.int .i64 a.timeout) ∧ w'.cell? ⟨w.heap.size, 11, none⟩ = some (Value.int .i64 a.ledger) ∧ w'.cell? ⟨w.heap.size, 12, none⟩ = some (Value.int .i64 a.code) ∧ w'.cell? ⟨w.heap.size, 13, none⟩ = some (Value.int .i64 a.flags) ∧ w'.cell? ⟨w.heap.size, 14, none⟩ = some (Value.int .i64 a.stamp) ∧ w'.cell? ⟨w.heap.size, 15, none⟩ = some (Value.int .i64 a.born))
    (first | exact ⟨a0, a1, a2, a3, a4, a5, a6, a7, a8, a9, a10, a11, a12, a13, a14, a15⟩ | go_keep)
    (first
      | (go_at_call 49; (first | (with_reducible refine (N_id.out _).mono ?_; rintro e w2 ⟨rfl, f2⟩) | (with_reducible refine (N_debit.out _).mono ?_; rintro e w2 ⟨rfl, f2⟩) | (with_reducible refine (N_credit.out _).mono ?_; rintro e w2 ⟨rfl, f2⟩) | (with_reducible refine (N_amount.out _).mono ?_; rintro e w2 ⟨rfl, f2⟩) | (with_reducible refine (N_pending.out _).mono ?_; rintro e w2 ⟨rfl, f2⟩)); have ba := f2.blk Ba.out (fun h => h); have a0 := blk_cell ba 0 rfl; have a1 := blk_cell ba 1 rfl; have a2 := blk_cell ba 2 rfl; have a3 := blk_cell ba 3 rfl; have a4 := blk_cell ba 4 rfl; have a5 := blk_cell ba 5 rfl; have a6 := blk_cell ba 6 rfl; have a7 := blk_cell ba 7 rfl; have a8 := blk_cell ba 8 rfl; have a9 := blk_cell ba 9 rfl; have a10 := blk_cell ba 10 rfl; have a11 := blk_cell ba 11 rfl; have a12 := blk_cell ba 12 rfl; have a13 := blk_cell ba 13 rfl; have a14 := blk_cell ba 14 rfl; have a15 := blk_cell ba 15 rfl; have Ba := Lib.hid ba; have FA := Lib.hid (FA.out.then_ (S2 := fun _ => False) (Fr.then_ (S2 := fun _ => False) (by repeat (first | (with_reducible exact Fr.refl _ _) | (with_reducible refine Fr.drew ?_) | (with_reducible refine Fr.drewN ?_ _) | (with_reducible refine Fr.alloc ?_ _) | (with_reducible refine Fr.set1 ?_ _) | (with_reducible refine Fr.setNew ?_ (by omega) _))) f2 (fun _ h => h.elim)) (fun _ h => h.elim)); clear f2 ba)
      | (go_at_call 46; (first | (with_reducible refine (N_timeout.out _).mono ?_; rintro e w2 ⟨rfl, f2⟩) | (with_reducible refine (N_ledger.out _).mono ?_; rintro e w2 ⟨rfl, f2⟩) | (with_reducible refine (N_code.out _).mono ?_; rintro e w2 ⟨rfl, f2⟩) | (with_reducible refine (N_flags.out _).mono ?_; rintro e w2 ⟨rfl, f2⟩) | (with_reducible refine (N_stamp.out _).mono ?_; rintro e w2 ⟨rfl, f2⟩) | (with_reducible refine (N_born.out _).mono ?_; rintro e w2 ⟨rfl, f2⟩)); have ba := f2.blk Ba.out (fun h => h); have a0 := blk_cell ba 0 rfl; have a1 := blk_cell ba 1 rfl; have a2 := blk_cell ba 2 rfl; have a3 := blk_cell ba 3 rfl; have a4 := blk_cell ba 4 rfl; have a5 := blk_cell ba 5 rfl; have a6 := blk_cell ba 6 rfl; have a7 := blk_cell ba 7 rfl; have a8 := blk_cell ba 8 rfl; have a9 := blk_cell ba 9 rfl; have a10 := blk_cell ba 10 rfl; have a11 := blk_cell ba 11 rfl; have a12 := blk_cell ba 12 rfl; have a13 := blk_cell ba 13 rfl; have a14 := blk_cell ba 14 rfl; have a15 := blk_cell ba 15 rfl; have Ba := Lib.hid ba; have FA := Lib.hid (FA.out.then_ (S2 := fun _ => False) (Fr.then_ (S2 := fun _ => False) (by repeat (first | (with_reducible exact Fr.refl _ _) | (with_reducible refine Fr.drew ?_) | (with_reducible refine Fr.drewN ?_ _) | (with_reducible refine Fr.alloc ?_ _) | (with_reducible refine Fr.set1 ?_ _) | (with_reducible refine Fr.setNew ?_ (by omega) _))) f2 (fun _ h => h.elim)) (fun _ h => h.elim)); clear f2 ba))
  go_wp2_with fail
  go_ret
  rw [hb.out]
  exact ⟨rfl, FA.out⟩
end Go.Proofs.Ytfmcimngogibkaa
