/- Good, Get and Put of bondstore/acct; the document's Good and Bytes. -/
import Derived.Test.YtfmcimngogibkaaGets
import Derived.Test.YtfmcimngogibkaaAcct
import Derived.Deep.RegionHeld3
import Derived.Lib.ItoaWalk
import Derived.LoopN
import Derived.Deep.DeepMust
set_option linter.unusedSimpArgs false
set_option linter.unusedVariables false
namespace Go.Proofs.Ytfmcimngogibkaa
open Go.RowKit

def Acc.none : Acc := ⟨⟨0, 0⟩, ⟨0, 0⟩, ⟨0, 0⟩, ⟨0, 0⟩, ⟨0, 0⟩, 0, 0, 0, 0⟩
/-- Has it bytes? -/
def Acc.good (a : Acc) : Bool := decide (0 ≤ a.ledger ∧ a.ledger ≤ 4294967295 ∧ 0 ≤ a.code ∧ a.code ≤ 65535 ∧ 0 ≤ a.flags ∧ a.flags ≤ 65535)
/-- Its bytes. -/
def Acc.bytes (a : Acc) : List Int := wideBytes a.id.hi a.id.lo ++ wideBytes a.dp.hi a.dp.lo ++ wideBytes a.dq.hi a.dq.lo ++ wideBytes a.cp.hi a.cp.lo ++ wideBytes a.cq.hi a.cq.lo ++ bytesOf a.ledger 4 ++ bytesOf a.code 2 ++ bytesOf a.flags 2 ++ bytesOf a.stamp 8
theorem Acc.bytes_len (a : Acc) : a.bytes.length = 96 := by simp only [Acc.bytes, List.length_append, wideBytes_len, blen]
theorem Acc.bytes_ok (a : Acc) : Bytes a.bytes := by
  unfold Acc.bytes
  intro x hx
  simp only [List.mem_append] at hx
  rcases hx with (((((((h | h) | h) | h) | h) | h) | h) | h) | h
  all_goals first | exact wideBytes_bd _ _ _ h | exact bytesOf_bytes _ _ _ h
set_option maxHeartbeats 3200000 in
theorem good_any (w : World) (a : Acc) :
    Calls Try.prog 34 #[a.val] w fun e w' => e = .returned (.bool a.good) ∧ Fr (fun _ => False) w w' := by
  have hcg : ∀ v, a.good = v → Ending.returned (Value.bool v) = Ending.returned (.bool a.good) := fun v h => by rw [h]
  have Hcg := Lib.hid hcg
  clear hcg
  unfold Acc.val
  rcases (show (¬ 0 ≤ a.ledger) ∨ (0 ≤ a.ledger ∧ ¬ a.ledger ≤ 4294967295) ∨ (0 ≤ a.ledger ∧ a.ledger ≤ 4294967295 ∧ ¬ 0 ≤ a.code) ∨ (0 ≤ a.ledger ∧ a.ledger ≤ 4294967295 ∧ 0 ≤ a.code ∧ ¬ a.code ≤ 65535) ∨ (0 ≤ a.ledger ∧ a.ledger ≤ 4294967295 ∧ 0 ≤ a.code ∧ a.code ≤ 65535 ∧ ¬ 0 ≤ a.flags) ∨ (0 ≤ a.ledger ∧ a.ledger ≤ 4294967295 ∧ 0 ≤ a.code ∧ a.code ≤ 65535 ∧ 0 ≤ a.flags ∧ ¬ a.flags ≤ 65535) ∨ (0 ≤ a.ledger ∧ a.ledger ≤ 4294967295 ∧ 0 ≤ a.code ∧ a.code ≤ 65535 ∧ 0 ≤ a.flags ∧ a.flags ≤ 65535) from by omega) with h1 | ⟨h1, h2⟩ | ⟨h1, h2, h3⟩ | ⟨h1, h2, h3, h4⟩ | ⟨h1, h2, h3, h4, h5⟩ | ⟨h1, h2, h3, h4, h5, h6⟩ | ⟨h1, h2, h3, h4, h5, h6⟩
  · have hv := Lib.hid (show a.good = false from by simp only [Acc.good, decide_eq_false_iff_not]; omega)
    go_enter Try.func34, Try.ntmps34
    go_wp2_with fail
    go_ret
    exact ⟨Hcg.out _ hv.out, by repeat (first | (with_reducible exact Fr.refl _ _) | (with_reducible refine Fr.drew ?_) | (with_reducible refine Fr.drewN ?_ _) | (with_reducible refine Fr.alloc ?_ _) | (with_reducible refine Fr.set1 ?_ _) | (with_reducible refine Fr.setNew ?_ (by omega) _))⟩
  · have hv := Lib.hid (show a.good = false from by simp only [Acc.good, decide_eq_false_iff_not]; omega)
    go_enter Try.func34, Try.ntmps34
    go_wp2_with fail
    go_ret
    exact ⟨Hcg.out _ hv.out, by repeat (first | (with_reducible exact Fr.refl _ _) | (with_reducible refine Fr.drew ?_) | (with_reducible refine Fr.drewN ?_ _) | (with_reducible refine Fr.alloc ?_ _) | (with_reducible refine Fr.set1 ?_ _) | (with_reducible refine Fr.setNew ?_ (by omega) _))⟩
  · have hv := Lib.hid (show a.good = false from by simp only [Acc.good, decide_eq_false_iff_not]; omega)
    go_enter Try.func34, Try.ntmps34
    go_wp2_with fail
    go_ret
    exact ⟨Hcg.out _ hv.out, by repeat (first | (with_reducible exact Fr.refl _ _) | (with_reducible refine Fr.drew ?_) | (with_reducible refine Fr.drewN ?_ _) | (with_reducible refine Fr.alloc ?_ _) | (with_reducible refine Fr.set1 ?_ _) | (with_reducible refine Fr.setNew ?_ (by omega) _))⟩
  · have hv := Lib.hid (show a.good = false from by simp only [Acc.good, decide_eq_false_iff_not]; omega)
    go_enter Try.func34, Try.ntmps34
    go_wp2_with fail
    go_ret
    exact ⟨Hcg.out _ hv.out, by repeat (first | (with_reducible exact Fr.refl _ _) | (with_reducible refine Fr.drew ?_) | (with_reducible refine Fr.drewN ?_ _) | (with_reducible refine Fr.alloc ?_ _) | (with_reducible refine Fr.set1 ?_ _) | (with_reducible refine Fr.setNew ?_ (by omega) _))⟩
  · have hv := Lib.hid (show a.good = false from by simp only [Acc.good, decide_eq_false_iff_not]; omega)
    go_enter Try.func34, Try.ntmps34
    go_wp2_with fail
    go_ret
    exact ⟨Hcg.out _ hv.out, by repeat (first | (with_reducible exact Fr.refl _ _) | (with_reducible refine Fr.drew ?_) | (with_reducible refine Fr.drewN ?_ _) | (with_reducible refine Fr.alloc ?_ _) | (with_reducible refine Fr.set1 ?_ _) | (with_reducible refine Fr.setNew ?_ (by omega) _))⟩
  · have hv := Lib.hid (show a.good = false from by simp only [Acc.good, decide_eq_false_iff_not]; omega)
    go_enter Try.func34, Try.ntmps34
    go_wp2_with fail
    go_ret
    exact ⟨Hcg.out _ hv.out, by repeat (first | (with_reducible exact Fr.refl _ _) | (with_reducible refine Fr.drew ?_) | (with_reducible refine Fr.drewN ?_ _) | (with_reducible refine Fr.alloc ?_ _) | (with_reducible refine Fr.set1 ?_ _) | (with_reducible refine Fr.setNew ?_ (by omega) _))⟩
  · have hv := Lib.hid (show a.good = true from by simp only [Acc.good, decide_eq_true_eq]; omega)
    go_enter Try.func34, Try.ntmps34
    go_wp2_with fail
    go_ret
    exact ⟨Hcg.out _ hv.out, by repeat (first | (with_reducible exact Fr.refl _ _) | (with_reducible refine Fr.drew ?_) | (with_reducible refine Fr.drewN ?_ _) | (with_reducible refine Fr.alloc ?_ _) | (with_reducible refine Fr.set1 ?_ _) | (with_reducible refine Fr.setNew ?_ (by omega) _))⟩
set_option maxHeartbeats 3200000 in
theorem refGood_any (w : World) (a : Acc) :
    Calls Try.prog 24 #[a.val] w fun e w' => e = .returned (.bool a.good) ∧ Fr (fun _ => False) w w' := by
  have hcg : ∀ v, a.good = v → Ending.returned (Value.bool v) = Ending.returned (.bool a.good) := fun v h => by rw [h]
  have Hcg := Lib.hid hcg
  clear hcg
  unfold Acc.val
  rcases (show (¬ 0 ≤ a.ledger) ∨ (0 ≤ a.ledger ∧ ¬ a.ledger < 4294967296) ∨ (0 ≤ a.ledger ∧ a.ledger < 4294967296 ∧ ¬ 0 ≤ a.code) ∨ (0 ≤ a.ledger ∧ a.ledger < 4294967296 ∧ 0 ≤ a.code ∧ ¬ a.code < 65536) ∨ (0 ≤ a.ledger ∧ a.ledger < 4294967296 ∧ 0 ≤ a.code ∧ a.code < 65536 ∧ ¬ 0 ≤ a.flags) ∨ (0 ≤ a.ledger ∧ a.ledger < 4294967296 ∧ 0 ≤ a.code ∧ a.code < 65536 ∧ 0 ≤ a.flags ∧ ¬ a.flags < 65536) ∨ (0 ≤ a.ledger ∧ a.ledger < 4294967296 ∧ 0 ≤ a.code ∧ a.code < 65536 ∧ 0 ≤ a.flags ∧ a.flags < 65536) from by omega) with h1 | ⟨h1, h2⟩ | ⟨h1, h2, h3⟩ | ⟨h1, h2, h3, h4⟩ | ⟨h1, h2, h3, h4, h5⟩ | ⟨h1, h2, h3, h4, h5, h6⟩ | ⟨h1, h2, h3, h4, h5, h6⟩
  · have hv := Lib.hid (show a.good = false from by simp only [Acc.good, decide_eq_false_iff_not]; omega)
    go_enter Try.func24, Try.ntmps24
    go_wp2_with fail
    go_ret
    exact ⟨Hcg.out _ hv.out, by repeat (first | (with_reducible exact Fr.refl _ _) | (with_reducible refine Fr.drew ?_) | (with_reducible refine Fr.drewN ?_ _) | (with_reducible refine Fr.alloc ?_ _) | (with_reducible refine Fr.set1 ?_ _) | (with_reducible refine Fr.setNew ?_ (by omega) _))⟩
  · have hv := Lib.hid (show a.good = false from by simp only [Acc.good, decide_eq_false_iff_not]; omega)
    go_enter Try.func24, Try.ntmps24
    go_wp2_with fail
    go_ret
    exact ⟨Hcg.out _ hv.out, by repeat (first | (with_reducible exact Fr.refl _ _) | (with_reducible refine Fr.drew ?_) | (with_reducible refine Fr.drewN ?_ _) | (with_reducible refine Fr.alloc ?_ _) | (with_reducible refine Fr.set1 ?_ _) | (with_reducible refine Fr.setNew ?_ (by omega) _))⟩
  · have hv := Lib.hid (show a.good = false from by simp only [Acc.good, decide_eq_false_iff_not]; omega)
    go_enter Try.func24, Try.ntmps24
    go_wp2_with fail
    go_ret
    exact ⟨Hcg.out _ hv.out, by repeat (first | (with_reducible exact Fr.refl _ _) | (with_reducible refine Fr.drew ?_) | (with_reducible refine Fr.drewN ?_ _) | (with_reducible refine Fr.alloc ?_ _) | (with_reducible refine Fr.set1 ?_ _) | (with_reducible refine Fr.setNew ?_ (by omega) _))⟩
  · have hv := Lib.hid (show a.good = false from by simp only [Acc.good, decide_eq_false_iff_not]; omega)
    go_enter Try.func24, Try.ntmps24
    go_wp2_with fail
    go_ret
    exact ⟨Hcg.out _ hv.out, by repeat (first | (with_reducible exact Fr.refl _ _) | (with_reducible refine Fr.drew ?_) | (with_reducible refine Fr.drewN ?_ _) | (with_reducible refine Fr.alloc ?_ _) | (with_reducible refine Fr.set1 ?_ _) | (with_reducible refine Fr.setNew ?_ (by omega) _))⟩
  · have hv := Lib.hid (show a.good = false from by simp only [Acc.good, decide_eq_false_iff_not]; omega)
    go_enter Try.func24, Try.ntmps24
    go_wp2_with fail
    go_ret
    exact ⟨Hcg.out _ hv.out, by repeat (first | (with_reducible exact Fr.refl _ _) | (with_reducible refine Fr.drew ?_) | (with_reducible refine Fr.drewN ?_ _) | (with_reducible refine Fr.alloc ?_ _) | (with_reducible refine Fr.set1 ?_ _) | (with_reducible refine Fr.setNew ?_ (by omega) _))⟩
  · have hv := Lib.hid (show a.good = false from by simp only [Acc.good, decide_eq_false_iff_not]; omega)
    go_enter Try.func24, Try.ntmps24
    go_wp2_with fail
    go_ret
    exact ⟨Hcg.out _ hv.out, by repeat (first | (with_reducible exact Fr.refl _ _) | (with_reducible refine Fr.drew ?_) | (with_reducible refine Fr.drewN ?_ _) | (with_reducible refine Fr.alloc ?_ _) | (with_reducible refine Fr.set1 ?_ _) | (with_reducible refine Fr.setNew ?_ (by omega) _))⟩
  · have hv := Lib.hid (show a.good = true from by simp only [Acc.good, decide_eq_true_eq]; omega)
    go_enter Try.func24, Try.ntmps24
    go_wp2_with fail
    go_ret
    exact ⟨Hcg.out _ hv.out, by repeat (first | (with_reducible exact Fr.refl _ _) | (with_reducible refine Fr.drew ?_) | (with_reducible refine Fr.drewN ?_ _) | (with_reducible refine Fr.alloc ?_ _) | (with_reducible refine Fr.set1 ?_ _) | (with_reducible refine Fr.setNew ?_ (by omega) _))⟩
/-- What is left behind getting one; what is got. -/
def Acc.left (s : List Int × Bool) : List Int × Bool := rdAll s [16, 16, 16, 16, 16, 4, 2, 2, 8]
def Acc.got (s : List Int × Bool) : Acc :=
  let s1 := rdS s 16
  let s2 := rdS s1 16
  let s3 := rdS s2 16
  let s4 := rdS s3 16
  let s5 := rdS s4 16
  let s6 := rdS s5 4
  let s7 := rdS s6 2
  let s8 := rdS s7 2
  ⟨⟨numHi (rdV s 16), numLo (rdV s 16)⟩, ⟨numHi (rdV s1 16), numLo (rdV s1 16)⟩, ⟨numHi (rdV s2 16), numLo (rdV s2 16)⟩, ⟨numHi (rdV s3 16), numLo (rdV s3 16)⟩, ⟨numHi (rdV s4 16), numLo (rdV s4 16)⟩, wrap64 (le (rdV s5 4)), wrap64 (le (rdV s6 2)), wrap64 (le (rdV s7 2)), wrap64 (le (rdV s8 8))⟩
set_option maxHeartbeats 6400000 in
theorem get_any (w : World) (g : Nat) (s : List Int × Bool) (h : IsR w g s.1 s.2) (hB : Bytes s.1) :
    Calls Try.prog 39 #[.pointer (some ⟨g, 0, none⟩)] w fun e w' => e = .returned (if (Acc.left s).2 = true then Acc.none.val else (Acc.got s).val) ∧ IsR w' g (Acc.left s).1 (Acc.left s).2 ∧ Fr (fun k => k = g) w w' := by
  have Rb0 := Lib.hid (heap_alloc_new w (.cells #[.int .u64 0, .int .u64 0, .int .u64 0, .int .u64 0, .int .u64 0, .int .u64 0, .int .u64 0, .int .u64 0, .int .u64 0, .int .u64 0, .int .i64 0, .int .i64 0, .int .i64 0, .int .i64 0] 58))
  have Hgn := Lib.hid (show ¬ w.heap.size = g from by have := blk_lt h; omega)
  have K0 := Lib.hid h
  have B0 := Lib.hid hB
  have hg := blk_lt h
  have F0 := Lib.hid (Fr.refl (fun k => k = g) w)
  clear h hB
  obtain ⟨s1, e1⟩ : ∃ x, rdS s 16 = x := ⟨_, rfl⟩
  have B1 := Lib.hid (e1 ▸ rdS_bytes 16 B0.out)
  have E1 := Lib.hid e1
  clear e1
  obtain ⟨s2, e2⟩ : ∃ x, rdS s1 16 = x := ⟨_, rfl⟩
  have B2 := Lib.hid (e2 ▸ rdS_bytes 16 B1.out)
  have E2 := Lib.hid e2
  clear e2
  obtain ⟨s3, e3⟩ : ∃ x, rdS s2 16 = x := ⟨_, rfl⟩
  have B3 := Lib.hid (e3 ▸ rdS_bytes 16 B2.out)
  have E3 := Lib.hid e3
  clear e3
  obtain ⟨s4, e4⟩ : ∃ x, rdS s3 16 = x := ⟨_, rfl⟩
  have B4 := Lib.hid (e4 ▸ rdS_bytes 16 B3.out)
  have E4 := Lib.hid e4
  clear e4
  obtain ⟨s5, e5⟩ : ∃ x, rdS s4 16 = x := ⟨_, rfl⟩
  have B5 := Lib.hid (e5 ▸ rdS_bytes 16 B4.out)
  have E5 := Lib.hid e5
  clear e5
  obtain ⟨s6, e6⟩ : ∃ x, rdS s5 4 = x := ⟨_, rfl⟩
  have B6 := Lib.hid (e6 ▸ rdS_bytes 4 B5.out)
  have E6 := Lib.hid e6
  clear e6
  obtain ⟨s7, e7⟩ : ∃ x, rdS s6 2 = x := ⟨_, rfl⟩
  have B7 := Lib.hid (e7 ▸ rdS_bytes 2 B6.out)
  have E7 := Lib.hid e7
  clear e7
  obtain ⟨s8, e8⟩ : ∃ x, rdS s7 2 = x := ⟨_, rfl⟩
  have B8 := Lib.hid (e8 ▸ rdS_bytes 2 B7.out)
  have E8 := Lib.hid e8
  clear e8
  obtain ⟨s9, e9⟩ : ∃ x, rdS s8 8 = x := ⟨_, rfl⟩
  have B9 := Lib.hid (e9 ▸ rdS_bytes 8 B8.out)
  have E9 := Lib.hid e9
  clear e9
  have HL := Lib.hid (show Acc.left s = s9 from by unfold Acc.left; simp only [rdAll, E1.out, E2.out, E3.out, E4.out, E5.out, E6.out, E7.out, E8.out, E9.out])
  have HG := Lib.hid (show Acc.got s = ⟨⟨numHi (rdV s 16), numLo (rdV s 16)⟩, ⟨numHi (rdV s1 16), numLo (rdV s1 16)⟩, ⟨numHi (rdV s2 16), numLo (rdV s2 16)⟩, ⟨numHi (rdV s3 16), numLo (rdV s3 16)⟩, ⟨numHi (rdV s4 16), numLo (rdV s4 16)⟩, wrap64 (le (rdV s5 4)), wrap64 (le (rdV s6 2)), wrap64 (le (rdV s7 2)), wrap64 (le (rdV s8 8))⟩ from by unfold Acc.got; simp only [E1.out, E2.out, E3.out, E4.out, E5.out, E6.out, E7.out, E8.out])
  cases ht : s9.2
  all_goals
    rw [HL.out, ht]
    first | rw [if_pos rfl] | rw [if_neg (by decide)]
    go_enter Try.func39, Try.ntmps39
    go_wp2_with fail
    refine (rNum_tot _ g s (by first | exact K0.out | (unfold IsR; (repeat (first | (with_reducible refine blk_drew ?_) | (with_reducible refine blk_drewN ?_ _) | (with_reducible refine blk_alloc ?_ _) | (with_reducible refine blk_far2 ?_ (by omega) _))); exact K0.out)) B0.out).mono ?_
    rintro e w1 ⟨rfl, k1, f1⟩
    rw [E1.out] at k1
    have K1 := Lib.hid k1
    have F1 := Lib.hid (Fr.then_ (S2 := fun k => k = g) (show Fr (fun k => k = g) w _ from by (repeat (first | (with_reducible exact Fr.refl _ _) | (with_reducible refine Fr.drew ?_) | (with_reducible refine Fr.drewN ?_ _) | (with_reducible refine Fr.alloc ?_ _) | (with_reducible refine Fr.set1 ?_ _) | (with_reducible refine Fr.setNew ?_ (by omega) _))) <;> exact F0.out) f1 (fun _ h => .inl h))
    have Rb1 := Lib.hid (f1.blk Rb0.out Hgn.out)
    clear k1 f1
    go_wp2_with fail
    refine (rNum_tot _ g s1 (by first | exact K1.out | (unfold IsR; (repeat (first | (with_reducible refine blk_drew ?_) | (with_reducible refine blk_drewN ?_ _) | (with_reducible refine blk_alloc ?_ _) | (with_reducible refine blk_far2 ?_ (by omega) _))); exact K1.out)) B1.out).mono ?_
    rintro e w2 ⟨rfl, k2, f2⟩
    rw [E2.out] at k2
    have K2 := Lib.hid k2
    have F2 := Lib.hid (Fr.then_ (S2 := fun k => k = g) (show Fr (fun k => k = g) w _ from by (repeat (first | (with_reducible exact Fr.refl _ _) | (with_reducible refine Fr.drew ?_) | (with_reducible refine Fr.drewN ?_ _) | (with_reducible refine Fr.alloc ?_ _) | (with_reducible refine Fr.set1 ?_ _) | (with_reducible refine Fr.setNew ?_ (by omega) _))) <;> exact F1.out) f2 (fun _ h => .inl h))
    have Rb2 := Lib.hid (f2.blk Rb1.out Hgn.out)
    clear k2 f2
    go_wp2_with fail
    refine (rNum_tot _ g s2 (by first | exact K2.out | (unfold IsR; (repeat (first | (with_reducible refine blk_drew ?_) | (with_reducible refine blk_drewN ?_ _) | (with_reducible refine blk_alloc ?_ _) | (with_reducible refine blk_far2 ?_ (by omega) _))); exact K2.out)) B2.out).mono ?_
    rintro e w3 ⟨rfl, k3, f3⟩
    rw [E3.out] at k3
    have K3 := Lib.hid k3
    have F3 := Lib.hid (Fr.then_ (S2 := fun k => k = g) (show Fr (fun k => k = g) w _ from by (repeat (first | (with_reducible exact Fr.refl _ _) | (with_reducible refine Fr.drew ?_) | (with_reducible refine Fr.drewN ?_ _) | (with_reducible refine Fr.alloc ?_ _) | (with_reducible refine Fr.set1 ?_ _) | (with_reducible refine Fr.setNew ?_ (by omega) _))) <;> exact F2.out) f3 (fun _ h => .inl h))
    have Rb3 := Lib.hid (f3.blk Rb2.out Hgn.out)
    clear k3 f3
    go_wp2_with fail
    refine (rNum_tot _ g s3 (by first | exact K3.out | (unfold IsR; (repeat (first | (with_reducible refine blk_drew ?_) | (with_reducible refine blk_drewN ?_ _) | (with_reducible refine blk_alloc ?_ _) | (with_reducible refine blk_far2 ?_ (by omega) _))); exact K3.out)) B3.out).mono ?_
    rintro e w4 ⟨rfl, k4, f4⟩
    rw [E4.out] at k4
    have K4 := Lib.hid k4
    have F4 := Lib.hid (Fr.then_ (S2 := fun k => k = g) (show Fr (fun k => k = g) w _ from by (repeat (first | (with_reducible exact Fr.refl _ _) | (with_reducible refine Fr.drew ?_) | (with_reducible refine Fr.drewN ?_ _) | (with_reducible refine Fr.alloc ?_ _) | (with_reducible refine Fr.set1 ?_ _) | (with_reducible refine Fr.setNew ?_ (by omega) _))) <;> exact F3.out) f4 (fun _ h => .inl h))
    have Rb4 := Lib.hid (f4.blk Rb3.out Hgn.out)
    clear k4 f4
    go_wp2_with fail
    refine (rNum_tot _ g s4 (by first | exact K4.out | (unfold IsR; (repeat (first | (with_reducible refine blk_drew ?_) | (with_reducible refine blk_drewN ?_ _) | (with_reducible refine blk_alloc ?_ _) | (with_reducible refine blk_far2 ?_ (by omega) _))); exact K4.out)) B4.out).mono ?_
    rintro e w5 ⟨rfl, k5, f5⟩
    rw [E5.out] at k5
    have K5 := Lib.hid k5
    have F5 := Lib.hid (Fr.then_ (S2 := fun k => k = g) (show Fr (fun k => k = g) w _ from by (repeat (first | (with_reducible exact Fr.refl _ _) | (with_reducible refine Fr.drew ?_) | (with_reducible refine Fr.drewN ?_ _) | (with_reducible refine Fr.alloc ?_ _) | (with_reducible refine Fr.set1 ?_ _) | (with_reducible refine Fr.setNew ?_ (by omega) _))) <;> exact F4.out) f5 (fun _ h => .inl h))
    have Rb5 := Lib.hid (f5.blk Rb4.out Hgn.out)
    clear k5 f5
    go_wp2_with fail
    refine (rInt_tot _ g s5 4 (by first | exact K5.out | (unfold IsR; (repeat (first | (with_reducible refine blk_drew ?_) | (with_reducible refine blk_drewN ?_ _) | (with_reducible refine blk_alloc ?_ _) | (with_reducible refine blk_far2 ?_ (by omega) _))); exact K5.out)) B5.out (by omega)).mono ?_
    rintro e w6 ⟨rfl, k6, f6⟩
    rw [E6.out] at k6
    have K6 := Lib.hid k6
    have F6 := Lib.hid (Fr.then_ (S2 := fun k => k = g) (show Fr (fun k => k = g) w _ from by (repeat (first | (with_reducible exact Fr.refl _ _) | (with_reducible refine Fr.drew ?_) | (with_reducible refine Fr.drewN ?_ _) | (with_reducible refine Fr.alloc ?_ _) | (with_reducible refine Fr.set1 ?_ _) | (with_reducible refine Fr.setNew ?_ (by omega) _))) <;> exact F5.out) f6 (fun _ h => .inl h))
    have Rb6 := Lib.hid (f6.blk Rb5.out Hgn.out)
    clear k6 f6
    go_wp2_with fail
    refine (rInt_tot _ g s6 2 (by first | exact K6.out | (unfold IsR; (repeat (first | (with_reducible refine blk_drew ?_) | (with_reducible refine blk_drewN ?_ _) | (with_reducible refine blk_alloc ?_ _) | (with_reducible refine blk_far2 ?_ (by omega) _))); exact K6.out)) B6.out (by omega)).mono ?_
    rintro e w7 ⟨rfl, k7, f7⟩
    rw [E7.out] at k7
    have K7 := Lib.hid k7
    have F7 := Lib.hid (Fr.then_ (S2 := fun k => k = g) (show Fr (fun k => k = g) w _ from by (repeat (first | (with_reducible exact Fr.refl _ _) | (with_reducible refine Fr.drew ?_) | (with_reducible refine Fr.drewN ?_ _) | (with_reducible refine Fr.alloc ?_ _) | (with_reducible refine Fr.set1 ?_ _) | (with_reducible refine Fr.setNew ?_ (by omega) _))) <;> exact F6.out) f7 (fun _ h => .inl h))
    have Rb7 := Lib.hid (f7.blk Rb6.out Hgn.out)
    clear k7 f7
    go_wp2_with fail
    refine (rInt_tot _ g s7 2 (by first | exact K7.out | (unfold IsR; (repeat (first | (with_reducible refine blk_drew ?_) | (with_reducible refine blk_drewN ?_ _) | (with_reducible refine blk_alloc ?_ _) | (with_reducible refine blk_far2 ?_ (by omega) _))); exact K7.out)) B7.out (by omega)).mono ?_
    rintro e w8 ⟨rfl, k8, f8⟩
    rw [E8.out] at k8
    have K8 := Lib.hid k8
    have F8 := Lib.hid (Fr.then_ (S2 := fun k => k = g) (show Fr (fun k => k = g) w _ from by (repeat (first | (with_reducible exact Fr.refl _ _) | (with_reducible refine Fr.drew ?_) | (with_reducible refine Fr.drewN ?_ _) | (with_reducible refine Fr.alloc ?_ _) | (with_reducible refine Fr.set1 ?_ _) | (with_reducible refine Fr.setNew ?_ (by omega) _))) <;> exact F7.out) f8 (fun _ h => .inl h))
    have Rb8 := Lib.hid (f8.blk Rb7.out Hgn.out)
    clear k8 f8
    go_wp2_with fail
    refine (rInt_tot _ g s8 8 (by first | exact K8.out | (unfold IsR; (repeat (first | (with_reducible refine blk_drew ?_) | (with_reducible refine blk_drewN ?_ _) | (with_reducible refine blk_alloc ?_ _) | (with_reducible refine blk_far2 ?_ (by omega) _))); exact K8.out)) B8.out (by omega)).mono ?_
    rintro e w9 ⟨rfl, k9, f9⟩
    rw [E9.out] at k9
    have K9 := Lib.hid k9
    have F9 := Lib.hid (Fr.then_ (S2 := fun k => k = g) (show Fr (fun k => k = g) w _ from by (repeat (first | (with_reducible exact Fr.refl _ _) | (with_reducible refine Fr.drew ?_) | (with_reducible refine Fr.drewN ?_ _) | (with_reducible refine Fr.alloc ?_ _) | (with_reducible refine Fr.set1 ?_ _) | (with_reducible refine Fr.setNew ?_ (by omega) _))) <;> exact F8.out) f9 (fun _ h => .inl h))
    have Rb9 := Lib.hid (f9.blk Rb8.out Hgn.out)
    clear k9 f9
    go_wp2_with fail
    refine (rTorn_any _ g s9.1 s9.2 (by first | exact K9.out | (unfold IsR; (repeat (first | (with_reducible refine blk_drew ?_) | (with_reducible refine blk_drewN ?_ _) | (with_reducible refine blk_alloc ?_ _) | (with_reducible refine blk_far2 ?_ (by omega) _))); exact K9.out))).mono ?_
    rintro e wT ⟨rfl, rfl⟩
    rw [ht]
    have rb := blk_alloc Rb9.out (.cells #[.int .u64 (numHi (rdV s 16)), .int .u64 (numLo (rdV s 16)), .int .u64 (numHi (rdV s1 16)), .int .u64 (numLo (rdV s1 16)), .int .u64 (numHi (rdV s2 16)), .int .u64 (numLo (rdV s2 16)), .int .u64 (numHi (rdV s3 16)), .int .u64 (numLo (rdV s3 16)), .int .u64 (numHi (rdV s4 16)), .int .u64 (numLo (rdV s4 16)), .int .i64 (wrap64 (le (rdV s5 4))), .int .i64 (wrap64 (le (rdV s6 2))), .int .i64 (wrap64 (le (rdV s7 2))), .int .i64 (wrap64 (le (rdV s8 8)))] 58)
    have r0 := blk_cell rb 0 rfl; have q0 := blk_free rb 0; have r1 := blk_cell rb 1 rfl; have q1 := blk_free rb 1; have r2 := blk_cell rb 2 rfl; have q2 := blk_free rb 2; have r3 := blk_cell rb 3 rfl; have q3 := blk_free rb 3; have r4 := blk_cell rb 4 rfl; have q4 := blk_free rb 4; have r5 := blk_cell rb 5 rfl; have q5 := blk_free rb 5; have r6 := blk_cell rb 6 rfl; have q6 := blk_free rb 6; have r7 := blk_cell rb 7 rfl; have q7 := blk_free rb 7; have r8 := blk_cell rb 8 rfl; have q8 := blk_free rb 8; have r9 := blk_cell rb 9 rfl; have q9 := blk_free rb 9; have r10 := blk_cell rb 10 rfl; have q10 := blk_free rb 10; have r11 := blk_cell rb 11 rfl; have q11 := blk_free rb 11; have r12 := blk_cell rb 12 rfl; have q12 := blk_free rb 12; have r13 := blk_cell rb 13 rfl; have q13 := blk_free rb 13
    have hgr := Lib.hid (blk_lt rb)
    clear rb
    go_wp2_with fail
    have hgr2 := hgr.out
    first
      | refine bodyPost_ret (v := .agg #[.int .u64 (numHi (rdV s 16)), .int .u64 (numLo (rdV s 16)), .int .u64 (numHi (rdV s1 16)), .int .u64 (numLo (rdV s1 16)), .int .u64 (numHi (rdV s2 16)), .int .u64 (numLo (rdV s2 16)), .int .u64 (numHi (rdV s3 16)), .int .u64 (numLo (rdV s3 16)), .int .u64 (numHi (rdV s4 16)), .int .u64 (numLo (rdV s4 16)), .int .i64 (wrap64 (le (rdV s5 4))), .int .i64 (wrap64 (le (rdV s6 2))), .int .i64 (wrap64 (le (rdV s7 2))), .int .i64 (wrap64 (le (rdV s8 8)))]) (by simp [results, Try.results39, go_sem, r0, q0, r1, q1, r2, q2, r3, q3, r4, q4, r5, q5, r6, q6, r7, q7, r8, q8, r9, q9, r10, q10, r11, q11, r12, q12, r13, q13, hgr2]) rfl ⟨?_, ?_, ?_⟩
        · have e := HG.out; rw [e]; rfl
        · have e2 := K9.out; rw [ht] at e2; unfold IsR; (repeat (with_reducible refine blk_far2 ?_ (fun e => Hgn.out e.symm) _)); (repeat (first | (with_reducible refine blk_drew ?_) | (with_reducible refine blk_drewN ?_ _) | (with_reducible refine blk_alloc ?_ _) | (with_reducible refine blk_far2 ?_ (by omega) _))) <;> exact e2
        · (repeat (first | (with_reducible exact Fr.refl _ _) | (with_reducible refine Fr.drew ?_) | (with_reducible refine Fr.drewN ?_ _) | (with_reducible refine Fr.alloc ?_ _) | (with_reducible refine Fr.set1 ?_ _) | (with_reducible refine Fr.setNew ?_ (by omega) _))) <;> exact F9.out
      | refine bodyPost_ret (v := .agg #[.int .u64 0, .int .u64 0, .int .u64 0, .int .u64 0, .int .u64 0, .int .u64 0, .int .u64 0, .int .u64 0, .int .u64 0, .int .u64 0, .int .i64 0, .int .i64 0, .int .i64 0, .int .i64 0]) (by simp [results, Try.results39, go_sem, r0, q0, r1, q1, r2, q2, r3, q3, r4, q4, r5, q5, r6, q6, r7, q7, r8, q8, r9, q9, r10, q10, r11, q11, r12, q12, r13, q13, hgr2]) rfl ⟨?_, ?_, ?_⟩
        · rfl
        · have e2 := K9.out; rw [ht] at e2; unfold IsR; (repeat (with_reducible refine blk_far2 ?_ (fun e => Hgn.out e.symm) _)); (repeat (first | (with_reducible refine blk_drew ?_) | (with_reducible refine blk_drewN ?_ _) | (with_reducible refine blk_alloc ?_ _) | (with_reducible refine blk_far2 ?_ (by omega) _))) <;> exact e2
        · (repeat (first | (with_reducible exact Fr.refl _ _) | (with_reducible refine Fr.drew ?_) | (with_reducible refine Fr.drewN ?_ _) | (with_reducible refine Fr.alloc ?_ _) | (with_reducible refine Fr.set1 ?_ _) | (with_reducible refine Fr.setNew ?_ (by omega) _))) <;> exact F9.out
set_option maxHeartbeats 12800000 in
theorem refBytesOf_any (w : World) (a : Acc) (oa : a.ok) :
    Calls Try.prog 47 #[a.val] w fun e w' => e = .returned (.string (strOfNums a.bytes)) ∧ Fr (fun _ => False) w w' := by
  have hB := Lib.hid (heap_alloc_new w (.cells #[.int .u64 a.id.hi, .int .u64 a.id.lo, .int .u64 a.dp.hi, .int .u64 a.dp.lo, .int .u64 a.dq.hi, .int .u64 a.dq.lo, .int .u64 a.cp.hi, .int .u64 a.cp.lo, .int .u64 a.cq.hi, .int .u64 a.cq.lo, .int .i64 a.ledger, .int .i64 a.code, .int .i64 a.flags, .int .i64 a.stamp] 58))
  have N_id := Lib.hid (show ∀ W, Calls Try.prog 49 #[.agg #[.int .u64 a.id.hi, .int .u64 a.id.lo]] W fun e w' => e = .returned (.string (strOfNums (wideBytes a.id.hi a.id.lo))) ∧ Fr (fun _ => False) W w' from fun W => refBytes_any W _ _ oa.id.hi0 oa.id.hi1 oa.id.lo0 oa.id.lo1)
  have N_dp := Lib.hid (show ∀ W, Calls Try.prog 49 #[.agg #[.int .u64 a.dp.hi, .int .u64 a.dp.lo]] W fun e w' => e = .returned (.string (strOfNums (wideBytes a.dp.hi a.dp.lo))) ∧ Fr (fun _ => False) W w' from fun W => refBytes_any W _ _ oa.dp.hi0 oa.dp.hi1 oa.dp.lo0 oa.dp.lo1)
  have N_dq := Lib.hid (show ∀ W, Calls Try.prog 49 #[.agg #[.int .u64 a.dq.hi, .int .u64 a.dq.lo]] W fun e w' => e = .returned (.string (strOfNums (wideBytes a.dq.hi a.dq.lo))) ∧ Fr (fun _ => False) W w' from fun W => refBytes_any W _ _ oa.dq.hi0 oa.dq.hi1 oa.dq.lo0 oa.dq.lo1)
  have N_cp := Lib.hid (show ∀ W, Calls Try.prog 49 #[.agg #[.int .u64 a.cp.hi, .int .u64 a.cp.lo]] W fun e w' => e = .returned (.string (strOfNums (wideBytes a.cp.hi a.cp.lo))) ∧ Fr (fun _ => False) W w' from fun W => refBytes_any W _ _ oa.cp.hi0 oa.cp.hi1 oa.cp.lo0 oa.cp.lo1)
  have N_cq := Lib.hid (show ∀ W, Calls Try.prog 49 #[.agg #[.int .u64 a.cq.hi, .int .u64 a.cq.lo]] W fun e w' => e = .returned (.string (strOfNums (wideBytes a.cq.hi a.cq.lo))) ∧ Fr (fun _ => False) W w' from fun W => refBytes_any W _ _ oa.cq.hi0 oa.cq.hi1 oa.cq.lo0 oa.cq.lo1)
  have N_ledger := Lib.hid (show ∀ W, Calls Try.prog 46 #[.int .i64 4, .int .i64 a.ledger] W fun e w' => e = .returned (.string (strOfNums (bytesOf a.ledger 4))) ∧ Fr (fun _ => False) W w' from fun W => by have h := refInt_any W 4 a.ledger; rwa [show clampN 4 = 4 from rfl] at h)
  have N_code := Lib.hid (show ∀ W, Calls Try.prog 46 #[.int .i64 2, .int .i64 a.code] W fun e w' => e = .returned (.string (strOfNums (bytesOf a.code 2))) ∧ Fr (fun _ => False) W w' from fun W => by have h := refInt_any W 2 a.code; rwa [show clampN 2 = 2 from rfl] at h)
  have N_flags := Lib.hid (show ∀ W, Calls Try.prog 46 #[.int .i64 2, .int .i64 a.flags] W fun e w' => e = .returned (.string (strOfNums (bytesOf a.flags 2))) ∧ Fr (fun _ => False) W w' from fun W => by have h := refInt_any W 2 a.flags; rwa [show clampN 2 = 2 from rfl] at h)
  have N_stamp := Lib.hid (show ∀ W, Calls Try.prog 46 #[.int .i64 8, .int .i64 a.stamp] W fun e w' => e = .returned (.string (strOfNums (bytesOf a.stamp 8))) ∧ Fr (fun _ => False) W w' from fun W => by have h := refInt_any W 8 a.stamp; rwa [show clampN 8 = 8 from rfl] at h)
  have z_id : (strOfNums (wideBytes a.id.hi a.id.lo)).size = 16 := by rw [strOfNums_size, wideBytes_len]
  have z_dp : (strOfNums (wideBytes a.dp.hi a.dp.lo)).size = 16 := by rw [strOfNums_size, wideBytes_len]
  have z_dq : (strOfNums (wideBytes a.dq.hi a.dq.lo)).size = 16 := by rw [strOfNums_size, wideBytes_len]
  have z_cp : (strOfNums (wideBytes a.cp.hi a.cp.lo)).size = 16 := by rw [strOfNums_size, wideBytes_len]
  have z_cq : (strOfNums (wideBytes a.cq.hi a.cq.lo)).size = 16 := by rw [strOfNums_size, wideBytes_len]
  have z_ledger : (strOfNums (bytesOf a.ledger 4)).size = 4 := by rw [strOfNums_size, blen]
  have z_code : (strOfNums (bytesOf a.code 2)).size = 2 := by rw [strOfNums_size, blen]
  have z_flags : (strOfNums (bytesOf a.flags 2)).size = 2 := by rw [strOfNums_size, blen]
  have z_stamp : (strOfNums (bytesOf a.stamp 8)).size = 8 := by rw [strOfNums_size, blen]
  have hb := Lib.hid (show strOfNums a.bytes = strOfNums (wideBytes a.id.hi a.id.lo) ++ strOfNums (wideBytes a.dp.hi a.dp.lo) ++ strOfNums (wideBytes a.dq.hi a.dq.lo) ++ strOfNums (wideBytes a.cp.hi a.cp.lo) ++ strOfNums (wideBytes a.cq.hi a.cq.lo) ++ strOfNums (bytesOf a.ledger 4) ++ strOfNums (bytesOf a.code 2) ++ strOfNums (bytesOf a.flags 2) ++ strOfNums (bytesOf a.stamp 8) from by simp only [Acc.bytes, strOf_append])
  clear oa
  unfold Acc.val
  go_enter Try.func47, Try.ntmps47
  go_wp2_with fail
  have FA := Lib.hid ((Fr.refl (fun _ => False) w).alloc (.cells #[.int .u64 a.id.hi, .int .u64 a.id.lo, .int .u64 a.dp.hi, .int .u64 a.dp.lo, .int .u64 a.dq.hi, .int .u64 a.dq.lo, .int .u64 a.cp.hi, .int .u64 a.cp.lo, .int .u64 a.cq.hi, .int .u64 a.cq.lo, .int .i64 a.ledger, .int .i64 a.code, .int .i64 a.flags, .int .i64 a.stamp] 58))
  have ba := hB.out
  have a0 := blk_cell ba 0 rfl; have a1 := blk_cell ba 1 rfl; have a2 := blk_cell ba 2 rfl; have a3 := blk_cell ba 3 rfl; have a4 := blk_cell ba 4 rfl; have a5 := blk_cell ba 5 rfl; have a6 := blk_cell ba 6 rfl; have a7 := blk_cell ba 7 rfl; have a8 := blk_cell ba 8 rfl; have a9 := blk_cell ba 9 rfl; have a10 := blk_cell ba 10 rfl; have a11 := blk_cell ba 11 rfl; have a12 := blk_cell ba 12 rfl; have a13 := blk_cell ba 13 rfl
  have hsz0 := blk_lt ba
  have Ba := Lib.hid ba
  clear ba
  go_region_held3 (fun w' => w'.cell? ⟨w.heap.size, 0, none⟩ = some (Value.int .u64 a.id.hi) ∧ w'.cell? ⟨w.heap.size, 1, none⟩ = some (Value.int .u64 a.id.lo) ∧ w'.cell? ⟨w.heap.size, 2, none⟩ = some (Value.int .u64 a.dp.hi) ∧ w'.cell? ⟨w.heap.size, 3, none⟩ = some (Value.int .u64 a.dp.lo) ∧ w'.cell? ⟨w.heap.size, 4, none⟩ = some (Value.int .u64 a.dq.hi) ∧ w'.cell? ⟨w.heap.size, 5, none⟩ = some (Value.int .u64 a.dq.lo) ∧ w'.cell? ⟨w.heap.size, 6, none⟩ = some (Value.int .u64 a.cp.hi) ∧ w'.cell? ⟨w.heap.size, 7, none⟩ = some (Value.int .u64 a.cp.lo) ∧ w'.cell? ⟨w.heap.size, 8, none⟩ = some (Value.int .u64 a.cq.hi) ∧ w'.cell? ⟨w.heap.size, 9, none⟩ = some (Value.int .u64 a.cq.lo) ∧ w'.cell? ⟨w.heap.size, 10, none⟩ = some (Value.int .i64 a.ledger) ∧ w'.cell? ⟨w.heap.size, 11, none⟩ = some (Value.int .i64 a.code) ∧ w'.cell? ⟨w.heap.size, 12, none⟩ = some (Value.int .i64 a.flags) ∧ w'.cell? ⟨w.heap.size, 13, none⟩ = some (Value.int .i64 a.stamp))
    (first | go_keep | exact ⟨a0, a1, a2, a3, a4, a5, a6, a7, a8, a9, a10, a11, a12, a13⟩)
    (first
      | (go_at_call 49; (first | (with_reducible refine (N_id.out _).mono ?_; rintro e w2 ⟨rfl, f2⟩) | (with_reducible refine (N_dp.out _).mono ?_; rintro e w2 ⟨rfl, f2⟩) | (with_reducible refine (N_dq.out _).mono ?_; rintro e w2 ⟨rfl, f2⟩) | (with_reducible refine (N_cp.out _).mono ?_; rintro e w2 ⟨rfl, f2⟩) | (with_reducible refine (N_cq.out _).mono ?_; rintro e w2 ⟨rfl, f2⟩)); have ba := f2.blk Ba.out (fun h => h); have a0 := blk_cell ba 0 rfl; have a1 := blk_cell ba 1 rfl; have a2 := blk_cell ba 2 rfl; have a3 := blk_cell ba 3 rfl; have a4 := blk_cell ba 4 rfl; have a5 := blk_cell ba 5 rfl; have a6 := blk_cell ba 6 rfl; have a7 := blk_cell ba 7 rfl; have a8 := blk_cell ba 8 rfl; have a9 := blk_cell ba 9 rfl; have a10 := blk_cell ba 10 rfl; have a11 := blk_cell ba 11 rfl; have a12 := blk_cell ba 12 rfl; have a13 := blk_cell ba 13 rfl; have Ba := Lib.hid ba; have FA := Lib.hid (FA.out.then_ (S2 := fun _ => False) (Fr.then_ (S2 := fun _ => False) (by repeat (first | (with_reducible exact Fr.refl _ _) | (with_reducible refine Fr.drew ?_) | (with_reducible refine Fr.drewN ?_ _) | (with_reducible refine Fr.alloc ?_ _) | (with_reducible refine Fr.set1 ?_ _) | (with_reducible refine Fr.setNew ?_ (by omega) _))) f2 (fun _ h => h.elim)) (fun _ h => h.elim)); clear f2 ba)
      | (go_at_call 46; (first | (with_reducible refine (N_ledger.out _).mono ?_; rintro e w2 ⟨rfl, f2⟩) | (with_reducible refine (N_code.out _).mono ?_; rintro e w2 ⟨rfl, f2⟩) | (with_reducible refine (N_flags.out _).mono ?_; rintro e w2 ⟨rfl, f2⟩) | (with_reducible refine (N_stamp.out _).mono ?_; rintro e w2 ⟨rfl, f2⟩)); have ba := f2.blk Ba.out (fun h => h); have a0 := blk_cell ba 0 rfl; have a1 := blk_cell ba 1 rfl; have a2 := blk_cell ba 2 rfl; have a3 := blk_cell ba 3 rfl; have a4 := blk_cell ba 4 rfl; have a5 := blk_cell ba 5 rfl; have a6 := blk_cell ba 6 rfl; have a7 := blk_cell ba 7 rfl; have a8 := blk_cell ba 8 rfl; have a9 := blk_cell ba 9 rfl; have a10 := blk_cell ba 10 rfl; have a11 := blk_cell ba 11 rfl; have a12 := blk_cell ba 12 rfl; have a13 := blk_cell ba 13 rfl; have Ba := Lib.hid ba; have FA := Lib.hid (FA.out.then_ (S2 := fun _ => False) (Fr.then_ (S2 := fun _ => False) (by repeat (first | (with_reducible exact Fr.refl _ _) | (with_reducible refine Fr.drew ?_) | (with_reducible refine Fr.drewN ?_ _) | (with_reducible refine Fr.alloc ?_ _) | (with_reducible refine Fr.set1 ?_ _) | (with_reducible refine Fr.setNew ?_ (by omega) _))) f2 (fun _ h => h.elim)) (fun _ h => h.elim)); clear f2 ba))
  go_wp2_with fail
  go_region_held3 (fun w' => w'.cell? ⟨w.heap.size, 0, none⟩ = some (Value.int .u64 a.id.hi) ∧ w'.cell? ⟨w.heap.size, 1, none⟩ = some (Value.int .u64 a.id.lo) ∧ w'.cell? ⟨w.heap.size, 2, none⟩ = some (Value.int .u64 a.dp.hi) ∧ w'.cell? ⟨w.heap.size, 3, none⟩ = some (Value.int .u64 a.dp.lo) ∧ w'.cell? ⟨w.heap.size, 4, none⟩ = some (Value.int .u64 a.dq.hi) ∧ w'.cell? ⟨w.heap.size, 5, none⟩ = some (Value.int .u64 a.dq.lo) ∧ w'.cell? ⟨w.heap.size, 6, none⟩ = some (Value.int .u64 a.cp.hi) ∧ w'.cell? ⟨w.heap.size, 7, none⟩ = some (Value.int .u64 a.cp.lo) ∧ w'.cell? ⟨w.heap.size, 8, none⟩ = some (Value.int .u64 a.cq.hi) ∧ w'.cell? ⟨w.heap.size, 9, none⟩ = some (Value.int .u64 a.cq.lo) ∧ w'.cell? ⟨w.heap.size, 10, none⟩ = some (Value.int .i64 a.ledger) ∧ w'.cell? ⟨w.heap.size, 11, none⟩ = some (Value.int .i64 a.code) ∧ w'.cell? ⟨w.heap.size, 12, none⟩ = some (Value.int .i64 a.flags) ∧ w'.cell? ⟨w.heap.size, 13, none⟩ = some (Value.int .i64 a.stamp))
    (first | go_keep | exact ⟨a0, a1, a2, a3, a4, a5, a6, a7, a8, a9, a10, a11, a12, a13⟩)
    (first
      | (go_at_call 49; (first | (with_reducible refine (N_id.out _).mono ?_; rintro e w2 ⟨rfl, f2⟩) | (with_reducible refine (N_dp.out _).mono ?_; rintro e w2 ⟨rfl, f2⟩) | (with_reducible refine (N_dq.out _).mono ?_; rintro e w2 ⟨rfl, f2⟩) | (with_reducible refine (N_cp.out _).mono ?_; rintro e w2 ⟨rfl, f2⟩) | (with_reducible refine (N_cq.out _).mono ?_; rintro e w2 ⟨rfl, f2⟩)); have ba := f2.blk Ba.out (fun h => h); have a0 := blk_cell ba 0 rfl; have a1 := blk_cell ba 1 rfl; have a2 := blk_cell ba 2 rfl; have a3 := blk_cell ba 3 rfl; have a4 := blk_cell ba 4 rfl; have a5 := blk_cell ba 5 rfl; have a6 := blk_cell ba 6 rfl; have a7 := blk_cell ba 7 rfl; have a8 := blk_cell ba 8 rfl; have a9 := blk_cell ba 9 rfl; have a10 := blk_cell ba 10 rfl; have a11 := blk_cell ba 11 rfl; have a12 := blk_cell ba 12 rfl; have a13 := blk_cell ba 13 rfl; have Ba := Lib.hid ba; have FA := Lib.hid (FA.out.then_ (S2 := fun _ => False) (Fr.then_ (S2 := fun _ => False) (by repeat (first | (with_reducible exact Fr.refl _ _) | (with_reducible refine Fr.drew ?_) | (with_reducible refine Fr.drewN ?_ _) | (with_reducible refine Fr.alloc ?_ _) | (with_reducible refine Fr.set1 ?_ _) | (with_reducible refine Fr.setNew ?_ (by omega) _))) f2 (fun _ h => h.elim)) (fun _ h => h.elim)); clear f2 ba)
      | (go_at_call 46; (first | (with_reducible refine (N_ledger.out _).mono ?_; rintro e w2 ⟨rfl, f2⟩) | (with_reducible refine (N_code.out _).mono ?_; rintro e w2 ⟨rfl, f2⟩) | (with_reducible refine (N_flags.out _).mono ?_; rintro e w2 ⟨rfl, f2⟩) | (with_reducible refine (N_stamp.out _).mono ?_; rintro e w2 ⟨rfl, f2⟩)); have ba := f2.blk Ba.out (fun h => h); have a0 := blk_cell ba 0 rfl; have a1 := blk_cell ba 1 rfl; have a2 := blk_cell ba 2 rfl; have a3 := blk_cell ba 3 rfl; have a4 := blk_cell ba 4 rfl; have a5 := blk_cell ba 5 rfl; have a6 := blk_cell ba 6 rfl; have a7 := blk_cell ba 7 rfl; have a8 := blk_cell ba 8 rfl; have a9 := blk_cell ba 9 rfl; have a10 := blk_cell ba 10 rfl; have a11 := blk_cell ba 11 rfl; have a12 := blk_cell ba 12 rfl; have a13 := blk_cell ba 13 rfl; have Ba := Lib.hid ba; have FA := Lib.hid (FA.out.then_ (S2 := fun _ => False) (Fr.then_ (S2 := fun _ => False) (by repeat (first | (with_reducible exact Fr.refl _ _) | (with_reducible refine Fr.drew ?_) | (with_reducible refine Fr.drewN ?_ _) | (with_reducible refine Fr.alloc ?_ _) | (with_reducible refine Fr.set1 ?_ _) | (with_reducible refine Fr.setNew ?_ (by omega) _))) f2 (fun _ h => h.elim)) (fun _ h => h.elim)); clear f2 ba))
  go_wp2_with fail
  go_ret
  rw [hb.out]
  exact ⟨rfl, FA.out⟩
end Go.Proofs.Ytfmcimngogibkaa
