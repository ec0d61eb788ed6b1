/- The document's Same, of rows that hold the same. -/
import Derived.Test.YtfmcimngogibkaaWrU
import Derived.Test.YtfmcimngogibkaaWrN
import Derived.Test.YtfmcimngogibkaaEqAcc
import Derived.Test.YtfmcimngogibkaaEqTx
set_option linter.unusedSimpArgs false
set_option linter.unusedVariables false
namespace Go.Proofs.Ytfmcimngogibkaa
open Go.RowKit

theorem ld_mid {P : Program} {W : World} (b off : Nat) (cs : Array Value) {n : Nat} (hn : cs.size = n) (h : W.rangeAt b off cs.toList) : (loadCells ⟨b, off, none⟩ n).run P W = .ok cs W := by
  have hl := run_loadCells_list (P := P) W ⟨b, off, none⟩ cs.toList (fun j v hv => by
    have hadd : (⟨b, off, none⟩ : Addr).add j = ⟨b, off + j, none⟩ := by unfold Addr.add; split <;> simp_all
    rw [hadd]
    exact h j v hv)
  rw [Array.length_toList, hn] at hl
  simpa using hl
attribute [-go_sem] loadCells
set_option maxRecDepth 4000 in
set_option maxHeartbeats 6400000 in
theorem same_any (w : World) (a0 : Option Addr) (n0 c0 : Nat) (a1 : Option Addr) (c1 : Nat) (a2 : Option Addr) (n2 c2 : Nat) (a3 : Option Addr) (c3 : Nat) (la : List Acc) (lt : List Tx) (hn0 : la.length = n0) (hn2 : lt.length = n2) (hb0 : n0 ≤ 1000000) (hb2 : n2 ≤ 1000000)
    (h0 : Row w a0 (la.flatMap Acc.cells)) (h1 : Row w a1 (la.flatMap Acc.cells)) (h2 : Row w a2 (lt.flatMap Tx.cells)) (h3 : Row w a3 (lt.flatMap Tx.cells)) :
    Calls Try.prog 21 #[.slice a0 n0 c0, .slice a1 n0 c1, .slice a2 n2 c2, .slice a3 n2 c3] w fun e w' => e = .returned (.bool true) ∧ Fr (fun _ => False) w w' := by
  have H0 := Lib.hid h0
  have H1 := Lib.hid h1
  have H2 := Lib.hid h2
  have H3 := Lib.hid h3
  have HN0 := Lib.hid hn0
  have HN2 := Lib.hid hn2
  clear h0 h1 h2 h3 hn0 hn2
  go_enter Try.func21, Try.ntmps21
  go_wp2_with fail
  go_loopw [25] (fun i wr => ∃ k : Nat, k ≤ n0 ∧ i = .int .i64 k ∧ Fr (fun _ => False) w wr) (fun i _ => ((n0 : Int) - intOf i).toNat)
  case atStart => exact ⟨0, Nat.zero_le _, rfl, Fr.refl _ _⟩
  case round =>
    obtain ⟨k, hk, rfl, hf⟩ := hrel
    have HF := Lib.hid hf
    by_cases hlt : k < n0
    · have hltI : (k : Int) < n0 := by omega
      have hkl : k < la.length := by rw [HN0.out]; exact hlt
      obtain ⟨b, off, rfl, hra⟩ := rowAcc (H0.out.fr hf (fun _ _ h => h)) hkl
      obtain ⟨b2, off2, rfl, hrb⟩ := rowAcc (H1.out.fr hf (fun _ _ h => h)) hkl
      obtain ⟨x, hx⟩ : ∃ x, la[k] = x := ⟨_, rfl⟩
      rw [hx] at hra hrb
      have HRa := Lib.hid (show wr.rangeAt b (off + k * 14) (#[.int .u64 x.id.hi, .int .u64 x.id.lo, .int .u64 x.dp.hi, .int .u64 x.dp.lo, .int .u64 x.dq.hi, .int .u64 x.dq.lo, .int .u64 x.cp.hi, .int .u64 x.cp.lo, .int .u64 x.cq.hi, .int .u64 x.cq.lo, .int .i64 x.ledger, .int .i64 x.code, .int .i64 x.flags, .int .i64 x.stamp] : Array Value).toList from hra)
      have HRb := Lib.hid (show wr.rangeAt b2 (off2 + k * 14) (#[.int .u64 x.id.hi, .int .u64 x.id.lo, .int .u64 x.dp.hi, .int .u64 x.dp.lo, .int .u64 x.dq.hi, .int .u64 x.dq.lo, .int .u64 x.cp.hi, .int .u64 x.cp.lo, .int .u64 x.cq.hi, .int .u64 x.cq.lo, .int .i64 x.ledger, .int .i64 x.code, .int .i64 x.flags, .int .i64 x.stamp] : Array Value).toList from hrb)
      have w1 : IntKind.i64.wrap ((k : Int) + 1) = k + 1 := IntWalk.i64_in _ (by omega)
      have he := eqm_Acc
      clear hf hx hra hrb
      go_upto_region 6 with fail
      go_region_held3 (fun w' => (loadCells ⟨b, off + k * 14, none⟩ 14).run Try.prog w' = .ok #[Value.int .u64 x.id.hi, Value.int .u64 x.id.lo, Value.int .u64 x.dp.hi, Value.int .u64 x.dp.lo, Value.int .u64 x.dq.hi, Value.int .u64 x.dq.lo, Value.int .u64 x.cp.hi, Value.int .u64 x.cp.lo, Value.int .u64 x.cq.hi, Value.int .u64 x.cq.lo, Value.int .i64 x.ledger, Value.int .i64 x.code, Value.int .i64 x.flags, Value.int .i64 x.stamp] w' ∧ (loadCells ⟨b2, off2 + k * 14, none⟩ 14).run Try.prog w' = .ok #[Value.int .u64 x.id.hi, Value.int .u64 x.id.lo, Value.int .u64 x.dp.hi, Value.int .u64 x.dp.lo, Value.int .u64 x.dq.hi, Value.int .u64 x.dq.lo, Value.int .u64 x.cp.hi, Value.int .u64 x.cp.lo, Value.int .u64 x.cq.hi, Value.int .u64 x.cq.lo, Value.int .i64 x.ledger, Value.int .i64 x.code, Value.int .i64 x.flags, Value.int .i64 x.stamp] w')
        (first | exact ⟨ld_mid _ _ _ rfl HRa.out, ld_mid _ _ _ rfl HRb.out⟩ | go_keep)
        (fail)
      go_wp2_with fail
      go_roundw
      case rel => first | exact ⟨k + 1, by omega, by go_num, HF.out.drew⟩ | ((repeat apply Exists.intro); refine (fun a b => ⟨b, a⟩ : ∀ {P Q : Prop}, P → Q → Q ∧ P) ?_ ?_; (first | rfl | exact ⟨rfl, rfl⟩ | exact ⟨rfl, rfl, rfl⟩); exact ⟨k + 1, by omega, by go_num, HF.out.drew⟩)
      case measure => simp [intOf, w1]; omega
    · have hltI : ¬ (k : Int) < n0 := by omega
      clear hf
      go_wp2_with fail
      go_loopw [40] (fun i w5 => ∃ k : Nat, k ≤ n2 ∧ i = .int .i64 k ∧ Fr (fun _ => False) w w5) (fun i _ => ((n2 : Int) - intOf i).toNat)
      case atStart => exact ⟨0, Nat.zero_le _, rfl, HF.out⟩
      case round =>
        obtain ⟨j, hj, rfl, hf⟩ := hrel
        have HF := Lib.hid hf
        by_cases hlt : j < n2
        · have hltI : (j : Int) < n2 := by omega
          have hkl : j < lt.length := by rw [HN2.out]; exact hlt
          obtain ⟨b, off, rfl, hra⟩ := rowTx (H2.out.fr hf (fun _ _ h => h)) hkl
          obtain ⟨b2, off2, rfl, hrb⟩ := rowTx (H3.out.fr hf (fun _ _ h => h)) hkl
          obtain ⟨x, hx⟩ : ∃ x, lt[j] = x := ⟨_, rfl⟩
          rw [hx] at hra hrb
          have HRa := Lib.hid (show wr.rangeAt b (off + j * 16) (#[.int .u64 x.id.hi, .int .u64 x.id.lo, .int .u64 x.debit.hi, .int .u64 x.debit.lo, .int .u64 x.credit.hi, .int .u64 x.credit.lo, .int .u64 x.amount.hi, .int .u64 x.amount.lo, .int .u64 x.pending.hi, .int .u64 x.pending.lo, .int .i64 x.timeout, .int .i64 x.ledger, .int .i64 x.code, .int .i64 x.flags, .int .i64 x.stamp, .int .i64 x.born] : Array Value).toList from hra)
          have HRb := Lib.hid (show wr.rangeAt b2 (off2 + j * 16) (#[.int .u64 x.id.hi, .int .u64 x.id.lo, .int .u64 x.debit.hi, .int .u64 x.debit.lo, .int .u64 x.credit.hi, .int .u64 x.credit.lo, .int .u64 x.amount.hi, .int .u64 x.amount.lo, .int .u64 x.pending.hi, .int .u64 x.pending.lo, .int .i64 x.timeout, .int .i64 x.ledger, .int .i64 x.code, .int .i64 x.flags, .int .i64 x.stamp, .int .i64 x.born] : Array Value).toList from hrb)
          have w1 : IntKind.i64.wrap ((j : Int) + 1) = j + 1 := IntWalk.i64_in _ (by omega)
          have he := eqm_Tx
          clear hf hx hra hrb
          go_upto_region 12 with fail
          go_region_held3 (fun w' => (loadCells ⟨b, off + j * 16, none⟩ 16).run Try.prog w' = .ok #[Value.int .u64 x.id.hi, Value.int .u64 x.id.lo, Value.int .u64 x.debit.hi, Value.int .u64 x.debit.lo, Value.int .u64 x.credit.hi, Value.int .u64 x.credit.lo, Value.int .u64 x.amount.hi, Value.int .u64 x.amount.lo, Value.int .u64 x.pending.hi, Value.int .u64 x.pending.lo, Value.int .i64 x.timeout, Value.int .i64 x.ledger, Value.int .i64 x.code, Value.int .i64 x.flags, Value.int .i64 x.stamp, Value.int .i64 x.born] w' ∧ (loadCells ⟨b2, off2 + j * 16, none⟩ 16).run Try.prog w' = .ok #[Value.int .u64 x.id.hi, Value.int .u64 x.id.lo, Value.int .u64 x.debit.hi, Value.int .u64 x.debit.lo, Value.int .u64 x.credit.hi, Value.int .u64 x.credit.lo, Value.int .u64 x.amount.hi, Value.int .u64 x.amount.lo, Value.int .u64 x.pending.hi, Value.int .u64 x.pending.lo, Value.int .i64 x.timeout, Value.int .i64 x.ledger, Value.int .i64 x.code, Value.int .i64 x.flags, Value.int .i64 x.stamp, Value.int .i64 x.born] w')
            (first | exact ⟨ld_mid _ _ _ rfl HRa.out, ld_mid _ _ _ rfl HRb.out⟩ | go_keep)
            (fail)
          go_wp2_with fail
          go_roundw
          case rel => first | exact ⟨j + 1, by omega, by go_num, HF.out.drew⟩ | ((repeat apply Exists.intro); refine (fun a b => ⟨b, a⟩ : ∀ {P Q : Prop}, P → Q → Q ∧ P) ?_ ?_; (first | rfl | exact ⟨rfl, rfl⟩ | exact ⟨rfl, rfl, rfl⟩); exact ⟨j + 1, by omega, by go_num, HF.out.drew⟩)
          case measure => simp [intOf, w1]; omega
        · have hltI : ¬ (j : Int) < n2 := by omega
          clear hf
          go_wp2_with fail
          go_ret
          exact ⟨rfl, HF.out⟩
end Go.Proofs.Ytfmcimngogibkaa
