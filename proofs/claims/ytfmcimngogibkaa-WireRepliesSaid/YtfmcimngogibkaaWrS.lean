/- Replies: do they fit? -/
import Derived.Test.YtfmcimngogibkaaWrM
import Derived.Test.YtfmcimngogibkaaWrI
import Derived.Laws.Cover1
set_option linter.unusedSimpArgs false
set_option linter.unusedVariables false
namespace Go.Proofs.Ytfmcimngogibkaa
open Go.RowKit

theorem rowI {w : World} {a : Option Addr} {l : List Int} (h : Row w a (l.flatMap iCells)) {k : Nat} (hk : k < l.length) : ∃ b off, a = some ⟨b, off, none⟩ ∧ w.rangeAt b (off + k * 1) (iCells l[k]) := row_at (sz := 1) (fun _ => rfl) (by omega) h hk
def byteOk (x : Int) : Bool := decide (0 ≤ x) && decide (x ≤ 255)
def rfits (er : Int) (rs : List Int) (la : List Acc) (lt : List Tx) : Bool := (byteOk er && (decide (rs.length ≤ 16) && (decide (la.length ≤ 16) && decide (lt.length ≤ 16)))) && (rs.all byteOk && (la.all Acc.good && lt.all Tx.good))
theorem byteOk_of {x : Int} (h0 : ¬ x < 0) (h1 : ¬ 255 < x) : byteOk x = true := by simp [byteOk]; omega
set_option maxRecDepth 4000 in
set_option maxHeartbeats 6400000 in
theorem fits_any (w : World) (er : Int) (a0 : Option Addr) (n0 c0 : Nat) (a1 : Option Addr) (n1 c1 : Nat) (a2 : Option Addr) (n2 c2 : Nat) (rs : List Int) (la : List Acc) (lt : List Tx) (hn0 : rs.length = n0) (hn1 : la.length = n1) (hn2 : lt.length = n2) (hb0 : n0 ≤ 140737488355328) (hb1 : n1 ≤ 140737488355328) (hb2 : n2 ≤ 140737488355328) (h0 : Row w a0 (rs.flatMap iCells)) (h1 : Row w a1 (la.flatMap Acc.cells)) (h2 : Row w a2 (lt.flatMap Tx.cells)) :
    Calls Try.prog 53 #[.agg #[.int .i64 er, .slice a0 n0 c0, .slice a1 n1 c1, .slice a2 n2 c2]] w fun e w' => e = .returned (.bool (rfits er rs la lt)) ∧ Fr (fun _ => False) w w' := by
  obtain ⟨R, hR⟩ : ∃ R, rfits er rs la lt = R := ⟨_, rfl⟩
  have HV0 := Lib.hid (show R = ((byteOk er && (decide (n0 ≤ 16) && (decide (n1 ≤ 16) && decide (n2 ≤ 16)))) && (rs.all byteOk && (la.all Acc.good && lt.all Tx.good))) from by rw [← hR, rfits, hn0, hn1, hn2])
  rw [hR]
  clear hR
  have FAq := Lib.hid ((Fr.refl (fun _ => False) w).alloc (.cells #[.int .i64 er, .slice a0 n0 c0, .slice a1 n1 c1, .slice a2 n2 c2] 47))
  have H0 := Lib.hid (h0.fr FAq.out (fun _ _ h => h))
  have H1 := Lib.hid (h1.fr FAq.out (fun _ _ h => h))
  have H2 := Lib.hid (h2.fr FAq.out (fun _ _ h => h))
  have HN0 := Lib.hid hn0
  have HN1 := Lib.hid hn1
  have HN2 := Lib.hid hn2
  have HBq := Lib.hid (heap_alloc_new w (.cells #[.int .i64 er, .slice a0 n0 c0, .slice a1 n1 c1, .slice a2 n2 c2] 47))
  have q1 := blk_cell HBq.out 1 rfl
  clear h0 h1 h2 hn0 hn1 hn2
  go_enter Try.func53, Try.ntmps53
  go_wp2_with fail
  go_loopw [12] (fun i wr => ∃ k : Nat, k ≤ n0 ∧ i = .int .i64 k ∧ (rs.take k).all byteOk = true ∧ Fr (fun _ => False) (w.alloc (.cells #[.int .i64 er, .slice a0 n0 c0, .slice a1 n1 c1, .slice a2 n2 c2] 47)) wr) (fun i _ => ((n0 : Int) - intOf i).toNat)
  case atStart => exact ⟨0, Nat.zero_le _, rfl, rfl, Fr.refl _ _⟩
  case round =>
    obtain ⟨k, hk, rfl, hall, hf⟩ := hrel
    have HAll := Lib.hid hall
    have HF := Lib.hid (FAq.out.then_ hf (fun _ h => h.elim)); have HFa := Lib.hid hf
    by_cases hlt : k < n0
    · have hltI : (k : Int) < n0 := by omega
      have hkl : k < rs.length := by rw [HN0.out]; exact hlt
      obtain ⟨b, off, rfl, HRg⟩ := rowI (H0.out.fr hf (fun _ _ h => h)) hkl
      have hbl : b < wr.heap.size := World.block_lt_of_cell? _ _ (HRg 0 _ rfl)
      obtain ⟨x, hx⟩ : ∃ x, rs[k] = x := ⟨_, rfl⟩
      rw [hx] at HRg
      have p0 : wr.cell? ⟨b, off + k, none⟩ = some (.int .i64 x) := by have h := HRg 0 _ rfl; simpa using h
      have HX := Lib.hid (all_succ (f := byteOk) hkl hx)
      have HXe := Lib.hid hx
      have w1 : IntKind.i64.wrap ((k : Int) + 1) = k + 1 := IntWalk.i64_in _ (by omega)
      clear hall hf hx HRg
      by_cases x0 : x < 0
      · have HV := Lib.hid (show R = false from by rw [HV0.out, all_false hkl rfl (by rw [HXe.out]; simp [byteOk]; omega)]; simp)
        go_wp2_with fail
        go_ret
        exact ⟨by rw [HV.out]; rfl, by (repeat (first | (with_reducible exact Fr.refl _ _) | (with_reducible refine Fr.drew ?_) | (with_reducible refine Fr.drewN ?_ _) | (with_reducible refine Fr.alloc ?_ _) | (with_reducible refine Fr.set1 ?_ _) | (with_reducible refine Fr.setNew ?_ (by omega) _))) <;> exact HF.out⟩
      by_cases x1 : 255 < x
      · have HV := Lib.hid (show R = false from by rw [HV0.out, all_false hkl rfl (by rw [HXe.out]; simp [byteOk]; omega)]; simp)
        go_wp2_with fail
        go_ret
        exact ⟨by rw [HV.out]; rfl, by (repeat (first | (with_reducible exact Fr.refl _ _) | (with_reducible refine Fr.drew ?_) | (with_reducible refine Fr.drewN ?_ _) | (with_reducible refine Fr.alloc ?_ _) | (with_reducible refine Fr.set1 ?_ _) | (with_reducible refine Fr.setNew ?_ (by omega) _))) <;> exact HF.out⟩
      have HS := Lib.hid (show (rs.take (k + 1)).all byteOk = true from by rw [HX.out, HAll.out]; simp [byteOk]; omega)
      go_wp2_with fail
      go_roundw
      case rel => first | exact ⟨k + 1, by omega, by go_num, (by first | exact HS.out | exact List.all_eq_true.1 HS.out), HFa.out⟩ | ((repeat apply Exists.intro); refine (fun a b => ⟨b, a⟩ : ∀ {P Q : Prop}, P → Q → Q ∧ P) ?_ ?_; (first | rfl | exact ⟨rfl, rfl⟩ | exact ⟨rfl, rfl, rfl⟩); exact ⟨k + 1, by omega, by go_num, (by first | exact HS.out | exact List.all_eq_true.1 HS.out), HFa.out⟩)
      case measure => simp [intOf]; omega
    · have hltI : ¬ (k : Int) < n0 := by omega
      have HA0 := Lib.hid (show rs.all byteOk = true from by have h := HAll.out; rwa [show rs.take k = rs from List.take_of_length_le (by have := HN0.out; omega)] at h)
      have F2 := Lib.hid HF.out; have F2a := Lib.hid HFa.out
      have bq := HFa.out.blk HBq.out (fun h => h)
      have q0 := blk_cell bq 0 rfl; have q1 := blk_cell bq 1 rfl; have q2 := blk_cell bq 2 rfl; have q3 := blk_cell bq 3 rfl
      clear bq
      clear hall hf
      go_wp2_with fail
      go_loopw [26] (fun i wr => ∃ k : Nat, k ≤ n1 ∧ i = .int .i64 k ∧ (la.take k).all Acc.good = true ∧ Fr (fun _ => False) (w.alloc (.cells #[.int .i64 er, .slice a0 n0 c0, .slice a1 n1 c1, .slice a2 n2 c2] 47)) wr) (fun i _ => ((n1 : Int) - intOf i).toNat)
      case atStart => exact ⟨0, Nat.zero_le _, rfl, rfl, F2a.out⟩
      case round =>
        obtain ⟨k, hk, rfl, hall, hf⟩ := hrel
        have HAll := Lib.hid hall
        have HF := Lib.hid (FAq.out.then_ hf (fun _ h => h.elim)); have HFa := Lib.hid hf
        by_cases hlt : k < n1
        · have hltI : (k : Int) < n1 := by omega
          have hkl : k < la.length := by rw [HN1.out]; exact hlt
          obtain ⟨b, off, rfl, HRg⟩ := rowAcc (H1.out.fr hf (fun _ _ h => h)) hkl
          have hbl : b < wr.heap.size := World.block_lt_of_cell? _ _ (HRg 0 _ rfl)
          obtain ⟨x, hx⟩ : ∃ x, la[k] = x := ⟨_, rfl⟩
          rw [hx] at HRg
          have HRg := Lib.hid (show wr.rangeAt b (off + k * 14) (#[.int .u64 x.id.hi, .int .u64 x.id.lo, .int .u64 x.dp.hi, .int .u64 x.dp.lo, .int .u64 x.dq.hi, .int .u64 x.dq.lo, .int .u64 x.cp.hi, .int .u64 x.cp.lo, .int .u64 x.cq.hi, .int .u64 x.cq.lo, .int .i64 x.ledger, .int .i64 x.code, .int .i64 x.flags, .int .i64 x.stamp] : Array Value).toList from HRg)
          have HX := Lib.hid (all_succ (f := Acc.good) hkl hx)
          have HBk := Lib.hid (heap_alloc_new wr (.cells #[.int .u64 x.id.hi, .int .u64 x.id.lo, .int .u64 x.dp.hi, .int .u64 x.dp.lo, .int .u64 x.dq.hi, .int .u64 x.dq.lo, .int .u64 x.cp.hi, .int .u64 x.cp.lo, .int .u64 x.cq.hi, .int .u64 x.cq.lo, .int .i64 x.ledger, .int .i64 x.code, .int .i64 x.flags, .int .i64 x.stamp] 58))
          have FA := Lib.hid ((Fr.refl (fun _ => False) wr).alloc (.cells #[.int .u64 x.id.hi, .int .u64 x.id.lo, .int .u64 x.dp.hi, .int .u64 x.dp.lo, .int .u64 x.dq.hi, .int .u64 x.dq.lo, .int .u64 x.cp.hi, .int .u64 x.cp.lo, .int .u64 x.cq.hi, .int .u64 x.cq.lo, .int .i64 x.ledger, .int .i64 x.code, .int .i64 x.flags, .int .i64 x.stamp] 58))
          have HG := Lib.hid (good_any (wr.alloc (.cells #[.int .u64 x.id.hi, .int .u64 x.id.lo, .int .u64 x.dp.hi, .int .u64 x.dp.lo, .int .u64 x.dq.hi, .int .u64 x.dq.lo, .int .u64 x.cp.hi, .int .u64 x.cp.lo, .int .u64 x.cq.hi, .int .u64 x.cq.lo, .int .i64 x.ledger, .int .i64 x.code, .int .i64 x.flags, .int .i64 x.stamp] 58)) x)
          obtain ⟨gd, hgd⟩ : ∃ gd, x.good = gd := ⟨_, rfl⟩
          rw [hgd, show x.val = .agg #[.int .u64 x.id.hi, .int .u64 x.id.lo, .int .u64 x.dp.hi, .int .u64 x.dp.lo, .int .u64 x.dq.hi, .int .u64 x.dq.lo, .int .u64 x.cp.hi, .int .u64 x.cp.lo, .int .u64 x.cq.hi, .int .u64 x.cq.lo, .int .i64 x.ledger, .int .i64 x.code, .int .i64 x.flags, .int .i64 x.stamp] from rfl] at HG
          have HGd := Lib.hid hgd
          have HXe := Lib.hid hx
          have w1 : IntKind.i64.wrap ((k : Int) + 1) = k + 1 := IntWalk.i64_in _ (by omega)
          clear hall hf hx hgd
          cases gd
          · have HV := Lib.hid (show R = false from by rw [HV0.out, all_false (l := la) hkl rfl (by rw [HXe.out]; exact HGd.out)]; simp)
            go_wp2_with (first
              | ((with_reducible refine wpList_load_mid_w ?lw 58 _ rfl b (off + k * 14) rfl #[.int .u64 x.id.hi, .int .u64 x.id.lo, .int .u64 x.dp.hi, .int .u64 x.dp.lo, .int .u64 x.dq.hi, .int .u64 x.dq.lo, .int .u64 x.cp.hi, .int .u64 x.cp.lo, .int .u64 x.cq.hi, .int .u64 x.cq.lo, .int .i64 x.ledger, .int .i64 x.code, .int .i64 x.flags, .int .i64 x.stamp] _ HRg.out Try.underlying58 rfl rfl ?_); (case lw => rfl))
              | ((with_reducible refine wpList_load_row_w ?lw 58 _ rfl wr.heap.size rfl 58 _ _ _ HBk.out Try.underlying58 rfl rfl ?_); (case lw => rfl))
              | (go_at_call 34; go_must (with_reducible refine HG.out.mono ?_); rintro e w2 ⟨rfl, f2⟩; have F3 := Lib.hid f2; clear f2))
            go_ret
            exact ⟨by rw [HV.out]; rfl, (HF.out.then_ FA.out (fun _ h => h.elim)).then_ F3.out (fun _ h => h.elim)⟩
          · have HS := Lib.hid (show (la.take (k + 1)).all Acc.good = true from by rw [HX.out, HAll.out, HGd.out]; rfl)
            go_wp2_with (first
              | ((with_reducible refine wpList_load_mid_w ?lw 58 _ rfl b (off + k * 14) rfl #[.int .u64 x.id.hi, .int .u64 x.id.lo, .int .u64 x.dp.hi, .int .u64 x.dp.lo, .int .u64 x.dq.hi, .int .u64 x.dq.lo, .int .u64 x.cp.hi, .int .u64 x.cp.lo, .int .u64 x.cq.hi, .int .u64 x.cq.lo, .int .i64 x.ledger, .int .i64 x.code, .int .i64 x.flags, .int .i64 x.stamp] _ HRg.out Try.underlying58 rfl rfl ?_); (case lw => rfl))
              | ((with_reducible refine wpList_load_row_w ?lw 58 _ rfl wr.heap.size rfl 58 _ _ _ HBk.out Try.underlying58 rfl rfl ?_); (case lw => rfl))
              | (go_at_call 34; go_must (with_reducible refine HG.out.mono ?_); rintro e w2 ⟨rfl, f2⟩; have F3 := Lib.hid f2; clear f2))
            go_roundw
            case rel => first | exact ⟨k + 1, by omega, by go_num, HS.out, (HFa.out.then_ FA.out (fun _ h => h.elim)).then_ F3.out (fun _ h => h.elim)⟩ | ((repeat apply Exists.intro); refine (fun a b => ⟨b, a⟩ : ∀ {P Q : Prop}, P → Q → Q ∧ P) ?_ ?_; (first | rfl | exact ⟨rfl, rfl⟩ | exact ⟨rfl, rfl, rfl⟩); exact ⟨k + 1, by omega, by go_num, (by first | exact HS.out | exact List.all_eq_true.1 HS.out), (HFa.out.then_ FA.out (fun _ h => h.elim)).then_ F3.out (fun _ h => h.elim)⟩)
            case measure => simp [intOf]; omega
        · have hltI : ¬ (k : Int) < n1 := by omega
          have HA1 := Lib.hid (show la.all Acc.good = true from by have h := HAll.out; rwa [show la.take k = la from List.take_of_length_le (by have := HN1.out; omega)] at h)
          have F2 := Lib.hid HF.out; have F2a := Lib.hid HFa.out
          have bq := HFa.out.blk HBq.out (fun h => h)
          have q0 := blk_cell bq 0 rfl; have q1 := blk_cell bq 1 rfl; have q2 := blk_cell bq 2 rfl; have q3 := blk_cell bq 3 rfl
          clear bq
          clear hall hf
          go_wp2_with fail
          go_loopw [37] (fun i wr => ∃ k : Nat, k ≤ n2 ∧ i = .int .i64 k ∧ (lt.take k).all Tx.good = true ∧ Fr (fun _ => False) (w.alloc (.cells #[.int .i64 er, .slice a0 n0 c0, .slice a1 n1 c1, .slice a2 n2 c2] 47)) wr) (fun i _ => ((n2 : Int) - intOf i).toNat)
          case atStart => exact ⟨0, Nat.zero_le _, rfl, rfl, F2a.out⟩
          case round =>
            obtain ⟨k, hk, rfl, hall, hf⟩ := hrel
            have HAll := Lib.hid hall
            have HF := Lib.hid (FAq.out.then_ hf (fun _ h => h.elim)); have HFa := Lib.hid hf
            by_cases hlt : k < n2
            · have hltI : (k : Int) < n2 := by omega
              have hkl : k < lt.length := by rw [HN2.out]; exact hlt
              obtain ⟨b, off, rfl, HRg⟩ := rowTx (H2.out.fr hf (fun _ _ h => h)) hkl
              have hbl : b < wr.heap.size := World.block_lt_of_cell? _ _ (HRg 0 _ rfl)
              obtain ⟨x, hx⟩ : ∃ x, lt[k] = x := ⟨_, rfl⟩
              rw [hx] at HRg
              have HRg := Lib.hid (show wr.rangeAt b (off + k * 16) (#[.int .u64 x.id.hi, .int .u64 x.id.lo, .int .u64 x.debit.hi, .int .u64 x.debit.lo, .int .u64 x.credit.hi, .int .u64 x.credit.lo, .int .u64 x.amount.hi, .int .u64 x.amount.lo, .int .u64 x.pending.hi, .int .u64 x.pending.lo, .int .i64 x.timeout, .int .i64 x.ledger, .int .i64 x.code, .int .i64 x.flags, .int .i64 x.stamp, .int .i64 x.born] : Array Value).toList from HRg)
              have HX := Lib.hid (all_succ (f := Tx.good) hkl hx)
              have HBk := Lib.hid (heap_alloc_new wr (.cells #[.int .u64 x.id.hi, .int .u64 x.id.lo, .int .u64 x.debit.hi, .int .u64 x.debit.lo, .int .u64 x.credit.hi, .int .u64 x.credit.lo, .int .u64 x.amount.hi, .int .u64 x.amount.lo, .int .u64 x.pending.hi, .int .u64 x.pending.lo, .int .i64 x.timeout, .int .i64 x.ledger, .int .i64 x.code, .int .i64 x.flags, .int .i64 x.stamp, .int .i64 x.born] 61))
              have FA := Lib.hid ((Fr.refl (fun _ => False) wr).alloc (.cells #[.int .u64 x.id.hi, .int .u64 x.id.lo, .int .u64 x.debit.hi, .int .u64 x.debit.lo, .int .u64 x.credit.hi, .int .u64 x.credit.lo, .int .u64 x.amount.hi, .int .u64 x.amount.lo, .int .u64 x.pending.hi, .int .u64 x.pending.lo, .int .i64 x.timeout, .int .i64 x.ledger, .int .i64 x.code, .int .i64 x.flags, .int .i64 x.stamp, .int .i64 x.born] 61))
              have HG := Lib.hid (xgood_any (wr.alloc (.cells #[.int .u64 x.id.hi, .int .u64 x.id.lo, .int .u64 x.debit.hi, .int .u64 x.debit.lo, .int .u64 x.credit.hi, .int .u64 x.credit.lo, .int .u64 x.amount.hi, .int .u64 x.amount.lo, .int .u64 x.pending.hi, .int .u64 x.pending.lo, .int .i64 x.timeout, .int .i64 x.ledger, .int .i64 x.code, .int .i64 x.flags, .int .i64 x.stamp, .int .i64 x.born] 61)) x)
              obtain ⟨gd, hgd⟩ : ∃ gd, x.good = gd := ⟨_, rfl⟩
              rw [hgd, show x.val = .agg #[.int .u64 x.id.hi, .int .u64 x.id.lo, .int .u64 x.debit.hi, .int .u64 x.debit.lo, .int .u64 x.credit.hi, .int .u64 x.credit.lo, .int .u64 x.amount.hi, .int .u64 x.amount.lo, .int .u64 x.pending.hi, .int .u64 x.pending.lo, .int .i64 x.timeout, .int .i64 x.ledger, .int .i64 x.code, .int .i64 x.flags, .int .i64 x.stamp, .int .i64 x.born] from rfl] at HG
              have HGd := Lib.hid hgd
              have HXe := Lib.hid hx
              have w1 : IntKind.i64.wrap ((k : Int) + 1) = k + 1 := IntWalk.i64_in _ (by omega)
              clear hall hf hx hgd
              cases gd
              · have HV := Lib.hid (show R = false from by rw [HV0.out, all_false (l := lt) hkl rfl (by rw [HXe.out]; exact HGd.out)]; simp)
                go_wp2_with (first
                  | ((with_reducible refine wpList_load_mid_w ?lw 61 _ rfl b (off + k * 16) rfl #[.int .u64 x.id.hi, .int .u64 x.id.lo, .int .u64 x.debit.hi, .int .u64 x.debit.lo, .int .u64 x.credit.hi, .int .u64 x.credit.lo, .int .u64 x.amount.hi, .int .u64 x.amount.lo, .int .u64 x.pending.hi, .int .u64 x.pending.lo, .int .i64 x.timeout, .int .i64 x.ledger, .int .i64 x.code, .int .i64 x.flags, .int .i64 x.stamp, .int .i64 x.born] _ HRg.out Try.underlying61 rfl rfl ?_); (case lw => rfl))
                  | ((with_reducible refine wpList_load_row_w ?lw 61 _ rfl wr.heap.size rfl 61 _ _ _ HBk.out Try.underlying61 rfl rfl ?_); (case lw => rfl))
                  | (go_at_call 35; go_must (with_reducible refine HG.out.mono ?_); rintro e w2 ⟨rfl, f2⟩; have F3 := Lib.hid f2; clear f2))
                go_ret
                exact ⟨by rw [HV.out]; rfl, (HF.out.then_ FA.out (fun _ h => h.elim)).then_ F3.out (fun _ h => h.elim)⟩
              · have HS := Lib.hid (show (lt.take (k + 1)).all Tx.good = true from by rw [HX.out, HAll.out, HGd.out]; rfl)
                go_wp2_with (first
                  | ((with_reducible refine wpList_load_mid_w ?lw 61 _ rfl b (off + k * 16) rfl #[.int .u64 x.id.hi, .int .u64 x.id.lo, .int .u64 x.debit.hi, .int .u64 x.debit.lo, .int .u64 x.credit.hi, .int .u64 x.credit.lo, .int .u64 x.amount.hi, .int .u64 x.amount.lo, .int .u64 x.pending.hi, .int .u64 x.pending.lo, .int .i64 x.timeout, .int .i64 x.ledger, .int .i64 x.code, .int .i64 x.flags, .int .i64 x.stamp, .int .i64 x.born] _ HRg.out Try.underlying61 rfl rfl ?_); (case lw => rfl))
                  | ((with_reducible refine wpList_load_row_w ?lw 61 _ rfl wr.heap.size rfl 61 _ _ _ HBk.out Try.underlying61 rfl rfl ?_); (case lw => rfl))
                  | (go_at_call 35; go_must (with_reducible refine HG.out.mono ?_); rintro e w2 ⟨rfl, f2⟩; have F3 := Lib.hid f2; clear f2))
                go_roundw
                case rel => first | exact ⟨k + 1, by omega, by go_num, HS.out, (HFa.out.then_ FA.out (fun _ h => h.elim)).then_ F3.out (fun _ h => h.elim)⟩ | ((repeat apply Exists.intro); refine (fun a b => ⟨b, a⟩ : ∀ {P Q : Prop}, P → Q → Q ∧ P) ?_ ?_; (first | rfl | exact ⟨rfl, rfl⟩ | exact ⟨rfl, rfl, rfl⟩); exact ⟨k + 1, by omega, by go_num, (by first | exact HS.out | exact List.all_eq_true.1 HS.out), (HFa.out.then_ FA.out (fun _ h => h.elim)).then_ F3.out (fun _ h => h.elim)⟩)
                case measure => simp [intOf]; omega
            · have hltI : ¬ (k : Int) < n2 := by omega
              have HA2 := Lib.hid (show lt.all Tx.good = true from by have h := HAll.out; rwa [show lt.take k = lt from List.take_of_length_le (by have := HN2.out; omega)] at h)
              have F2 := Lib.hid HF.out; have F2a := Lib.hid HFa.out
              have bq := HFa.out.blk HBq.out (fun h => h)
              have q0 := blk_cell bq 0 rfl; have q1 := blk_cell bq 1 rfl; have q2 := blk_cell bq 2 rfl; have q3 := blk_cell bq 3 rfl
              clear bq
              clear hall hf
              have HV := Lib.hid (show R = (byteOk er && (decide (n0 ≤ 16) && (decide (n1 ≤ 16) && decide (n2 ≤ 16)))) from by rw [HV0.out, HA0.out, HA1.out, HA2.out]; simp)
              by_cases e1 : ¬ (0 ≤ er)
              · have HVv := Lib.hid (show R = false from by rw [HV.out]; simp [byteOk]; omega)
                go_wp2_with fail
                go_ret
                exact ⟨by rw [HVv.out]; rfl, F2.out⟩
              replace e1 := Decidable.not_not.1 e1
              by_cases e3 : ¬ (er ≤ 255)
              · have HVv := Lib.hid (show R = false from by rw [HV.out]; simp [byteOk]; omega)
                go_wp2_with fail
                go_ret
                exact ⟨by rw [HVv.out]; rfl, F2.out⟩
              replace e3 := Decidable.not_not.1 e3
              obtain ⟨m, hmx, hm⟩ : ∃ m : Int, (∀ W : World, (Builtin.max_ #[3, 3, 3] 3 #[.int .i64 n0, .int .i64 n1, .int .i64 n2]).run Try.prog W = .ok (.int .i64 m) W) ∧ (m ≤ 16 ↔ n0 ≤ 16 ∧ n1 ≤ 16 ∧ n2 ≤ 16) := ⟨_, fun W => run_max_int3 (P := Try.prog) (w := W) _ _ _ _ _ _ _ _, by (repeat' split) <;> omega⟩
              have HM := Lib.hid hm
              clear hm
              by_cases f0 : ¬ (m ≤ 16)
              · have HVv := Lib.hid (show R = false from by rw [HV.out]; have := HM.out; simp [byteOk]; omega)
                go_wp2_with fail
                go_ret
                exact ⟨by rw [HVv.out]; rfl, F2.out⟩
              replace f0 := Decidable.not_not.1 f0
              have HVv := Lib.hid (show R = true from by rw [HV.out]; have := HM.out; simp [byteOk]; omega)
              go_wp2_with fail
              go_ret
              exact ⟨by rw [HVv.out]; rfl, F2.out⟩
set_option maxRecDepth 4000 in
set_option maxHeartbeats 6400000 in
theorem refFits_any (w : World) (er : Int) (a0 : Option Addr) (n0 c0 : Nat) (a1 : Option Addr) (n1 c1 : Nat) (a2 : Option Addr) (n2 c2 : Nat) (rs : List Int) (la : List Acc) (lt : List Tx) (hn0 : rs.length = n0) (hn1 : la.length = n1) (hn2 : lt.length = n2) (hb0 : n0 ≤ 140737488355328) (hb1 : n1 ≤ 140737488355328) (hb2 : n2 ≤ 140737488355328) (h0 : Row w a0 (rs.flatMap iCells)) (h1 : Row w a1 (la.flatMap Acc.cells)) (h2 : Row w a2 (lt.flatMap Tx.cells)) :
    Calls Try.prog 20 #[.int .i64 er, .slice a0 n0 c0, .slice a1 n1 c1, .slice a2 n2 c2] w fun e w' => e = .returned (.bool (rfits er rs la lt)) ∧ Fr (fun _ => False) w w' := by
  obtain ⟨R, hR⟩ : ∃ R, rfits er rs la lt = R := ⟨_, rfl⟩
  have HV0 := Lib.hid (show R = ((byteOk er && (decide (n0 ≤ 16) && (decide (n1 ≤ 16) && decide (n2 ≤ 16)))) && (rs.all byteOk && (la.all Acc.good && lt.all Tx.good))) from by rw [← hR, rfits, hn0, hn1, hn2])
  rw [hR]
  clear hR
  have H0 := Lib.hid h0
  have H1 := Lib.hid h1
  have H2 := Lib.hid h2
  have HN0 := Lib.hid hn0
  have HN1 := Lib.hid hn1
  have HN2 := Lib.hid hn2
  clear h0 h1 h2 hn0 hn1 hn2
  by_cases e0 : er < 0
  · have HV := Lib.hid (show R = false from by rw [HV0.out]; simp [byteOk]; omega)
    go_enter Try.func20, Try.ntmps20
    go_wp2_with fail
    go_ret
    exact ⟨by rw [HV.out]; rfl, Fr.refl _ _⟩
  by_cases e1 : 255 < er
  · have HV := Lib.hid (show R = false from by rw [HV0.out]; simp [byteOk]; omega)
    go_enter Try.func20, Try.ntmps20
    go_wp2_with fail
    go_ret
    exact ⟨by rw [HV.out]; rfl, Fr.refl _ _⟩
  by_cases e2 : (16 : Int) < n0
  · have HV := Lib.hid (show R = false from by rw [HV0.out]; simp [byteOk]; omega)
    go_enter Try.func20, Try.ntmps20
    go_wp2_with fail
    go_ret
    exact ⟨by rw [HV.out]; rfl, Fr.refl _ _⟩
  by_cases e3 : (16 : Int) < n1
  · have HV := Lib.hid (show R = false from by rw [HV0.out]; simp [byteOk]; omega)
    go_enter Try.func20, Try.ntmps20
    go_wp2_with fail
    go_ret
    exact ⟨by rw [HV.out]; rfl, Fr.refl _ _⟩
  by_cases e4 : (16 : Int) < n2
  · have HV := Lib.hid (show R = false from by rw [HV0.out]; simp [byteOk]; omega)
    go_enter Try.func20, Try.ntmps20
    go_wp2_with fail
    go_ret
    exact ⟨by rw [HV.out]; rfl, Fr.refl _ _⟩
  have HE := Lib.hid (show (byteOk er && (decide (n0 ≤ 16) && (decide (n1 ≤ 16) && decide (n2 ≤ 16)))) = true from by simp [byteOk]; omega)
  go_enter Try.func20, Try.ntmps20
  go_wp2_with fail
  go_loopw [38] (fun i wr => ∃ k : Nat, k ≤ n0 ∧ i = .int .i64 k ∧ (rs.take k).all byteOk = true ∧ Fr (fun _ => False) w wr) (fun i _ => ((n0 : Int) - intOf i).toNat)
  case atStart => exact ⟨0, Nat.zero_le _, rfl, rfl, Fr.refl _ _⟩
  case round =>
    obtain ⟨k, hk, rfl, hall, hf⟩ := hrel
    have HAll := Lib.hid hall
    have HF := Lib.hid hf
    by_cases hlt : k < n0
    · have hltI : (k : Int) < n0 := by omega
      have hkl : k < rs.length := by rw [HN0.out]; exact hlt
      obtain ⟨b, off, rfl, HRg⟩ := rowI (H0.out.fr hf (fun _ _ h => h)) hkl
      have hbl : b < wr.heap.size := World.block_lt_of_cell? _ _ (HRg 0 _ rfl)
      obtain ⟨x, hx⟩ : ∃ x, rs[k] = x := ⟨_, rfl⟩
      rw [hx] at HRg
      have p0 : wr.cell? ⟨b, off + k, none⟩ = some (.int .i64 x) := by have h := HRg 0 _ rfl; simpa using h
      have HX := Lib.hid (all_succ (f := byteOk) hkl hx)
      have HXe := Lib.hid hx
      have w1 : IntKind.i64.wrap ((k : Int) + 1) = k + 1 := IntWalk.i64_in _ (by omega)
      clear hall hf hx HRg
      by_cases x0 : x < 0
      · have HV := Lib.hid (show R = false from by rw [HV0.out, all_false hkl rfl (by rw [HXe.out]; simp [byteOk]; omega)]; simp)
        go_wp2_with fail
        go_ret
        exact ⟨by rw [HV.out]; rfl, by (repeat (first | (with_reducible exact Fr.refl _ _) | (with_reducible refine Fr.drew ?_) | (with_reducible refine Fr.drewN ?_ _) | (with_reducible refine Fr.alloc ?_ _) | (with_reducible refine Fr.set1 ?_ _) | (with_reducible refine Fr.setNew ?_ (by omega) _))) <;> exact HF.out⟩
      by_cases x1 : 255 < x
      · have HV := Lib.hid (show R = false from by rw [HV0.out, all_false hkl rfl (by rw [HXe.out]; simp [byteOk]; omega)]; simp)
        go_wp2_with fail
        go_ret
        exact ⟨by rw [HV.out]; rfl, by (repeat (first | (with_reducible exact Fr.refl _ _) | (with_reducible refine Fr.drew ?_) | (with_reducible refine Fr.drewN ?_ _) | (with_reducible refine Fr.alloc ?_ _) | (with_reducible refine Fr.set1 ?_ _) | (with_reducible refine Fr.setNew ?_ (by omega) _))) <;> exact HF.out⟩
      have HS := Lib.hid (show (rs.take (k + 1)).all byteOk = true from by rw [HX.out, HAll.out]; simp [byteOk]; omega)
      go_wp2_with fail
      go_roundw
      case rel => first | exact ⟨k + 1, by omega, by go_num, (by first | exact HS.out | exact List.all_eq_true.1 HS.out), HF.out⟩ | ((repeat apply Exists.intro); refine (fun a b => ⟨b, a⟩ : ∀ {P Q : Prop}, P → Q → Q ∧ P) ?_ ?_; (first | rfl | exact ⟨rfl, rfl⟩ | exact ⟨rfl, rfl, rfl⟩); exact ⟨k + 1, by omega, by go_num, (by first | exact HS.out | exact List.all_eq_true.1 HS.out), HF.out⟩)
      case measure => simp [intOf]; omega
    · have hltI : ¬ (k : Int) < n0 := by omega
      have HA0 := Lib.hid (show rs.all byteOk = true from by have h := HAll.out; rwa [show rs.take k = rs from List.take_of_length_le (by have := HN0.out; omega)] at h)
      have F2 := Lib.hid HF.out

      clear hall hf
      go_wp2_with fail
      go_loopw [51] (fun i wr => ∃ k : Nat, k ≤ n1 ∧ i = .int .i64 k ∧ (la.take k).all Acc.good = true ∧ Fr (fun _ => False) w wr) (fun i _ => ((n1 : Int) - intOf i).toNat)
      case atStart => exact ⟨0, Nat.zero_le _, rfl, rfl, F2.out⟩
      case round =>
        obtain ⟨k, hk, rfl, hall, hf⟩ := hrel
        have HAll := Lib.hid hall
        have HF := Lib.hid hf
        by_cases hlt : k < n1
        · have hltI : (k : Int) < n1 := by omega
          have hkl : k < la.length := by rw [HN1.out]; exact hlt
          obtain ⟨b, off, rfl, HRg⟩ := rowAcc (H1.out.fr hf (fun _ _ h => h)) hkl
          have hbl : b < wr.heap.size := World.block_lt_of_cell? _ _ (HRg 0 _ rfl)
          obtain ⟨x, hx⟩ : ∃ x, la[k] = x := ⟨_, rfl⟩
          rw [hx] at HRg
          have HRg := Lib.hid (show wr.rangeAt b (off + k * 14) (#[.int .u64 x.id.hi, .int .u64 x.id.lo, .int .u64 x.dp.hi, .int .u64 x.dp.lo, .int .u64 x.dq.hi, .int .u64 x.dq.lo, .int .u64 x.cp.hi, .int .u64 x.cp.lo, .int .u64 x.cq.hi, .int .u64 x.cq.lo, .int .i64 x.ledger, .int .i64 x.code, .int .i64 x.flags, .int .i64 x.stamp] : Array Value).toList from HRg)
          have HX := Lib.hid (all_succ (f := Acc.good) hkl hx)
          have HBk := Lib.hid (heap_alloc_new wr (.cells #[.int .u64 x.id.hi, .int .u64 x.id.lo, .int .u64 x.dp.hi, .int .u64 x.dp.lo, .int .u64 x.dq.hi, .int .u64 x.dq.lo, .int .u64 x.cp.hi, .int .u64 x.cp.lo, .int .u64 x.cq.hi, .int .u64 x.cq.lo, .int .i64 x.ledger, .int .i64 x.code, .int .i64 x.flags, .int .i64 x.stamp] 58))
          have FA := Lib.hid ((Fr.refl (fun _ => False) wr).alloc (.cells #[.int .u64 x.id.hi, .int .u64 x.id.lo, .int .u64 x.dp.hi, .int .u64 x.dp.lo, .int .u64 x.dq.hi, .int .u64 x.dq.lo, .int .u64 x.cp.hi, .int .u64 x.cp.lo, .int .u64 x.cq.hi, .int .u64 x.cq.lo, .int .i64 x.ledger, .int .i64 x.code, .int .i64 x.flags, .int .i64 x.stamp] 58))
          have HG := Lib.hid (refGood_any (wr.alloc (.cells #[.int .u64 x.id.hi, .int .u64 x.id.lo, .int .u64 x.dp.hi, .int .u64 x.dp.lo, .int .u64 x.dq.hi, .int .u64 x.dq.lo, .int .u64 x.cp.hi, .int .u64 x.cp.lo, .int .u64 x.cq.hi, .int .u64 x.cq.lo, .int .i64 x.ledger, .int .i64 x.code, .int .i64 x.flags, .int .i64 x.stamp] 58)) x)
          obtain ⟨gd, hgd⟩ : ∃ gd, x.good = gd := ⟨_, rfl⟩
          rw [hgd, show x.val = .agg #[.int .u64 x.id.hi, .int .u64 x.id.lo, .int .u64 x.dp.hi, .int .u64 x.dp.lo, .int .u64 x.dq.hi, .int .u64 x.dq.lo, .int .u64 x.cp.hi, .int .u64 x.cp.lo, .int .u64 x.cq.hi, .int .u64 x.cq.lo, .int .i64 x.ledger, .int .i64 x.code, .int .i64 x.flags, .int .i64 x.stamp] from rfl] at HG
          have HGd := Lib.hid hgd
          have HXe := Lib.hid hx
          have w1 : IntKind.i64.wrap ((k : Int) + 1) = k + 1 := IntWalk.i64_in _ (by omega)
          clear hall hf hx hgd
          cases gd
          · have HV := Lib.hid (show R = false from by rw [HV0.out, all_false (l := la) hkl rfl (by rw [HXe.out]; exact HGd.out)]; simp)
            go_wp2_with (first
              | ((with_reducible refine wpList_load_mid_w ?lw 58 _ rfl b (off + k * 14) rfl #[.int .u64 x.id.hi, .int .u64 x.id.lo, .int .u64 x.dp.hi, .int .u64 x.dp.lo, .int .u64 x.dq.hi, .int .u64 x.dq.lo, .int .u64 x.cp.hi, .int .u64 x.cp.lo, .int .u64 x.cq.hi, .int .u64 x.cq.lo, .int .i64 x.ledger, .int .i64 x.code, .int .i64 x.flags, .int .i64 x.stamp] _ HRg.out Try.underlying58 rfl rfl ?_); (case lw => rfl))
              | ((with_reducible refine wpList_load_row_w ?lw 58 _ rfl wr.heap.size rfl 58 _ _ _ HBk.out Try.underlying58 rfl rfl ?_); (case lw => rfl))
              | (go_at_call 24; go_must (with_reducible refine HG.out.mono ?_); rintro e w2 ⟨rfl, f2⟩; have F3 := Lib.hid f2; clear f2))
            go_ret
            exact ⟨by rw [HV.out]; rfl, (HF.out.then_ FA.out (fun _ h => h.elim)).then_ F3.out (fun _ h => h.elim)⟩
          · have HS := Lib.hid (show (la.take (k + 1)).all Acc.good = true from by rw [HX.out, HAll.out, HGd.out]; rfl)
            go_wp2_with (first
              | ((with_reducible refine wpList_load_mid_w ?lw 58 _ rfl b (off + k * 14) rfl #[.int .u64 x.id.hi, .int .u64 x.id.lo, .int .u64 x.dp.hi, .int .u64 x.dp.lo, .int .u64 x.dq.hi, .int .u64 x.dq.lo, .int .u64 x.cp.hi, .int .u64 x.cp.lo, .int .u64 x.cq.hi, .int .u64 x.cq.lo, .int .i64 x.ledger, .int .i64 x.code, .int .i64 x.flags, .int .i64 x.stamp] _ HRg.out Try.underlying58 rfl rfl ?_); (case lw => rfl))
              | ((with_reducible refine wpList_load_row_w ?lw 58 _ rfl wr.heap.size rfl 58 _ _ _ HBk.out Try.underlying58 rfl rfl ?_); (case lw => rfl))
              | (go_at_call 24; go_must (with_reducible refine HG.out.mono ?_); rintro e w2 ⟨rfl, f2⟩; have F3 := Lib.hid f2; clear f2))
            go_roundw
            case rel => first | exact ⟨k + 1, by omega, by go_num, HS.out, (HF.out.then_ FA.out (fun _ h => h.elim)).then_ F3.out (fun _ h => h.elim)⟩ | ((repeat apply Exists.intro); refine (fun a b => ⟨b, a⟩ : ∀ {P Q : Prop}, P → Q → Q ∧ P) ?_ ?_; (first | rfl | exact ⟨rfl, rfl⟩ | exact ⟨rfl, rfl, rfl⟩); exact ⟨k + 1, by omega, by go_num, (by first | exact HS.out | exact List.all_eq_true.1 HS.out), (HF.out.then_ FA.out (fun _ h => h.elim)).then_ F3.out (fun _ h => h.elim)⟩)
            case measure => simp [intOf]; omega
        · have hltI : ¬ (k : Int) < n1 := by omega
          have HA1 := Lib.hid (show la.all Acc.good = true from by have h := HAll.out; rwa [show la.take k = la from List.take_of_length_le (by have := HN1.out; omega)] at h)
          have F2 := Lib.hid HF.out

          clear hall hf
          go_wp2_with fail
          go_loopw [61] (fun i wr => ∃ k : Nat, k ≤ n2 ∧ i = .int .i64 k ∧ (lt.take k).all Tx.good = true ∧ Fr (fun _ => False) w wr) (fun i _ => ((n2 : Int) - intOf i).toNat)
          case atStart => exact ⟨0, Nat.zero_le _, rfl, rfl, F2.out⟩
          case round =>
            obtain ⟨k, hk, rfl, hall, hf⟩ := hrel
            have HAll := Lib.hid hall
            have HF := Lib.hid hf
            by_cases hlt : k < n2
            · have hltI : (k : Int) < n2 := by omega
              have hkl : k < lt.length := by rw [HN2.out]; exact hlt
              obtain ⟨b, off, rfl, HRg⟩ := rowTx (H2.out.fr hf (fun _ _ h => h)) hkl
              have hbl : b < wr.heap.size := World.block_lt_of_cell? _ _ (HRg 0 _ rfl)
              obtain ⟨x, hx⟩ : ∃ x, lt[k] = x := ⟨_, rfl⟩
              rw [hx] at HRg
              have HRg := Lib.hid (show wr.rangeAt b (off + k * 16) (#[.int .u64 x.id.hi, .int .u64 x.id.lo, .int .u64 x.debit.hi, .int .u64 x.debit.lo, .int .u64 x.credit.hi, .int .u64 x.credit.lo, .int .u64 x.amount.hi, .int .u64 x.amount.lo, .int .u64 x.pending.hi, .int .u64 x.pending.lo, .int .i64 x.timeout, .int .i64 x.ledger, .int .i64 x.code, .int .i64 x.flags, .int .i64 x.stamp, .int .i64 x.born] : Array Value).toList from HRg)
              have HX := Lib.hid (all_succ (f := Tx.good) hkl hx)
              have HBk := Lib.hid (heap_alloc_new wr (.cells #[.int .u64 x.id.hi, .int .u64 x.id.lo, .int .u64 x.debit.hi, .int .u64 x.debit.lo, .int .u64 x.credit.hi, .int .u64 x.credit.lo, .int .u64 x.amount.hi, .int .u64 x.amount.lo, .int .u64 x.pending.hi, .int .u64 x.pending.lo, .int .i64 x.timeout, .int .i64 x.ledger, .int .i64 x.code, .int .i64 x.flags, .int .i64 x.stamp, .int .i64 x.born] 61))
              have FA := Lib.hid ((Fr.refl (fun _ => False) wr).alloc (.cells #[.int .u64 x.id.hi, .int .u64 x.id.lo, .int .u64 x.debit.hi, .int .u64 x.debit.lo, .int .u64 x.credit.hi, .int .u64 x.credit.lo, .int .u64 x.amount.hi, .int .u64 x.amount.lo, .int .u64 x.pending.hi, .int .u64 x.pending.lo, .int .i64 x.timeout, .int .i64 x.ledger, .int .i64 x.code, .int .i64 x.flags, .int .i64 x.stamp, .int .i64 x.born] 61))
              have HG := Lib.hid (xrefGood_any (wr.alloc (.cells #[.int .u64 x.id.hi, .int .u64 x.id.lo, .int .u64 x.debit.hi, .int .u64 x.debit.lo, .int .u64 x.credit.hi, .int .u64 x.credit.lo, .int .u64 x.amount.hi, .int .u64 x.amount.lo, .int .u64 x.pending.hi, .int .u64 x.pending.lo, .int .i64 x.timeout, .int .i64 x.ledger, .int .i64 x.code, .int .i64 x.flags, .int .i64 x.stamp, .int .i64 x.born] 61)) x)
              obtain ⟨gd, hgd⟩ : ∃ gd, x.good = gd := ⟨_, rfl⟩
              rw [hgd, show x.val = .agg #[.int .u64 x.id.hi, .int .u64 x.id.lo, .int .u64 x.debit.hi, .int .u64 x.debit.lo, .int .u64 x.credit.hi, .int .u64 x.credit.lo, .int .u64 x.amount.hi, .int .u64 x.amount.lo, .int .u64 x.pending.hi, .int .u64 x.pending.lo, .int .i64 x.timeout, .int .i64 x.ledger, .int .i64 x.code, .int .i64 x.flags, .int .i64 x.stamp, .int .i64 x.born] from rfl] at HG
              have HGd := Lib.hid hgd
              have HXe := Lib.hid hx
              have w1 : IntKind.i64.wrap ((k : Int) + 1) = k + 1 := IntWalk.i64_in _ (by omega)
              clear hall hf hx hgd
              cases gd
              · have HV := Lib.hid (show R = false from by rw [HV0.out, all_false (l := lt) hkl rfl (by rw [HXe.out]; exact HGd.out)]; simp)
                go_wp2_with (first
                  | ((with_reducible refine wpList_load_mid_w ?lw 61 _ rfl b (off + k * 16) rfl #[.int .u64 x.id.hi, .int .u64 x.id.lo, .int .u64 x.debit.hi, .int .u64 x.debit.lo, .int .u64 x.credit.hi, .int .u64 x.credit.lo, .int .u64 x.amount.hi, .int .u64 x.amount.lo, .int .u64 x.pending.hi, .int .u64 x.pending.lo, .int .i64 x.timeout, .int .i64 x.ledger, .int .i64 x.code, .int .i64 x.flags, .int .i64 x.stamp, .int .i64 x.born] _ HRg.out Try.underlying61 rfl rfl ?_); (case lw => rfl))
                  | ((with_reducible refine wpList_load_row_w ?lw 61 _ rfl wr.heap.size rfl 61 _ _ _ HBk.out Try.underlying61 rfl rfl ?_); (case lw => rfl))
                  | (go_at_call 25; go_must (with_reducible refine HG.out.mono ?_); rintro e w2 ⟨rfl, f2⟩; have F3 := Lib.hid f2; clear f2))
                go_ret
                exact ⟨by rw [HV.out]; rfl, (HF.out.then_ FA.out (fun _ h => h.elim)).then_ F3.out (fun _ h => h.elim)⟩
              · have HS := Lib.hid (show (lt.take (k + 1)).all Tx.good = true from by rw [HX.out, HAll.out, HGd.out]; rfl)
                go_wp2_with (first
                  | ((with_reducible refine wpList_load_mid_w ?lw 61 _ rfl b (off + k * 16) rfl #[.int .u64 x.id.hi, .int .u64 x.id.lo, .int .u64 x.debit.hi, .int .u64 x.debit.lo, .int .u64 x.credit.hi, .int .u64 x.credit.lo, .int .u64 x.amount.hi, .int .u64 x.amount.lo, .int .u64 x.pending.hi, .int .u64 x.pending.lo, .int .i64 x.timeout, .int .i64 x.ledger, .int .i64 x.code, .int .i64 x.flags, .int .i64 x.stamp, .int .i64 x.born] _ HRg.out Try.underlying61 rfl rfl ?_); (case lw => rfl))
                  | ((with_reducible refine wpList_load_row_w ?lw 61 _ rfl wr.heap.size rfl 61 _ _ _ HBk.out Try.underlying61 rfl rfl ?_); (case lw => rfl))
                  | (go_at_call 25; go_must (with_reducible refine HG.out.mono ?_); rintro e w2 ⟨rfl, f2⟩; have F3 := Lib.hid f2; clear f2))
                go_roundw
                case rel => first | exact ⟨k + 1, by omega, by go_num, HS.out, (HF.out.then_ FA.out (fun _ h => h.elim)).then_ F3.out (fun _ h => h.elim)⟩ | ((repeat apply Exists.intro); refine (fun a b => ⟨b, a⟩ : ∀ {P Q : Prop}, P → Q → Q ∧ P) ?_ ?_; (first | rfl | exact ⟨rfl, rfl⟩ | exact ⟨rfl, rfl, rfl⟩); exact ⟨k + 1, by omega, by go_num, (by first | exact HS.out | exact List.all_eq_true.1 HS.out), (HF.out.then_ FA.out (fun _ h => h.elim)).then_ F3.out (fun _ h => h.elim)⟩)
                case measure => simp [intOf]; omega
            · have hltI : ¬ (k : Int) < n2 := by omega
              have HA2 := Lib.hid (show lt.all Tx.good = true from by have h := HAll.out; rwa [show lt.take k = lt from List.take_of_length_le (by have := HN2.out; omega)] at h)
              have F2 := Lib.hid HF.out

              clear hall hf
              have HV := Lib.hid (show R = true from by rw [HV0.out, HE.out, HA0.out, HA1.out, HA2.out]; rfl)
              go_wp2_with fail
              go_ret
              exact ⟨by rw [HV.out]; rfl, F2.out⟩
end Go.Proofs.Ytfmcimngogibkaa
