/- The document's Bytes of requests. -/
import Derived.Test.YtfmcimngogibkaaWrI
import Derived.Test.YtfmcimngogibkaaWrK
set_option linter.unusedSimpArgs false
set_option linter.unusedVariables false
namespace Go.Proofs.Ytfmcimngogibkaa
open Go.RowKit

theorem rflag_any (w : World) (b : Bool) : Calls Try.prog 50 #[.bool b] w fun e w' => e = .returned (.string (strOfNums (flb b))) ∧ Fr (fun _ => False) w w' := by
  cases b
  all_goals
    go_enter Try.func50, Try.ntmps50
    go_wp2_with fail
    go_ret
    exact ⟨rfl, Fr.refl _ _⟩

set_option maxRecDepth 4000 in
set_option maxHeartbeats 6400000 in
theorem rbytes_any (w : World) (op : Int) (a1 : Option Addr) (n1 c1 : Nat) (a2 : Option Addr) (n2 c2 : Nat) (now : Int) (a3 : Option Addr) (n3 c3 : Nat) (f : Flt) (la : List Acc) (lt : List Tx) (li : List Nm)
    (hn1 : la.length = n1) (hn2 : lt.length = n2) (hn3 : li.length = n3) (hb1 : n1 ≤ 1000) (hb2 : n2 ≤ 1000) (hb3 : n3 ≤ 1000) (h1 : Row w a1 (la.flatMap Acc.cells)) (h2 : Row w a2 (lt.flatMap Tx.cells)) (h3 : Row w a3 (li.flatMap Nm.cells))
    (ha : ∀ x ∈ la, x.ok) (ht : ∀ x ∈ lt, x.ok) (hi : ∀ x ∈ li, x.ok) (hfo : f.acct.ok) :
    Calls Try.prog 15 #[.agg #[.int .i64 op, .slice a1 n1 c1, .slice a2 n2 c2, .int .i64 now, .slice a3 n3 c3, .int .u64 f.acct.hi, .int .u64 f.acct.lo, .int .i64 f.from_, .int .i64 f.upto, .bool f.deb, .bool f.cre, .bool f.lat, .int .i64 f.lim]] w fun e w' => e = .returned (.string (strOfNums (reqBytes op la lt now li f))) ∧ Fr (fun _ => False) w w' := by
  have HBq := Lib.hid (heap_alloc_new w (.cells #[.int .i64 op, .slice a1 n1 c1, .slice a2 n2 c2, .int .i64 now, .slice a3 n3 c3, .int .u64 f.acct.hi, .int .u64 f.acct.lo, .int .i64 f.from_, .int .i64 f.upto, .bool f.deb, .bool f.cre, .bool f.lat, .int .i64 f.lim] 31))
  have FAq := Lib.hid ((Fr.refl (fun _ => False) w).alloc (.cells #[.int .i64 op, .slice a1 n1 c1, .slice a2 n2 c2, .int .i64 now, .slice a3 n3 c3, .int .u64 f.acct.hi, .int .u64 f.acct.lo, .int .i64 f.from_, .int .i64 f.upto, .bool f.deb, .bool f.cre, .bool f.lat, .int .i64 f.lim] 31))
  have HO := Lib.hid (by have h := refInt_any (w.alloc (.cells #[.int .i64 op, .slice a1 n1 c1, .slice a2 n2 c2, .int .i64 now, .slice a3 n3 c3, .int .u64 f.acct.hi, .int .u64 f.acct.lo, .int .i64 f.from_, .int .i64 f.upto, .bool f.deb, .bool f.cre, .bool f.lat, .int .i64 f.lim] 31)) 1 op; rwa [show clampN 1 = 1 from rfl] at h)
  have HR := Lib.hid (show reqBytes op la lt now li f = bytesOf op 1 ++ bodyBytes op la lt now li f from rfl)
  have H1 := Lib.hid h1
  have H2 := Lib.hid h2
  have H3r := Lib.hid h3
  have HN1 := Lib.hid hn1
  have HN2 := Lib.hid hn2
  have HN3 := Lib.hid hn3
  have HOa := Lib.hid ha
  have HOt := Lib.hid ht
  have HOi := Lib.hid hi
  have HOf := Lib.hid hfo
  have q0 := blk_cell HBq.out 0 rfl
  clear h1 h2 h3 hn1 hn2 hn3 ha ht hi hfo
  go_enter Try.func15, Try.ntmps15
  go_wp2_with fail
  refine HO.out.mono ?_
  rintro e w2 ⟨rfl, f2⟩
  have F2 := Lib.hid (FAq.out.then_ f2 (fun _ h => h.elim))
  have HB2 := Lib.hid (f2.blk HBq.out (fun h => h))
  have q0 := blk_cell HB2.out 0 rfl
  clear f2
  go_upto_block 0 with fail
  clear q0
  go_cut [3] from 16 (fun s w' => s = .string (strOfNums (bytesOf op 1 ++ bodyBytes op la lt now li f)) ∧ Fr (fun _ => False) w w')
  case first =>
    have q1 := blk_cell HB2.out 1 rfl
    have q2 := blk_cell HB2.out 2 rfl
    have q3 := blk_cell HB2.out 3 rfl
    have q4 := blk_cell HB2.out 4 rfl
    by_cases o1 : op = 1
    · have HV := Lib.hid (show bodyBytes op la lt now li f = bytesOf n1 1 ++ la.flatMap Acc.bytes from by rw [bodyBytes, if_pos o1, HN1.out])
      have HI := Lib.hid (fun W => by have h := refInt_any W 1 (n1 : Int); rwa [show clampN 1 = 1 from rfl] at h)
      have s1 : (strOfNums (bytesOf op 1)).size = 1 := by rw [strOfNums_size, blen]
      have s2 : (strOfNums (bytesOf (n1 : Int) 1)).size = 1 := by rw [strOfNums_size, blen]
      have hap := strOf_append (bytesOf op 1) (bytesOf (n1 : Int) 1)
      subst o1
      go_wp2_with (go_at_call 46; go_must (with_reducible refine (HI.out _).mono ?_); rintro e w3 ⟨rfl, f3⟩; have F3 := Lib.hid (F2.out.then_ f3 (fun _ h => h.elim)); have HB3 := Lib.hid (f3.blk HB2.out (fun h => h)); have q1 := blk_cell HB3.out 1 rfl; clear f3)
      clear s1 s2 hap
      go_loopw [45, 3] (fun i s wr => ∃ k : Nat, k ≤ n1 ∧ i = .int .i64 k ∧ s = .string (strOfNums (bytesOf 1 1 ++ bytesOf n1 1 ++ (la.take k).flatMap Acc.bytes)) ∧ Fr (fun _ => False) w wr) (fun i _ _ => ((n1 : Int) - intOf i).toNat)
      case atStart => exact ⟨0, Nat.zero_le _, rfl, by simp, F3.out⟩
      case round =>
        obtain ⟨k, hk, rfl, rfl, hf⟩ := hrel
        have HF := Lib.hid hf
        by_cases hlt : k < n1
        · have hltI : (k : Int) < n1 := by omega
          have hkl : k < la.length := by rw [HN1.out]; exact hlt
          obtain ⟨b, off, rfl, HRg⟩ := rowAcc (H1.out.fr hf (fun _ _ h => h)) hkl
          have hbl : b < wr.heap.size := World.block_lt_of_cell? _ _ (HRg 0 _ rfl)
          obtain ⟨x, hx⟩ : ∃ x, la[k] = x := ⟨_, rfl⟩
          rw [hx] at HRg
          have HX := Lib.hid (take_flat (f := Acc.bytes) hkl hx)
          have HRg := Lib.hid (show wr.rangeAt b (off + k * 14) (#[.int .u64 x.id.hi, .int .u64 x.id.lo, .int .u64 x.dp.hi, .int .u64 x.dp.lo, .int .u64 x.dq.hi, .int .u64 x.dq.lo, .int .u64 x.cp.hi, .int .u64 x.cp.lo, .int .u64 x.cq.hi, .int .u64 x.cq.lo, .int .i64 x.ledger, .int .i64 x.code, .int .i64 x.flags, .int .i64 x.stamp] : Array Value).toList from HRg)
          have HBk := Lib.hid (heap_alloc_new wr (.cells #[.int .u64 x.id.hi, .int .u64 x.id.lo, .int .u64 x.dp.hi, .int .u64 x.dp.lo, .int .u64 x.dq.hi, .int .u64 x.dq.lo, .int .u64 x.cp.hi, .int .u64 x.cp.lo, .int .u64 x.cq.hi, .int .u64 x.cq.lo, .int .i64 x.ledger, .int .i64 x.code, .int .i64 x.flags, .int .i64 x.stamp] 58))
          have FA := Lib.hid ((Fr.refl (fun _ => False) wr).alloc (.cells #[.int .u64 x.id.hi, .int .u64 x.id.lo, .int .u64 x.dp.hi, .int .u64 x.dp.lo, .int .u64 x.dq.hi, .int .u64 x.dq.lo, .int .u64 x.cp.hi, .int .u64 x.cp.lo, .int .u64 x.cq.hi, .int .u64 x.cq.lo, .int .i64 x.ledger, .int .i64 x.code, .int .i64 x.flags, .int .i64 x.stamp] 58))
          have HG := Lib.hid (refBytesOf_any (wr.alloc (.cells #[.int .u64 x.id.hi, .int .u64 x.id.lo, .int .u64 x.dp.hi, .int .u64 x.dp.lo, .int .u64 x.dq.hi, .int .u64 x.dq.lo, .int .u64 x.cp.hi, .int .u64 x.cp.lo, .int .u64 x.cq.hi, .int .u64 x.cq.lo, .int .i64 x.ledger, .int .i64 x.code, .int .i64 x.flags, .int .i64 x.stamp] 58)) x (HOa.out x (hx ▸ List.getElem_mem hkl)))
          rw [show x.val = .agg #[.int .u64 x.id.hi, .int .u64 x.id.lo, .int .u64 x.dp.hi, .int .u64 x.dp.lo, .int .u64 x.dq.hi, .int .u64 x.dq.lo, .int .u64 x.cp.hi, .int .u64 x.cp.lo, .int .u64 x.cq.hi, .int .u64 x.cq.lo, .int .i64 x.ledger, .int .i64 x.code, .int .i64 x.flags, .int .i64 x.stamp] from rfl] at HG
          have hlen := flat_take_len (f := Acc.bytes) (sz := 96) Acc.bytes_len la k (by omega)
          obtain ⟨L, hL⟩ : ∃ L, bytesOf 1 1 ++ bytesOf n1 1 ++ (la.take k).flatMap Acc.bytes = L := ⟨_, rfl⟩
          have HLe := Lib.hid hL
          have hLl : L.length ≤ 200000 := by rw [← hL, List.length_append, List.length_append, blen, blen, hlen]; omega
          rw [hL]
          have s1 := strOfNums_size L
          have s2 : (strOfNums (Acc.bytes x)).size = 96 := by rw [strOfNums_size, Acc.bytes_len]
          have hap := strOf_append L (Acc.bytes x)
          have w1 : IntKind.i64.wrap ((k : Int) + 1) = k + 1 := IntWalk.i64_in _ (by omega)
          clear hf hx hlen hL
          go_wp2_with (first
            | ((with_reducible refine wpList_load_mid_w ?lw 58 _ rfl b (off + k * 14) rfl #[.int .u64 x.id.hi, .int .u64 x.id.lo, .int .u64 x.dp.hi, .int .u64 x.dp.lo, .int .u64 x.dq.hi, .int .u64 x.dq.lo, .int .u64 x.cp.hi, .int .u64 x.cp.lo, .int .u64 x.cq.hi, .int .u64 x.cq.lo, .int .i64 x.ledger, .int .i64 x.code, .int .i64 x.flags, .int .i64 x.stamp] _ HRg.out Try.underlying58 rfl rfl ?_); (case lw => rfl))
            | ((with_reducible refine wpList_load_row_w ?lw 58 _ rfl wr.heap.size rfl 58 _ _ _ HBk.out Try.underlying58 rfl rfl ?_); (case lw => rfl))
            | (go_at_call 47; go_must (with_reducible refine HG.out.mono ?_); rintro e w2 ⟨rfl, f2⟩; have F3 := Lib.hid f2; clear f2))
          go_roundw
          case rel => exact ⟨k + 1, by omega, by go_num, by rw [HX.out, ← List.append_assoc, HLe.out], (HF.out.then_ FA.out (fun _ h => h.elim)).then_ F3.out (fun _ h => h.elim)⟩
          case measure => simp [intOf]; omega
        · have hltI : ¬ (k : Int) < n1 := by omega
          have e : la.take k = la := List.take_of_length_le (by have := HN1.out; omega)
          rw [e]
          clear hf e
          go_wp2_with fail
          go_meet
          exact ⟨by rw [HV.out, ← List.append_assoc], HF.out⟩
    by_cases o2 : op = 2
    · have HV := Lib.hid (show bodyBytes op la lt now li f = bytesOf n2 1 ++ lt.flatMap Tx.bytes from by rw [bodyBytes, if_neg o1, if_pos o2, HN2.out])
      have HI := Lib.hid (fun W => by have h := refInt_any W 1 (n2 : Int); rwa [show clampN 1 = 1 from rfl] at h)
      have s1 : (strOfNums (bytesOf op 1)).size = 1 := by rw [strOfNums_size, blen]
      have s2 : (strOfNums (bytesOf (n2 : Int) 1)).size = 1 := by rw [strOfNums_size, blen]
      have hap := strOf_append (bytesOf op 1) (bytesOf (n2 : Int) 1)
      subst o2
      go_wp2_with (go_at_call 46; go_must (with_reducible refine (HI.out _).mono ?_); rintro e w3 ⟨rfl, f3⟩; have F3 := Lib.hid (F2.out.then_ f3 (fun _ h => h.elim)); have HB3 := Lib.hid (f3.blk HB2.out (fun h => h)); have q2 := blk_cell HB3.out 2 rfl; clear f3)
      clear s1 s2 hap
      go_loopw [65, 3] (fun i s wr => ∃ k : Nat, k ≤ n2 ∧ i = .int .i64 k ∧ s = .string (strOfNums (bytesOf 2 1 ++ bytesOf n2 1 ++ (lt.take k).flatMap Tx.bytes)) ∧ Fr (fun _ => False) w wr) (fun i _ _ => ((n2 : Int) - intOf i).toNat)
      case atStart => exact ⟨0, Nat.zero_le _, rfl, by simp, F3.out⟩
      case round =>
        obtain ⟨k, hk, rfl, rfl, hf⟩ := hrel
        have HF := Lib.hid hf
        by_cases hlt : k < n2
        · have hltI : (k : Int) < n2 := by omega
          have hkl : k < lt.length := by rw [HN2.out]; exact hlt
          obtain ⟨b, off, rfl, HRg⟩ := rowTx (H2.out.fr hf (fun _ _ h => h)) hkl
          have hbl : b < wr.heap.size := World.block_lt_of_cell? _ _ (HRg 0 _ rfl)
          obtain ⟨x, hx⟩ : ∃ x, lt[k] = x := ⟨_, rfl⟩
          rw [hx] at HRg
          have HX := Lib.hid (take_flat (f := Tx.bytes) hkl hx)
          have HRg := Lib.hid (show wr.rangeAt b (off + k * 16) (#[.int .u64 x.id.hi, .int .u64 x.id.lo, .int .u64 x.debit.hi, .int .u64 x.debit.lo, .int .u64 x.credit.hi, .int .u64 x.credit.lo, .int .u64 x.amount.hi, .int .u64 x.amount.lo, .int .u64 x.pending.hi, .int .u64 x.pending.lo, .int .i64 x.timeout, .int .i64 x.ledger, .int .i64 x.code, .int .i64 x.flags, .int .i64 x.stamp, .int .i64 x.born] : Array Value).toList from HRg)
          have HBk := Lib.hid (heap_alloc_new wr (.cells #[.int .u64 x.id.hi, .int .u64 x.id.lo, .int .u64 x.debit.hi, .int .u64 x.debit.lo, .int .u64 x.credit.hi, .int .u64 x.credit.lo, .int .u64 x.amount.hi, .int .u64 x.amount.lo, .int .u64 x.pending.hi, .int .u64 x.pending.lo, .int .i64 x.timeout, .int .i64 x.ledger, .int .i64 x.code, .int .i64 x.flags, .int .i64 x.stamp, .int .i64 x.born] 61))
          have FA := Lib.hid ((Fr.refl (fun _ => False) wr).alloc (.cells #[.int .u64 x.id.hi, .int .u64 x.id.lo, .int .u64 x.debit.hi, .int .u64 x.debit.lo, .int .u64 x.credit.hi, .int .u64 x.credit.lo, .int .u64 x.amount.hi, .int .u64 x.amount.lo, .int .u64 x.pending.hi, .int .u64 x.pending.lo, .int .i64 x.timeout, .int .i64 x.ledger, .int .i64 x.code, .int .i64 x.flags, .int .i64 x.stamp, .int .i64 x.born] 61))
          have HG := Lib.hid (xrefBytesOf_any (wr.alloc (.cells #[.int .u64 x.id.hi, .int .u64 x.id.lo, .int .u64 x.debit.hi, .int .u64 x.debit.lo, .int .u64 x.credit.hi, .int .u64 x.credit.lo, .int .u64 x.amount.hi, .int .u64 x.amount.lo, .int .u64 x.pending.hi, .int .u64 x.pending.lo, .int .i64 x.timeout, .int .i64 x.ledger, .int .i64 x.code, .int .i64 x.flags, .int .i64 x.stamp, .int .i64 x.born] 61)) x (HOt.out x (hx ▸ List.getElem_mem hkl)))
          rw [show x.val = .agg #[.int .u64 x.id.hi, .int .u64 x.id.lo, .int .u64 x.debit.hi, .int .u64 x.debit.lo, .int .u64 x.credit.hi, .int .u64 x.credit.lo, .int .u64 x.amount.hi, .int .u64 x.amount.lo, .int .u64 x.pending.hi, .int .u64 x.pending.lo, .int .i64 x.timeout, .int .i64 x.ledger, .int .i64 x.code, .int .i64 x.flags, .int .i64 x.stamp, .int .i64 x.born] from rfl] at HG
          have hlen := flat_take_len (f := Tx.bytes) (sz := 108) Tx.bytes_len lt k (by omega)
          obtain ⟨L, hL⟩ : ∃ L, bytesOf 2 1 ++ bytesOf n2 1 ++ (lt.take k).flatMap Tx.bytes = L := ⟨_, rfl⟩
          have HLe := Lib.hid hL
          have hLl : L.length ≤ 200000 := by rw [← hL, List.length_append, List.length_append, blen, blen, hlen]; omega
          rw [hL]
          have s1 := strOfNums_size L
          have s2 : (strOfNums (Tx.bytes x)).size = 108 := by rw [strOfNums_size, Tx.bytes_len]
          have hap := strOf_append L (Tx.bytes x)
          have w1 : IntKind.i64.wrap ((k : Int) + 1) = k + 1 := IntWalk.i64_in _ (by omega)
          clear hf hx hlen hL
          go_wp2_with (first
            | ((with_reducible refine wpList_load_mid_w ?lw 61 _ rfl b (off + k * 16) rfl #[.int .u64 x.id.hi, .int .u64 x.id.lo, .int .u64 x.debit.hi, .int .u64 x.debit.lo, .int .u64 x.credit.hi, .int .u64 x.credit.lo, .int .u64 x.amount.hi, .int .u64 x.amount.lo, .int .u64 x.pending.hi, .int .u64 x.pending.lo, .int .i64 x.timeout, .int .i64 x.ledger, .int .i64 x.code, .int .i64 x.flags, .int .i64 x.stamp, .int .i64 x.born] _ HRg.out Try.underlying61 rfl rfl ?_); (case lw => rfl))
            | ((with_reducible refine wpList_load_row_w ?lw 61 _ rfl wr.heap.size rfl 61 _ _ _ HBk.out Try.underlying61 rfl rfl ?_); (case lw => rfl))
            | (go_at_call 48; go_must (with_reducible refine HG.out.mono ?_); rintro e w2 ⟨rfl, f2⟩; have F3 := Lib.hid f2; clear f2))
          go_roundw
          case rel => exact ⟨k + 1, by omega, by go_num, by rw [HX.out, ← List.append_assoc, HLe.out], (HF.out.then_ FA.out (fun _ h => h.elim)).then_ F3.out (fun _ h => h.elim)⟩
          case measure => simp [intOf]; omega
        · have hltI : ¬ (k : Int) < n2 := by omega
          have e : lt.take k = lt := List.take_of_length_le (by have := HN2.out; omega)
          rw [e]
          clear hf e
          go_wp2_with fail
          go_meet
          exact ⟨by rw [HV.out, ← List.append_assoc], HF.out⟩
    by_cases o3 : op = 3
    · have HV := Lib.hid (show bodyBytes op la lt now li f = bytesOf now 8 from by rw [bodyBytes, if_neg o1, if_neg o2, if_pos o3])
      have HI := Lib.hid (fun W => by have h := refInt_any W 8 now; rwa [show clampN 8 = 8 from rfl] at h)
      have s1 : (strOfNums (bytesOf op 1)).size = 1 := by rw [strOfNums_size, blen]
      have s2 : (strOfNums (bytesOf now 8)).size = 8 := by rw [strOfNums_size, blen]
      have hap := strOf_append (bytesOf op 1) (bytesOf now 8)
      subst o3
      go_wp2_with (go_at_call 46; go_must (refine (HI.out _).mono ?_); rintro e w3 ⟨rfl, f3⟩; have F3 := Lib.hid (F2.out.then_ f3 (fun _ h => h.elim)); clear f3)
      go_meet
      exact ⟨by rw [HV.out], F3.out⟩
    by_cases o6 : op = 6
    · have HV := Lib.hid (show bodyBytes op la lt now li f = f.bytes from by rw [bodyBytes, if_neg o1, if_neg o2, if_neg o3, if_pos o6])
      have HRg := Lib.hid (show w2.rangeAt w.heap.size 5 (#[.int .u64 f.acct.hi, .int .u64 f.acct.lo, .int .i64 f.from_, .int .i64 f.upto, .bool f.deb, .bool f.cre, .bool f.lat, .int .i64 f.lim] : Array Value).toList from fun j u hu => blk_cell HB2.out (5 + j) (by
        have hj := (List.getElem?_eq_some_iff.1 hu).1
        simp only [List.length_cons, List.length_nil] at hj
        rcases j with _ | _ | _ | _ | _ | _ | _ | _ | j
        all_goals first | exact hu | (exfalso; omega)))
      have N_ac := Lib.hid (fun W => refBytes_any W f.acct.hi f.acct.lo HOf.out.hi0 HOf.out.hi1 HOf.out.lo0 HOf.out.lo1)
      have N_from := Lib.hid (fun W => by have h := refInt_any W 8 f.from_; rwa [show clampN 8 = 8 from rfl] at h)
      have N_upto := Lib.hid (fun W => by have h := refInt_any W 8 f.upto; rwa [show clampN 8 = 8 from rfl] at h)
      have N_lim := Lib.hid (fun W => by have h := refInt_any W 1 f.lim; rwa [show clampN 1 = 1 from rfl] at h)
      have N_deb := Lib.hid (fun W => rflag_any W f.deb)
      have N_cre := Lib.hid (fun W => rflag_any W f.cre)
      have N_lat := Lib.hid (fun W => rflag_any W f.lat)
      have z0 : (strOfNums (bytesOf op 1)).size = 1 := by rw [strOfNums_size, blen]
      have z1 : (strOfNums (wideBytes f.acct.hi f.acct.lo)).size = 16 := by rw [strOfNums_size, wideBytes_len]
      have z2 : (strOfNums (bytesOf f.from_ 8)).size = 8 := by rw [strOfNums_size, blen]
      have z3 : (strOfNums (bytesOf f.upto 8)).size = 8 := by rw [strOfNums_size, blen]
      have z4 : (strOfNums (flb f.deb)).size = 1 := by rw [strOfNums_size]; rfl
      have z5 : (strOfNums (flb f.cre)).size = 1 := by rw [strOfNums_size]; rfl
      have z6 : (strOfNums (flb f.lat)).size = 1 := by rw [strOfNums_size]; rfl
      have z7 : (strOfNums (bytesOf f.lim 1)).size = 1 := by rw [strOfNums_size, blen]
      have hb := Lib.hid (show strOfNums (bytesOf op 1 ++ f.bytes) = strOfNums (bytesOf op 1) ++ strOfNums (wideBytes f.acct.hi f.acct.lo) ++ strOfNums (bytesOf f.from_ 8) ++ strOfNums (bytesOf f.upto 8) ++ strOfNums (flb f.deb) ++ strOfNums (flb f.cre) ++ strOfNums (flb f.lat) ++ strOfNums (bytesOf f.lim 1) from by simp only [Flt.bytes, ← strOf_append, ← List.append_assoc])
      have Ba := Lib.hid (heap_alloc_new w2 (.cells #[.int .u64 f.acct.hi, .int .u64 f.acct.lo, .int .i64 f.from_, .int .i64 f.upto, .bool f.deb, .bool f.cre, .bool f.lat, .int .i64 f.lim] 29))
      have FA := Lib.hid (F2.out.alloc (.cells #[.int .u64 f.acct.hi, .int .u64 f.acct.lo, .int .i64 f.from_, .int .i64 f.upto, .bool f.deb, .bool f.cre, .bool f.lat, .int .i64 f.lim] 29))
      obtain ⟨B, hBe⟩ : ∃ B, w2.heap.size = B := ⟨_, rfl⟩
      rw [hBe] at Ba
      have HBe := Lib.hid hBe
      subst o6
      go_upto_region 27 with ((with_reducible refine wpList_load_mid_w ?lw 29 _ rfl w.heap.size 5 rfl #[.int .u64 f.acct.hi, .int .u64 f.acct.lo, .int .i64 f.from_, .int .i64 f.upto, .bool f.deb, .bool f.cre, .bool f.lat, .int .i64 f.lim] _ HRg.out Try.underlying29 rfl rfl ?_); (case lw => rfl))
      clear hBe
      have a0 := blk_cell Ba.out 0 rfl; have a1' := blk_cell Ba.out 1 rfl; have a2' := blk_cell Ba.out 2 rfl; have a3' := blk_cell Ba.out 3 rfl; have a4 := blk_cell Ba.out 4 rfl; have a5 := blk_cell Ba.out 5 rfl; have a6 := blk_cell Ba.out 6 rfl; have a7 := blk_cell Ba.out 7 rfl
      go_region_held3 (fun w' => w'.cell? ⟨B, 0, none⟩ = some (Value.int .u64 f.acct.hi) ∧ w'.cell? ⟨B, 1, none⟩ = some (Value.int .u64 f.acct.lo) ∧ w'.cell? ⟨B, 2, none⟩ = some (Value.int .i64 f.from_) ∧ w'.cell? ⟨B, 3, none⟩ = some (Value.int .i64 f.upto) ∧ w'.cell? ⟨B, 4, none⟩ = some (Value.bool f.deb) ∧ w'.cell? ⟨B, 5, none⟩ = some (Value.bool f.cre) ∧ w'.cell? ⟨B, 6, none⟩ = some (Value.bool f.lat) ∧ w'.cell? ⟨B, 7, none⟩ = some (Value.int .i64 f.lim))
        (first | go_keep | exact ⟨a0, a1', a2', a3', a4, a5, a6, a7⟩)
        (first
          | (go_at_call 49; refine (N_ac.out _).mono ?_; rintro e w3 ⟨rfl, f3⟩; have Ba := Lib.hid (f3.blk (blk_drew Ba.out) (fun h => h)); have FA := Lib.hid (FA.out.then_ (S2 := fun _ => False) (Fr.then_ (S2 := fun _ => False) (by repeat (first | (with_reducible exact Fr.refl _ _) | (with_reducible refine Fr.drew ?_) | (with_reducible refine Fr.drewN ?_ _) | (with_reducible refine Fr.alloc ?_ _) | (with_reducible refine Fr.set1 ?_ _) | (with_reducible refine Fr.setNew ?_ (by omega) _))) f3 (fun _ h => h.elim)) (fun _ h => h.elim)); have a0 := blk_cell Ba.out 0 rfl; have a1' := blk_cell Ba.out 1 rfl; have a2' := blk_cell Ba.out 2 rfl; have a3' := blk_cell Ba.out 3 rfl; have a4 := blk_cell Ba.out 4 rfl; have a5 := blk_cell Ba.out 5 rfl; have a6 := blk_cell Ba.out 6 rfl; have a7 := blk_cell Ba.out 7 rfl; clear f3)
          | (go_at_call 46; (first | (with_reducible refine (N_from.out _).mono ?_; rintro e w3 ⟨rfl, f3⟩; have Ba := Lib.hid (f3.blk (blk_drew Ba.out) (fun h => h)); have FA := Lib.hid (FA.out.then_ (S2 := fun _ => False) (Fr.then_ (S2 := fun _ => False) (by repeat (first | (with_reducible exact Fr.refl _ _) | (with_reducible refine Fr.drew ?_) | (with_reducible refine Fr.drewN ?_ _) | (with_reducible refine Fr.alloc ?_ _) | (with_reducible refine Fr.set1 ?_ _) | (with_reducible refine Fr.setNew ?_ (by omega) _))) f3 (fun _ h => h.elim)) (fun _ h => h.elim)); have a0 := blk_cell Ba.out 0 rfl; have a1' := blk_cell Ba.out 1 rfl; have a2' := blk_cell Ba.out 2 rfl; have a3' := blk_cell Ba.out 3 rfl; have a4 := blk_cell Ba.out 4 rfl; have a5 := blk_cell Ba.out 5 rfl; have a6 := blk_cell Ba.out 6 rfl; have a7 := blk_cell Ba.out 7 rfl; clear f3) | (with_reducible refine (N_upto.out _).mono ?_; rintro e w3 ⟨rfl, f3⟩; have Ba := Lib.hid (f3.blk (blk_drew Ba.out) (fun h => h)); have FA := Lib.hid (FA.out.then_ (S2 := fun _ => False) (Fr.then_ (S2 := fun _ => False) (by repeat (first | (with_reducible exact Fr.refl _ _) | (with_reducible refine Fr.drew ?_) | (with_reducible refine Fr.drewN ?_ _) | (with_reducible refine Fr.alloc ?_ _) | (with_reducible refine Fr.set1 ?_ _) | (with_reducible refine Fr.setNew ?_ (by omega) _))) f3 (fun _ h => h.elim)) (fun _ h => h.elim)); have a0 := blk_cell Ba.out 0 rfl; have a1' := blk_cell Ba.out 1 rfl; have a2' := blk_cell Ba.out 2 rfl; have a3' := blk_cell Ba.out 3 rfl; have a4 := blk_cell Ba.out 4 rfl; have a5 := blk_cell Ba.out 5 rfl; have a6 := blk_cell Ba.out 6 rfl; have a7 := blk_cell Ba.out 7 rfl; clear f3) | (with_reducible refine (N_lim.out _).mono ?_; rintro e w3 ⟨rfl, f3⟩; have Ba := Lib.hid (f3.blk (blk_drew Ba.out) (fun h => h)); have FA := Lib.hid (FA.out.then_ (S2 := fun _ => False) (Fr.then_ (S2 := fun _ => False) (by repeat (first | (with_reducible exact Fr.refl _ _) | (with_reducible refine Fr.drew ?_) | (with_reducible refine Fr.drewN ?_ _) | (with_reducible refine Fr.alloc ?_ _) | (with_reducible refine Fr.set1 ?_ _) | (with_reducible refine Fr.setNew ?_ (by omega) _))) f3 (fun _ h => h.elim)) (fun _ h => h.elim)); have a0 := blk_cell Ba.out 0 rfl; have a1' := blk_cell Ba.out 1 rfl; have a2' := blk_cell Ba.out 2 rfl; have a3' := blk_cell Ba.out 3 rfl; have a4 := blk_cell Ba.out 4 rfl; have a5 := blk_cell Ba.out 5 rfl; have a6 := blk_cell Ba.out 6 rfl; have a7 := blk_cell Ba.out 7 rfl; clear f3)))
          | (go_at_call 50; (first | (with_reducible refine (N_deb.out _).mono ?_; rintro e w3 ⟨rfl, f3⟩; have Ba := Lib.hid (f3.blk (blk_drew Ba.out) (fun h => h)); have FA := Lib.hid (FA.out.then_ (S2 := fun _ => False) (Fr.then_ (S2 := fun _ => False) (by repeat (first | (with_reducible exact Fr.refl _ _) | (with_reducible refine Fr.drew ?_) | (with_reducible refine Fr.drewN ?_ _) | (with_reducible refine Fr.alloc ?_ _) | (with_reducible refine Fr.set1 ?_ _) | (with_reducible refine Fr.setNew ?_ (by omega) _))) f3 (fun _ h => h.elim)) (fun _ h => h.elim)); have a0 := blk_cell Ba.out 0 rfl; have a1' := blk_cell Ba.out 1 rfl; have a2' := blk_cell Ba.out 2 rfl; have a3' := blk_cell Ba.out 3 rfl; have a4 := blk_cell Ba.out 4 rfl; have a5 := blk_cell Ba.out 5 rfl; have a6 := blk_cell Ba.out 6 rfl; have a7 := blk_cell Ba.out 7 rfl; clear f3) | (with_reducible refine (N_cre.out _).mono ?_; rintro e w3 ⟨rfl, f3⟩; have Ba := Lib.hid (f3.blk (blk_drew Ba.out) (fun h => h)); have FA := Lib.hid (FA.out.then_ (S2 := fun _ => False) (Fr.then_ (S2 := fun _ => False) (by repeat (first | (with_reducible exact Fr.refl _ _) | (with_reducible refine Fr.drew ?_) | (with_reducible refine Fr.drewN ?_ _) | (with_reducible refine Fr.alloc ?_ _) | (with_reducible refine Fr.set1 ?_ _) | (with_reducible refine Fr.setNew ?_ (by omega) _))) f3 (fun _ h => h.elim)) (fun _ h => h.elim)); have a0 := blk_cell Ba.out 0 rfl; have a1' := blk_cell Ba.out 1 rfl; have a2' := blk_cell Ba.out 2 rfl; have a3' := blk_cell Ba.out 3 rfl; have a4 := blk_cell Ba.out 4 rfl; have a5 := blk_cell Ba.out 5 rfl; have a6 := blk_cell Ba.out 6 rfl; have a7 := blk_cell Ba.out 7 rfl; clear f3) | (with_reducible refine (N_lat.out _).mono ?_; rintro e w3 ⟨rfl, f3⟩; have Ba := Lib.hid (f3.blk (blk_drew Ba.out) (fun h => h)); have FA := Lib.hid (FA.out.then_ (S2 := fun _ => False) (Fr.then_ (S2 := fun _ => False) (by repeat (first | (with_reducible exact Fr.refl _ _) | (with_reducible refine Fr.drew ?_) | (with_reducible refine Fr.drewN ?_ _) | (with_reducible refine Fr.alloc ?_ _) | (with_reducible refine Fr.set1 ?_ _) | (with_reducible refine Fr.setNew ?_ (by omega) _))) f3 (fun _ h => h.elim)) (fun _ h => h.elim)); have a0 := blk_cell Ba.out 0 rfl; have a1' := blk_cell Ba.out 1 rfl; have a2' := blk_cell Ba.out 2 rfl; have a3' := blk_cell Ba.out 3 rfl; have a4 := blk_cell Ba.out 4 rfl; have a5 := blk_cell Ba.out 5 rfl; have a6 := blk_cell Ba.out 6 rfl; have a7 := blk_cell Ba.out 7 rfl; clear f3))))
      go_wp2_with fail
      go_meet
      exact ⟨by rw [HV.out, hb.out], FA.out⟩
    · have HV := Lib.hid (show bodyBytes op la lt now li f = bytesOf n3 1 ++ li.flatMap Nm.bytes from by rw [bodyBytes, if_neg o1, if_neg o2, if_neg o3, if_neg o6, HN3.out])
      have HI := Lib.hid (fun W => by have h := refInt_any W 1 (n3 : Int); rwa [show clampN 1 = 1 from rfl] at h)
      have s1 : (strOfNums (bytesOf op 1)).size = 1 := by rw [strOfNums_size, blen]
      have s2 : (strOfNums (bytesOf (n3 : Int) 1)).size = 1 := by rw [strOfNums_size, blen]
      have hap := strOf_append (bytesOf op 1) (bytesOf (n3 : Int) 1)
      have k1 : (op == 1) = false := by simpa using o1
      have k2 : (op == 2) = false := by simpa using o2
      have k3 : (op == 3) = false := by simpa using o3
      have k6 : (op == 6) = false := by simpa using o6
      go_wp2_with (go_at_call 46; go_must (with_reducible refine (HI.out _).mono ?_); rintro e w3 ⟨rfl, f3⟩; have F3 := Lib.hid (F2.out.then_ f3 (fun _ h => h.elim)); have HB3 := Lib.hid (f3.blk HB2.out (fun h => h)); have q4 := blk_cell HB3.out 4 rfl; clear f3)
      clear s1 s2 hap
      go_loopw [25, 3] (fun i s wr => ∃ k : Nat, k ≤ n3 ∧ i = .int .i64 k ∧ s = .string (strOfNums (bytesOf op 1 ++ bytesOf n3 1 ++ (li.take k).flatMap Nm.bytes)) ∧ Fr (fun _ => False) w wr) (fun i _ _ => ((n3 : Int) - intOf i).toNat)
      case atStart => exact ⟨0, Nat.zero_le _, rfl, by simp, F3.out⟩
      case round =>
        obtain ⟨k, hk, rfl, rfl, hf⟩ := hrel
        have HF := Lib.hid hf
        by_cases hlt : k < n3
        · have hltI : (k : Int) < n3 := by omega
          have hkl : k < li.length := by rw [HN3.out]; exact hlt
          obtain ⟨b, off, rfl, HRg⟩ := rowNm (H3r.out.fr hf (fun _ _ h => h)) hkl
          have hbl : b < wr.heap.size := World.block_lt_of_cell? _ _ (HRg 0 _ rfl)
          obtain ⟨x, hx⟩ : ∃ x, li[k] = x := ⟨_, rfl⟩
          rw [hx] at HRg
          have HX := Lib.hid (take_flat (f := Nm.bytes) hkl hx)
          have HRg := Lib.hid (show wr.rangeAt b (off + k * 2) (#[.int .u64 x.hi, .int .u64 x.lo] : Array Value).toList from HRg)
          have HBk := Lib.hid (heap_alloc_new wr (.cells #[.int .u64 x.hi, .int .u64 x.lo] 27))
          have FA := Lib.hid ((Fr.refl (fun _ => False) wr).alloc (.cells #[.int .u64 x.hi, .int .u64 x.lo] 27))
          have HG := Lib.hid (refBytes_any (wr.alloc (.cells #[.int .u64 x.hi, .int .u64 x.lo] 27)) x.hi x.lo (HOi.out x (hx ▸ List.getElem_mem hkl)).hi0 (HOi.out x (hx ▸ List.getElem_mem hkl)).hi1 (HOi.out x (hx ▸ List.getElem_mem hkl)).lo0 (HOi.out x (hx ▸ List.getElem_mem hkl)).lo1)
          rw [show wideBytes x.hi x.lo = Nm.bytes x from rfl] at HG
          have hlen := flat_take_len (f := Nm.bytes) (sz := 16) Nm.bytes_len li k (by omega)
          obtain ⟨L, hL⟩ : ∃ L, bytesOf op 1 ++ bytesOf n3 1 ++ (li.take k).flatMap Nm.bytes = L := ⟨_, rfl⟩
          have HLe := Lib.hid hL
          have hLl : L.length ≤ 200000 := by rw [← hL, List.length_append, List.length_append, blen, blen, hlen]; omega
          rw [hL]
          have s1 := strOfNums_size L
          have s2 : (strOfNums (Nm.bytes x)).size = 16 := by rw [strOfNums_size, Nm.bytes_len]
          have hap := strOf_append L (Nm.bytes x)
          have w1 : IntKind.i64.wrap ((k : Int) + 1) = k + 1 := IntWalk.i64_in _ (by omega)
          clear hf hx hlen hL
          go_wp2_with (first
            | ((with_reducible refine wpList_load_mid_w ?lw 27 _ rfl b (off + k * 2) rfl #[.int .u64 x.hi, .int .u64 x.lo] _ HRg.out Try.underlying27 rfl rfl ?_); (case lw => rfl))
            | ((with_reducible refine wpList_load_row_w ?lw 27 _ rfl wr.heap.size rfl 27 _ _ _ HBk.out Try.underlying27 rfl rfl ?_); (case lw => rfl))
            | (go_at_call 49; go_must (with_reducible refine HG.out.mono ?_); rintro e w2 ⟨rfl, f2⟩; have F3 := Lib.hid f2; clear f2))
          go_roundw
          case rel => exact ⟨k + 1, by omega, by go_num, by rw [HX.out, ← List.append_assoc, HLe.out], (HF.out.then_ FA.out (fun _ h => h.elim)).then_ F3.out (fun _ h => h.elim)⟩
          case measure => simp [intOf]; omega
        · have hltI : ¬ (k : Int) < n3 := by omega
          have e : li.take k = li := List.take_of_length_le (by have := HN3.out; omega)
          rw [e]
          clear hf e
          go_wp2_with fail
          go_meet
          exact ⟨by rw [HV.out, ← List.append_assoc], HF.out⟩
  case rest =>
  obtain ⟨rfl, hf⟩ := hcut
  have HF := Lib.hid hf
  clear hf
  go_wp2_with fail
  go_ret
  exact ⟨by rw [HR.out]; rfl, HF.out⟩
end Go.Proofs.Ytfmcimngogibkaa
