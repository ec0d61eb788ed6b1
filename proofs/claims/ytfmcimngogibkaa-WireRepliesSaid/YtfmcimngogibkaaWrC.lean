/- many: the walks. -/
import Derived.Test.YtfmcimngogibkaaWrB
set_option linter.unusedSimpArgs false
set_option linter.unusedVariables false
namespace Go.Proofs.Ytfmcimngogibkaa
open Go.RowKit

def Tx.cells (x : Tx) : List Value := [.int .u64 x.id.hi, .int .u64 x.id.lo, .int .u64 x.debit.hi, .int .u64 x.debit.lo, .int .u64 x.credit.hi, .int .u64 x.credit.lo, .int .u64 x.amount.hi, .int .u64 x.amount.lo, .int .u64 x.pending.hi, .int .u64 x.pending.lo, .int .i64 x.timeout, .int .i64 x.ledger, .int .i64 x.code, .int .i64 x.flags, .int .i64 x.stamp, .int .i64 x.born]
theorem Acc.one (x : Acc) : ∀ u ∈ x.cells, u.oneCell' = true := by simp [Acc.cells, Value.oneCell']
theorem Tx.one (x : Tx) : ∀ u ∈ x.cells, u.oneCell' = true := by simp [Tx.cells, Value.oneCell']
theorem Nm.one (x : Nm) : ∀ u ∈ x.cells, u.oneCell' = true := by simp [Nm.cells, Value.oneCell']
def iCells (x : Int) : List Value := [.int .i64 x]
theorem iOne (x : Int) : ∀ u ∈ iCells x, u.oneCell' = true := by simp [iCells, Value.oneCell']
def Nm.val (x : Nm) : Value := .agg #[.int .u64 x.hi, .int .u64 x.lo]
def iVal (x : Int) : Value := .int .i64 x
theorem Try.infoAcc : (Try.prog.info? 58).map (fun i => (i.zero, i.size, i.bytes)) = some (some Acc.none.val, 14, 112) := by kernel_rfl
theorem Try.infoTx : (Try.prog.info? 61).map (fun i => (i.zero, i.size, i.bytes)) = some (some Tx.none.val, 16, 128) := by kernel_rfl
theorem Try.infoNm : (Try.prog.info? 27).map (fun i => (i.zero, i.size, i.bytes)) = some (some (Nm.val ⟨0, 0⟩), 2, 16) := by kernel_rfl
theorem Try.infoRes : (Try.prog.info? 90).map (fun i => (i.zero, i.size, i.bytes)) = some (some (iVal 0), 1, 8) := by kernel_rfl
theorem wrap_small {x : Int} (h0 : 0 ≤ x) (h1 : x ≤ 255) : wrap64 x = x := by unfold wrap64; omega
theorem cnt_wrap {s : RS} (h : Bytes s.1) : wrap64 (le (rdV s 1)) = (cntR s : Int) ∧ cntR s ≤ 255 := by
  have := cnt_le h
  rw [wrap_small this.1 this.2, cntR]
  omega
theorem getAcc (w : World) (g : Nat) (s : RS) (h : IsR w g s.1 s.2) (hB : Bytes s.1) :
    Calls Try.prog 39 #[.pointer (some ⟨g, 0, none⟩)] w fun e w' => e = .returned (Acc.took s).val ∧ IsR w' g (Acc.left s).1 (Acc.left s).2 ∧ Fr (fun k => k = g) w w' := by
  refine (get_any w g s h hB).mono ?_
  rintro e w' ⟨rfl, h2, h3⟩
  refine ⟨?_, h2, h3⟩
  unfold Acc.took
  split <;> rfl
theorem getTx (w : World) (g : Nat) (s : RS) (h : IsR w g s.1 s.2) (hB : Bytes s.1) :
    Calls Try.prog 41 #[.pointer (some ⟨g, 0, none⟩)] w fun e w' => e = .returned (Tx.took s).val ∧ IsR w' g (Tx.left s).1 (Tx.left s).2 ∧ Fr (fun k => k = g) w w' := by
  refine (xget_any w g s h hB).mono ?_
  rintro e w' ⟨rfl, h2, h3⟩
  refine ⟨?_, h2, h3⟩
  unfold Tx.took
  split <;> rfl
theorem getNum (w : World) (g : Nat) (s : RS) (h : IsR w g s.1 s.2) (hB : Bytes s.1) :
    Calls Try.prog 42 #[.pointer (some ⟨g, 0, none⟩)] w fun e w' => e = .returned (Nm.took s).val ∧ IsR w' g (Nm.left s).1 (Nm.left s).2 ∧ Fr (fun k => k = g) w w' := rNum_tot w g s h hB
theorem getRes (w : World) (g : Nat) (s : RS) (h : IsR w g s.1 s.2) (hB : Bytes s.1) :
    Calls Try.prog 52 #[.pointer (some ⟨g, 0, none⟩)] w fun e w' => e = .returned (iVal (iTook s)) ∧ IsR w' g (iLeft s).1 (iLeft s).2 ∧ Fr (fun k => k = g) w w' := by
  have HI := Lib.hid (rInt_tot w g s 1 h hB (by omega))
  have hv : wrap64 (le (rdV s 1)) = iTook s := by
    have := cnt_le hB
    exact wrap_small this.1 this.2
  rw [hv] at HI
  clear h hB hv
  go_enter Try.func52, Try.ntmps52
  go_wp2_with fail
  refine HI.out.mono ?_
  rintro e w2 ⟨rfl, h2, f2⟩
  have H2 := Lib.hid h2
  have F2 := Lib.hid f2
  clear h2 f2
  go_wp2_with fail
  go_ret
  exact ⟨rfl, H2.out, F2.out⟩
theorem left_bytes_Acc (s : RS) (h : Bytes s.1) : Bytes (Acc.left s).1 := rdAll_bytes _ _ h
theorem left_bytes_Tx (s : RS) (h : Bytes s.1) : Bytes (Tx.left s).1 := rdAll_bytes _ _ h
theorem left_bytes_Nm (s : RS) (h : Bytes s.1) : Bytes (Nm.left s).1 := rdS_bytes _ h
theorem left_bytes_Res (s : RS) (h : Bytes s.1) : Bytes (iLeft s).1 := rdS_bytes _ h

theorem cells_len_Acc : ∀ x, (Acc.cells x).length = 14 := fun _ => rfl
set_option maxRecDepth 4000 in
set_option maxHeartbeats 1600000 in
theorem many_Acc (w : World) (g : Nat) (s : RS) (h : IsR w g s.1 s.2) (hB : Bytes s.1) :
    Calls Try.prog 38 #[.pointer (some ⟨g, 0, none⟩), .func (.func 39) #[] #[]] w fun e w' => ∃ v, e = .returned v ∧ w'.ownsRow 0 58 14 v (manyR Acc.left Acc.took s).1.length ((manyR Acc.left Acc.took s).1.flatMap Acc.cells) ∧ (∀ k, v.ownBlock = some k → w.heap.size ≤ k) ∧ IsR w' g (manyR Acc.left Acc.took s).2.1 (manyR Acc.left Acc.took s).2.2 ∧ Fr (fun k => k = g) w w' := by
  obtain ⟨i0, hi0, hz0, hz1, hz2⟩ := info_parts Try.infoAcc
  have HI := Lib.hid (rInt_tot w g s 1 h hB (by omega))
  obtain ⟨hc, hn⟩ := cnt_wrap hB
  have HS0 := Lib.hid (rdS_bytes 1 hB)
  have Hg := Lib.hid (show g < w.heap.size from blk_lt h)
  have HM := Lib.hid (show manyR Acc.left Acc.took s = itM Acc.left Acc.took (cntR s) ([], rdS s 1) from rfl)
  rw [hc] at HI
  obtain ⟨n, hnn⟩ : ∃ n, cntR s = n := ⟨_, rfl⟩
  obtain ⟨s1, hs1⟩ : ∃ s1, rdS s 1 = s1 := ⟨_, rfl⟩
  rw [hnn] at HI hn HM
  rw [hs1] at HI HS0 HM
  obtain ⟨R, hR⟩ : ∃ R, manyR Acc.left Acc.took s = R := ⟨_, rfl⟩
  rw [hR] at HM ⊢
  clear h hB hc hnn hs1 hR
  go_enter Try.func38, Try.ntmps38
  go_wp2_with fail
  refine HI.out.mono ?_
  rintro e w1 ⟨rfl, r1, f1⟩
  have R1 := Lib.hid r1
  have F1 := Lib.hid f1
  clear r1 f1
  go_wp2_with fail
  go_loopw [8, 5] (fun i v wr => ∃ k : Nat, k ≤ n ∧ i = .int .i64 k ∧ wr.ownsRow 0 58 14 v (itM Acc.left Acc.took k ([], s1)).1.length ((itM Acc.left Acc.took k ([], s1)).1.flatMap Acc.cells) ∧ (∀ m, v.ownBlock = some m → w.heap.size ≤ m) ∧ IsR wr g (itM Acc.left Acc.took k ([], s1)).2.1 (itM Acc.left Acc.took k ([], s1)).2.2 ∧ Fr (fun m => m = g) w wr) (fun i _ _ => ((n : Int) - intOf i).toNat)
  case atStart => exact ⟨0, Nat.zero_le _, rfl, World.ownsRow_nil _ _ _ _, fun k hk => by simp [Value.ownBlock] at hk, R1.out, F1.out⟩
  case round =>
    obtain ⟨k, hk, rfl, ov, hge, hr, hf⟩ := hrel
    have HV := Lib.hid ov
    have HGe := Lib.hid hge
    have HRr := Lib.hid hr
    have HF := Lib.hid hf
    have HSt := Lib.hid (show itM Acc.left Acc.took (k + 1) ([], s1) = stM Acc.left Acc.took (itM Acc.left Acc.took k ([], s1)) from rfl)
    have hlen := itM_len (lf := Acc.left) (gt := Acc.took) (p := ([], s1)) k
    have HBy := Lib.hid (itM_bytes (lf := Acc.left) (gt := Acc.took) (p := ([], s1)) left_bytes_Acc HS0.out k)
    have HTn := Lib.hid (fun h => itM_torn (lf := Acc.left) (gt := Acc.took) (p := ([], s1)) hk h)
    have HKn := Lib.hid (show k = n → itM Acc.left Acc.took n ([], s1) = itM Acc.left Acc.took k ([], s1) from fun e => by rw [e])
    obtain ⟨p, hp⟩ : ∃ p, itM Acc.left Acc.took k ([], s1) = p := ⟨_, rfl⟩
    rw [hp] at HV HRr HSt hlen HBy HTn HKn
    obtain ⟨xs, l, t⟩ := p
    obtain ⟨m, hm⟩ : ∃ m, xs.length = m := ⟨_, rfl⟩
    have hm2 : m ≤ 255 := by
      have h0 : xs.length ≤ ([] : List Acc).length + k := hlen
      rw [List.length_nil] at h0
      omega
    clear hp ov hge hr hf hlen
    by_cases hlt : k < n
    · have hltI : (k : Int) < n := by omega
      cases t with
      | true =>
        go_wp2_with (go_at_call 59; go_must (with_reducible refine (rTorn_any _ g l true HRr.out).mono ?_); rintro e w2 ⟨rfl, rfl⟩)
        go_ret
        refine ⟨u5, rfl, ?_⟩
        rw [HM.out, HTn.out trivial]
        exact ⟨HV.out, HGe.out, HRr.out, HF.out⟩
      | false =>
        have HG := Lib.hid (getAcc wr g (l, false) HRr.out HBy.out)
        obtain ⟨x, hx⟩ : ∃ x, Acc.took (l, false) = x := ⟨_, rfl⟩
        rw [hx, show x.val = .agg #[.int .u64 x.id.hi, .int .u64 x.id.lo, .int .u64 x.dp.hi, .int .u64 x.dp.lo, .int .u64 x.dq.hi, .int .u64 x.dq.lo, .int .u64 x.cp.hi, .int .u64 x.cp.lo, .int .u64 x.cq.hi, .int .u64 x.cq.lo, .int .i64 x.ledger, .int .i64 x.code, .int .i64 x.flags, .int .i64 x.stamp] from rfl] at HG
        have HX := Lib.hid (show stM Acc.left Acc.took (xs, (l, false)) = (xs ++ [x], Acc.left (l, false)) from by simp only [stM, hx]; rfl)
        have Hm := Lib.hid hm
        have HVm := Lib.hid (show wr.ownsRow 0 58 14 u5 m (xs.flatMap Acc.cells) from hm ▸ HV.out)
        clear hx hm
        go_wp2_with (first
          | (go_at_call 59; go_must (with_reducible refine (rTorn_any _ g l false HRr.out).mono ?_); rintro e w2 ⟨rfl, rfl⟩)
          | (go_at_call 39; go_must (with_reducible refine HG.out.mono ?_); rintro e w2 ⟨rfl, r2, f2⟩; have R2 := Lib.hid r2; have F2 := Lib.hid f2; have HV2 := Lib.hid (own_fr HVm.out f2 (fun k hk h => by have := HGe.out k hk; have h : k = g := h; have := Hg.out; omega)); clear r2 f2)
          | (at_builtin; go_must (refine wpList_append_fresh _ w2 rfl (.tmp 12) (.tmp 16) 22 rfl 58 i0 Acc.none.val 14 112 Try.underlying22 hi0 hz0 hz1 hz2 rfl (by decide) u5 m _ rfl HV2.out #[.int .u64 x.id.hi, .int .u64 x.id.lo, .int .u64 x.dp.hi, .int .u64 x.dp.lo, .int .u64 x.dq.hi, .int .u64 x.dq.lo, .int .u64 x.cp.hi, .int .u64 x.cp.lo, .int .u64 x.cq.hi, .int .u64 x.cq.lo, .int .i64 x.ledger, .int .i64 x.code, .int .i64 x.flags, .int .i64 x.stamp] rfl rfl rfl (Acc.one x) (by omega) (by omega) ?_); intro g3 cap3 w3 hown3 hf3 hat3; have HOWN3 := Lib.hid hown3; have HF3 := Lib.hid hf3; have HAT3 := Lib.hid hat3; clear hown3 hf3 hat3))
        have FA := Lib.hid ((Fr.refl (fun _ => False) w2).alloc (.cells #[.int .u64 x.id.hi, .int .u64 x.id.lo, .int .u64 x.dp.hi, .int .u64 x.dp.lo, .int .u64 x.dq.hi, .int .u64 x.dq.lo, .int .u64 x.cp.hi, .int .u64 x.cp.lo, .int .u64 x.cq.hi, .int .u64 x.cq.lo, .int .i64 x.ledger, .int .i64 x.code, .int .i64 x.flags, .int .i64 x.stamp] 58))
        go_roundw
        case rel =>
          have hw2 : w.heap.size ≤ w2.heap.size := Nat.le_trans HF.out.size F2.out.size
          have fr23 : Fr (fun m => w.heap.size ≤ m) w2 w3 := (FA.out.mono (fun _ h => h.elim)).then_ HF3.out (fun j hj => .inl (HGe.out j hj))
          refine ⟨k + 1, by omega, by go_num, ?_, fun j hj => ?_, ?_, ?_⟩
          · rw [HSt.out, HX.out]
            have h := HOWN3.out
            rw [List.length_append, Hm.out, List.flatMap_append]
            simpa [Acc.cells] using h
          · rcases HAT3.out j hj with h | h
            · exact HGe.out j h
            · have h2 : (w2.alloc (.cells #[.int .u64 x.id.hi, .int .u64 x.id.lo, .int .u64 x.dp.hi, .int .u64 x.dp.lo, .int .u64 x.dq.hi, .int .u64 x.dq.lo, .int .u64 x.cp.hi, .int .u64 x.cp.lo, .int .u64 x.cq.hi, .int .u64 x.cq.lo, .int .i64 x.ledger, .int .i64 x.code, .int .i64 x.flags, .int .i64 x.stamp] 58)).heap.size = w2.heap.size + 1 := Array.size_push ..
              omega
          · rw [HSt.out, HX.out]
            exact fr23.blk R2.out (fun h => by have h : w.heap.size ≤ g := h; have := Hg.out; omega)
          · exact (HF.out.then_ F2.out (fun _ h => .inl h)).then_ fr23 (fun j hj => .inr hj)
        case measure => simp [intOf]; omega
    · have hltI : ¬ (k : Int) < n := by omega
      go_wp2_with fail
      go_ret
      refine ⟨u5, rfl, ?_⟩
      rw [HM.out, HKn.out (by omega)]
      exact ⟨HV.out, HGe.out, HRr.out, HF.out⟩
theorem cells_len_Tx : ∀ x, (Tx.cells x).length = 16 := fun _ => rfl
set_option maxRecDepth 4000 in
set_option maxHeartbeats 1600000 in
theorem many_Tx (w : World) (g : Nat) (s : RS) (h : IsR w g s.1 s.2) (hB : Bytes s.1) :
    Calls Try.prog 40 #[.pointer (some ⟨g, 0, none⟩), .func (.func 41) #[] #[]] w fun e w' => ∃ v, e = .returned v ∧ w'.ownsRow 0 61 16 v (manyR Tx.left Tx.took s).1.length ((manyR Tx.left Tx.took s).1.flatMap Tx.cells) ∧ (∀ k, v.ownBlock = some k → w.heap.size ≤ k) ∧ IsR w' g (manyR Tx.left Tx.took s).2.1 (manyR Tx.left Tx.took s).2.2 ∧ Fr (fun k => k = g) w w' := by
  obtain ⟨i0, hi0, hz0, hz1, hz2⟩ := info_parts Try.infoTx
  have HI := Lib.hid (rInt_tot w g s 1 h hB (by omega))
  obtain ⟨hc, hn⟩ := cnt_wrap hB
  have HS0 := Lib.hid (rdS_bytes 1 hB)
  have Hg := Lib.hid (show g < w.heap.size from blk_lt h)
  have HM := Lib.hid (show manyR Tx.left Tx.took s = itM Tx.left Tx.took (cntR s) ([], rdS s 1) from rfl)
  rw [hc] at HI
  obtain ⟨n, hnn⟩ : ∃ n, cntR s = n := ⟨_, rfl⟩
  obtain ⟨s1, hs1⟩ : ∃ s1, rdS s 1 = s1 := ⟨_, rfl⟩
  rw [hnn] at HI hn HM
  rw [hs1] at HI HS0 HM
  obtain ⟨R, hR⟩ : ∃ R, manyR Tx.left Tx.took s = R := ⟨_, rfl⟩
  rw [hR] at HM ⊢
  clear h hB hc hnn hs1 hR
  go_enter Try.func40, Try.ntmps40
  go_wp2_with fail
  refine HI.out.mono ?_
  rintro e w1 ⟨rfl, r1, f1⟩
  have R1 := Lib.hid r1
  have F1 := Lib.hid f1
  clear r1 f1
  go_wp2_with fail
  go_loopw [8, 5] (fun i v wr => ∃ k : Nat, k ≤ n ∧ i = .int .i64 k ∧ wr.ownsRow 0 61 16 v (itM Tx.left Tx.took k ([], s1)).1.length ((itM Tx.left Tx.took k ([], s1)).1.flatMap Tx.cells) ∧ (∀ m, v.ownBlock = some m → w.heap.size ≤ m) ∧ IsR wr g (itM Tx.left Tx.took k ([], s1)).2.1 (itM Tx.left Tx.took k ([], s1)).2.2 ∧ Fr (fun m => m = g) w wr) (fun i _ _ => ((n : Int) - intOf i).toNat)
  case atStart => exact ⟨0, Nat.zero_le _, rfl, World.ownsRow_nil _ _ _ _, fun k hk => by simp [Value.ownBlock] at hk, R1.out, F1.out⟩
  case round =>
    obtain ⟨k, hk, rfl, ov, hge, hr, hf⟩ := hrel
    have HV := Lib.hid ov
    have HGe := Lib.hid hge
    have HRr := Lib.hid hr
    have HF := Lib.hid hf
    have HSt := Lib.hid (show itM Tx.left Tx.took (k + 1) ([], s1) = stM Tx.left Tx.took (itM Tx.left Tx.took k ([], s1)) from rfl)
    have hlen := itM_len (lf := Tx.left) (gt := Tx.took) (p := ([], s1)) k
    have HBy := Lib.hid (itM_bytes (lf := Tx.left) (gt := Tx.took) (p := ([], s1)) left_bytes_Tx HS0.out k)
    have HTn := Lib.hid (fun h => itM_torn (lf := Tx.left) (gt := Tx.took) (p := ([], s1)) hk h)
    have HKn := Lib.hid (show k = n → itM Tx.left Tx.took n ([], s1) = itM Tx.left Tx.took k ([], s1) from fun e => by rw [e])
    obtain ⟨p, hp⟩ : ∃ p, itM Tx.left Tx.took k ([], s1) = p := ⟨_, rfl⟩
    rw [hp] at HV HRr HSt hlen HBy HTn HKn
    obtain ⟨xs, l, t⟩ := p
    obtain ⟨m, hm⟩ : ∃ m, xs.length = m := ⟨_, rfl⟩
    have hm2 : m ≤ 255 := by
      have h0 : xs.length ≤ ([] : List Tx).length + k := hlen
      rw [List.length_nil] at h0
      omega
    clear hp ov hge hr hf hlen
    by_cases hlt : k < n
    · have hltI : (k : Int) < n := by omega
      cases t with
      | true =>
        go_wp2_with (go_at_call 59; go_must (with_reducible refine (rTorn_any _ g l true HRr.out).mono ?_); rintro e w2 ⟨rfl, rfl⟩)
        go_ret
        refine ⟨u5, rfl, ?_⟩
        rw [HM.out, HTn.out trivial]
        exact ⟨HV.out, HGe.out, HRr.out, HF.out⟩
      | false =>
        have HG := Lib.hid (getTx wr g (l, false) HRr.out HBy.out)
        obtain ⟨x, hx⟩ : ∃ x, Tx.took (l, false) = x := ⟨_, rfl⟩
        rw [hx, show x.val = .agg #[.int .u64 x.id.hi, .int .u64 x.id.lo, .int .u64 x.debit.hi, .int .u64 x.debit.lo, .int .u64 x.credit.hi, .int .u64 x.credit.lo, .int .u64 x.amount.hi, .int .u64 x.amount.lo, .int .u64 x.pending.hi, .int .u64 x.pending.lo, .int .i64 x.timeout, .int .i64 x.ledger, .int .i64 x.code, .int .i64 x.flags, .int .i64 x.stamp, .int .i64 x.born] from rfl] at HG
        have HX := Lib.hid (show stM Tx.left Tx.took (xs, (l, false)) = (xs ++ [x], Tx.left (l, false)) from by simp only [stM, hx]; rfl)
        have Hm := Lib.hid hm
        have HVm := Lib.hid (show wr.ownsRow 0 61 16 u5 m (xs.flatMap Tx.cells) from hm ▸ HV.out)
        clear hx hm
        go_wp2_with (first
          | (go_at_call 59; go_must (with_reducible refine (rTorn_any _ g l false HRr.out).mono ?_); rintro e w2 ⟨rfl, rfl⟩)
          | (go_at_call 41; go_must (with_reducible refine HG.out.mono ?_); rintro e w2 ⟨rfl, r2, f2⟩; have R2 := Lib.hid r2; have F2 := Lib.hid f2; have HV2 := Lib.hid (own_fr HVm.out f2 (fun k hk h => by have := HGe.out k hk; have h : k = g := h; have := Hg.out; omega)); clear r2 f2)
          | (at_builtin; go_must (refine wpList_append_fresh _ w2 rfl (.tmp 12) (.tmp 16) 23 rfl 61 i0 Tx.none.val 16 128 Try.underlying23 hi0 hz0 hz1 hz2 rfl (by decide) u5 m _ rfl HV2.out #[.int .u64 x.id.hi, .int .u64 x.id.lo, .int .u64 x.debit.hi, .int .u64 x.debit.lo, .int .u64 x.credit.hi, .int .u64 x.credit.lo, .int .u64 x.amount.hi, .int .u64 x.amount.lo, .int .u64 x.pending.hi, .int .u64 x.pending.lo, .int .i64 x.timeout, .int .i64 x.ledger, .int .i64 x.code, .int .i64 x.flags, .int .i64 x.stamp, .int .i64 x.born] rfl rfl rfl (Tx.one x) (by omega) (by omega) ?_); intro g3 cap3 w3 hown3 hf3 hat3; have HOWN3 := Lib.hid hown3; have HF3 := Lib.hid hf3; have HAT3 := Lib.hid hat3; clear hown3 hf3 hat3))
        have FA := Lib.hid ((Fr.refl (fun _ => False) w2).alloc (.cells #[.int .u64 x.id.hi, .int .u64 x.id.lo, .int .u64 x.debit.hi, .int .u64 x.debit.lo, .int .u64 x.credit.hi, .int .u64 x.credit.lo, .int .u64 x.amount.hi, .int .u64 x.amount.lo, .int .u64 x.pending.hi, .int .u64 x.pending.lo, .int .i64 x.timeout, .int .i64 x.ledger, .int .i64 x.code, .int .i64 x.flags, .int .i64 x.stamp, .int .i64 x.born] 61))
        go_roundw
        case rel =>
          have hw2 : w.heap.size ≤ w2.heap.size := Nat.le_trans HF.out.size F2.out.size
          have fr23 : Fr (fun m => w.heap.size ≤ m) w2 w3 := (FA.out.mono (fun _ h => h.elim)).then_ HF3.out (fun j hj => .inl (HGe.out j hj))
          refine ⟨k + 1, by omega, by go_num, ?_, fun j hj => ?_, ?_, ?_⟩
          · rw [HSt.out, HX.out]
            have h := HOWN3.out
            rw [List.length_append, Hm.out, List.flatMap_append]
            simpa [Tx.cells] using h
          · rcases HAT3.out j hj with h | h
            · exact HGe.out j h
            · have h2 : (w2.alloc (.cells #[.int .u64 x.id.hi, .int .u64 x.id.lo, .int .u64 x.debit.hi, .int .u64 x.debit.lo, .int .u64 x.credit.hi, .int .u64 x.credit.lo, .int .u64 x.amount.hi, .int .u64 x.amount.lo, .int .u64 x.pending.hi, .int .u64 x.pending.lo, .int .i64 x.timeout, .int .i64 x.ledger, .int .i64 x.code, .int .i64 x.flags, .int .i64 x.stamp, .int .i64 x.born] 61)).heap.size = w2.heap.size + 1 := Array.size_push ..
              omega
          · rw [HSt.out, HX.out]
            exact fr23.blk R2.out (fun h => by have h : w.heap.size ≤ g := h; have := Hg.out; omega)
          · exact (HF.out.then_ F2.out (fun _ h => .inl h)).then_ fr23 (fun j hj => .inr hj)
        case measure => simp [intOf]; omega
    · have hltI : ¬ (k : Int) < n := by omega
      go_wp2_with fail
      go_ret
      refine ⟨u5, rfl, ?_⟩
      rw [HM.out, HKn.out (by omega)]
      exact ⟨HV.out, HGe.out, HRr.out, HF.out⟩
theorem cells_len_Nm : ∀ x, (Nm.cells x).length = 2 := fun _ => rfl
set_option maxRecDepth 4000 in
set_option maxHeartbeats 1600000 in
theorem many_Nm (w : World) (g : Nat) (s : RS) (h : IsR w g s.1 s.2) (hB : Bytes s.1) :
    Calls Try.prog 44 #[.pointer (some ⟨g, 0, none⟩), .func (.func 42) #[] #[]] w fun e w' => ∃ v, e = .returned v ∧ w'.ownsRow 0 27 2 v (manyR Nm.left Nm.took s).1.length ((manyR Nm.left Nm.took s).1.flatMap Nm.cells) ∧ (∀ k, v.ownBlock = some k → w.heap.size ≤ k) ∧ IsR w' g (manyR Nm.left Nm.took s).2.1 (manyR Nm.left Nm.took s).2.2 ∧ Fr (fun k => k = g) w w' := by
  obtain ⟨i0, hi0, hz0, hz1, hz2⟩ := info_parts Try.infoNm
  have HI := Lib.hid (rInt_tot w g s 1 h hB (by omega))
  obtain ⟨hc, hn⟩ := cnt_wrap hB
  have HS0 := Lib.hid (rdS_bytes 1 hB)
  have Hg := Lib.hid (show g < w.heap.size from blk_lt h)
  have HM := Lib.hid (show manyR Nm.left Nm.took s = itM Nm.left Nm.took (cntR s) ([], rdS s 1) from rfl)
  rw [hc] at HI
  obtain ⟨n, hnn⟩ : ∃ n, cntR s = n := ⟨_, rfl⟩
  obtain ⟨s1, hs1⟩ : ∃ s1, rdS s 1 = s1 := ⟨_, rfl⟩
  rw [hnn] at HI hn HM
  rw [hs1] at HI HS0 HM
  obtain ⟨R, hR⟩ : ∃ R, manyR Nm.left Nm.took s = R := ⟨_, rfl⟩
  rw [hR] at HM ⊢
  clear h hB hc hnn hs1 hR
  go_enter Try.func44, Try.ntmps44
  go_wp2_with fail
  refine HI.out.mono ?_
  rintro e w1 ⟨rfl, r1, f1⟩
  have R1 := Lib.hid r1
  have F1 := Lib.hid f1
  clear r1 f1
  go_wp2_with fail
  go_loopw [8, 5] (fun i v wr => ∃ k : Nat, k ≤ n ∧ i = .int .i64 k ∧ wr.ownsRow 0 27 2 v (itM Nm.left Nm.took k ([], s1)).1.length ((itM Nm.left Nm.took k ([], s1)).1.flatMap Nm.cells) ∧ (∀ m, v.ownBlock = some m → w.heap.size ≤ m) ∧ IsR wr g (itM Nm.left Nm.took k ([], s1)).2.1 (itM Nm.left Nm.took k ([], s1)).2.2 ∧ Fr (fun m => m = g) w wr) (fun i _ _ => ((n : Int) - intOf i).toNat)
  case atStart => exact ⟨0, Nat.zero_le _, rfl, World.ownsRow_nil _ _ _ _, fun k hk => by simp [Value.ownBlock] at hk, R1.out, F1.out⟩
  case round =>
    obtain ⟨k, hk, rfl, ov, hge, hr, hf⟩ := hrel
    have HV := Lib.hid ov
    have HGe := Lib.hid hge
    have HRr := Lib.hid hr
    have HF := Lib.hid hf
    have HSt := Lib.hid (show itM Nm.left Nm.took (k + 1) ([], s1) = stM Nm.left Nm.took (itM Nm.left Nm.took k ([], s1)) from rfl)
    have hlen := itM_len (lf := Nm.left) (gt := Nm.took) (p := ([], s1)) k
    have HBy := Lib.hid (itM_bytes (lf := Nm.left) (gt := Nm.took) (p := ([], s1)) left_bytes_Nm HS0.out k)
    have HTn := Lib.hid (fun h => itM_torn (lf := Nm.left) (gt := Nm.took) (p := ([], s1)) hk h)
    have HKn := Lib.hid (show k = n → itM Nm.left Nm.took n ([], s1) = itM Nm.left Nm.took k ([], s1) from fun e => by rw [e])
    obtain ⟨p, hp⟩ : ∃ p, itM Nm.left Nm.took k ([], s1) = p := ⟨_, rfl⟩
    rw [hp] at HV HRr HSt hlen HBy HTn HKn
    obtain ⟨xs, l, t⟩ := p
    obtain ⟨m, hm⟩ : ∃ m, xs.length = m := ⟨_, rfl⟩
    have hm2 : m ≤ 255 := by
      have h0 : xs.length ≤ ([] : List Nm).length + k := hlen
      rw [List.length_nil] at h0
      omega
    clear hp ov hge hr hf hlen
    by_cases hlt : k < n
    · have hltI : (k : Int) < n := by omega
      cases t with
      | true =>
        go_wp2_with (go_at_call 59; go_must (with_reducible refine (rTorn_any _ g l true HRr.out).mono ?_); rintro e w2 ⟨rfl, rfl⟩)
        go_ret
        refine ⟨u5, rfl, ?_⟩
        rw [HM.out, HTn.out trivial]
        exact ⟨HV.out, HGe.out, HRr.out, HF.out⟩
      | false =>
        have HG := Lib.hid (getNum wr g (l, false) HRr.out HBy.out)
        obtain ⟨x, hx⟩ : ∃ x, Nm.took (l, false) = x := ⟨_, rfl⟩
        rw [hx, show x.val = .agg #[.int .u64 x.hi, .int .u64 x.lo] from rfl] at HG
        have HX := Lib.hid (show stM Nm.left Nm.took (xs, (l, false)) = (xs ++ [x], Nm.left (l, false)) from by simp only [stM, hx]; rfl)
        have Hm := Lib.hid hm
        have HVm := Lib.hid (show wr.ownsRow 0 27 2 u5 m (xs.flatMap Nm.cells) from hm ▸ HV.out)
        clear hx hm
        go_wp2_with (first
          | (go_at_call 59; go_must (with_reducible refine (rTorn_any _ g l false HRr.out).mono ?_); rintro e w2 ⟨rfl, rfl⟩)
          | (go_at_call 42; go_must (with_reducible refine HG.out.mono ?_); rintro e w2 ⟨rfl, r2, f2⟩; have R2 := Lib.hid r2; have F2 := Lib.hid f2; have HV2 := Lib.hid (own_fr HVm.out f2 (fun k hk h => by have := HGe.out k hk; have h : k = g := h; have := Hg.out; omega)); clear r2 f2)
          | (at_builtin; go_must (refine wpList_append_fresh _ w2 rfl (.tmp 12) (.tmp 16) 24 rfl 27 i0 (Nm.val ⟨0, 0⟩) 2 16 Try.underlying24 hi0 hz0 hz1 hz2 rfl (by decide) u5 m _ rfl HV2.out #[.int .u64 x.hi, .int .u64 x.lo] rfl rfl rfl (Nm.one x) (by omega) (by omega) ?_); intro g3 cap3 w3 hown3 hf3 hat3; have HOWN3 := Lib.hid hown3; have HF3 := Lib.hid hf3; have HAT3 := Lib.hid hat3; clear hown3 hf3 hat3))
        have FA := Lib.hid ((Fr.refl (fun _ => False) w2).alloc (.cells #[.int .u64 x.hi, .int .u64 x.lo] 27))
        go_roundw
        case rel =>
          have hw2 : w.heap.size ≤ w2.heap.size := Nat.le_trans HF.out.size F2.out.size
          have fr23 : Fr (fun m => w.heap.size ≤ m) w2 w3 := (FA.out.mono (fun _ h => h.elim)).then_ HF3.out (fun j hj => .inl (HGe.out j hj))
          refine ⟨k + 1, by omega, by go_num, ?_, fun j hj => ?_, ?_, ?_⟩
          · rw [HSt.out, HX.out]
            have h := HOWN3.out
            rw [List.length_append, Hm.out, List.flatMap_append]
            simpa [Nm.cells] using h
          · rcases HAT3.out j hj with h | h
            · exact HGe.out j h
            · have h2 : (w2.alloc (.cells #[.int .u64 x.hi, .int .u64 x.lo] 27)).heap.size = w2.heap.size + 1 := Array.size_push ..
              omega
          · rw [HSt.out, HX.out]
            exact fr23.blk R2.out (fun h => by have h : w.heap.size ≤ g := h; have := Hg.out; omega)
          · exact (HF.out.then_ F2.out (fun _ h => .inl h)).then_ fr23 (fun j hj => .inr hj)
        case measure => simp [intOf]; omega
    · have hltI : ¬ (k : Int) < n := by omega
      go_wp2_with fail
      go_ret
      refine ⟨u5, rfl, ?_⟩
      rw [HM.out, HKn.out (by omega)]
      exact ⟨HV.out, HGe.out, HRr.out, HF.out⟩
theorem cells_len_Res : ∀ x, (iCells x).length = 1 := fun _ => rfl
set_option maxRecDepth 4000 in
set_option maxHeartbeats 1600000 in
theorem many_Res (w : World) (g : Nat) (s : RS) (h : IsR w g s.1 s.2) (hB : Bytes s.1) :
    Calls Try.prog 51 #[.pointer (some ⟨g, 0, none⟩), .func (.func 52) #[] #[]] w fun e w' => ∃ v, e = .returned v ∧ w'.ownsRow 0 90 1 v (manyR iLeft iTook s).1.length ((manyR iLeft iTook s).1.flatMap iCells) ∧ (∀ k, v.ownBlock = some k → w.heap.size ≤ k) ∧ IsR w' g (manyR iLeft iTook s).2.1 (manyR iLeft iTook s).2.2 ∧ Fr (fun k => k = g) w w' := by
  obtain ⟨i0, hi0, hz0, hz1, hz2⟩ := info_parts Try.infoRes
  have HI := Lib.hid (rInt_tot w g s 1 h hB (by omega))
  obtain ⟨hc, hn⟩ := cnt_wrap hB
  have HS0 := Lib.hid (rdS_bytes 1 hB)
  have Hg := Lib.hid (show g < w.heap.size from blk_lt h)
  have HM := Lib.hid (show manyR iLeft iTook s = itM iLeft iTook (cntR s) ([], rdS s 1) from rfl)
  rw [hc] at HI
  obtain ⟨n, hnn⟩ : ∃ n, cntR s = n := ⟨_, rfl⟩
  obtain ⟨s1, hs1⟩ : ∃ s1, rdS s 1 = s1 := ⟨_, rfl⟩
  rw [hnn] at HI hn HM
  rw [hs1] at HI HS0 HM
  obtain ⟨R, hR⟩ : ∃ R, manyR iLeft iTook s = R := ⟨_, rfl⟩
  rw [hR] at HM ⊢
  clear h hB hc hnn hs1 hR
  go_enter Try.func51, Try.ntmps51
  go_wp2_with fail
  refine HI.out.mono ?_
  rintro e w1 ⟨rfl, r1, f1⟩
  have R1 := Lib.hid r1
  have F1 := Lib.hid f1
  clear r1 f1
  go_wp2_with fail
  go_loopw [8, 5] (fun i v wr => ∃ k : Nat, k ≤ n ∧ i = .int .i64 k ∧ wr.ownsRow 0 90 1 v (itM iLeft iTook k ([], s1)).1.length ((itM iLeft iTook k ([], s1)).1.flatMap iCells) ∧ (∀ m, v.ownBlock = some m → w.heap.size ≤ m) ∧ IsR wr g (itM iLeft iTook k ([], s1)).2.1 (itM iLeft iTook k ([], s1)).2.2 ∧ Fr (fun m => m = g) w wr) (fun i _ _ => ((n : Int) - intOf i).toNat)
  case atStart => exact ⟨0, Nat.zero_le _, rfl, World.ownsRow_nil _ _ _ _, fun k hk => by simp [Value.ownBlock] at hk, R1.out, F1.out⟩
  case round =>
    obtain ⟨k, hk, rfl, ov, hge, hr, hf⟩ := hrel
    have HV := Lib.hid ov
    have HGe := Lib.hid hge
    have HRr := Lib.hid hr
    have HF := Lib.hid hf
    have HSt := Lib.hid (show itM iLeft iTook (k + 1) ([], s1) = stM iLeft iTook (itM iLeft iTook k ([], s1)) from rfl)
    have hlen := itM_len (lf := iLeft) (gt := iTook) (p := ([], s1)) k
    have HBy := Lib.hid (itM_bytes (lf := iLeft) (gt := iTook) (p := ([], s1)) left_bytes_Res HS0.out k)
    have HTn := Lib.hid (fun h => itM_torn (lf := iLeft) (gt := iTook) (p := ([], s1)) hk h)
    have HKn := Lib.hid (show k = n → itM iLeft iTook n ([], s1) = itM iLeft iTook k ([], s1) from fun e => by rw [e])
    obtain ⟨p, hp⟩ : ∃ p, itM iLeft iTook k ([], s1) = p := ⟨_, rfl⟩
    rw [hp] at HV HRr HSt hlen HBy HTn HKn
    obtain ⟨xs, l, t⟩ := p
    obtain ⟨m, hm⟩ : ∃ m, xs.length = m := ⟨_, rfl⟩
    have hm2 : m ≤ 255 := by
      have h0 : xs.length ≤ ([] : List Int).length + k := hlen
      rw [List.length_nil] at h0
      omega
    clear hp ov hge hr hf hlen
    by_cases hlt : k < n
    · have hltI : (k : Int) < n := by omega
      cases t with
      | true =>
        go_wp2_with (go_at_call 59; go_must (with_reducible refine (rTorn_any _ g l true HRr.out).mono ?_); rintro e w2 ⟨rfl, rfl⟩)
        go_ret
        refine ⟨u5, rfl, ?_⟩
        rw [HM.out, HTn.out trivial]
        exact ⟨HV.out, HGe.out, HRr.out, HF.out⟩
      | false =>
        have HG := Lib.hid (getRes wr g (l, false) HRr.out HBy.out)
        obtain ⟨x, hx⟩ : ∃ x, iTook (l, false) = x := ⟨_, rfl⟩
        rw [hx, show iVal x = .int .i64 x from rfl] at HG
        have HX := Lib.hid (show stM iLeft iTook (xs, (l, false)) = (xs ++ [x], iLeft (l, false)) from by simp only [stM, hx]; rfl)
        have Hm := Lib.hid hm
        have HVm := Lib.hid (show wr.ownsRow 0 90 1 u5 m (xs.flatMap iCells) from hm ▸ HV.out)
        clear hx hm
        go_wp2_with (first
          | (go_at_call 59; go_must (with_reducible refine (rTorn_any _ g l false HRr.out).mono ?_); rintro e w2 ⟨rfl, rfl⟩)
          | (go_at_call 52; go_must (with_reducible refine HG.out.mono ?_); rintro e w2 ⟨rfl, r2, f2⟩; have R2 := Lib.hid r2; have F2 := Lib.hid f2; have HV2 := Lib.hid (own_fr HVm.out f2 (fun k hk h => by have := HGe.out k hk; have h : k = g := h; have := Hg.out; omega)); clear r2 f2)
          | (at_builtin; go_must (refine wpList_append_fresh _ w2 rfl (.tmp 12) (.tmp 16) 45 rfl 90 i0 (iVal 0) 1 8 Try.underlying45 hi0 hz0 hz1 hz2 rfl (by decide) u5 m _ rfl HV2.out #[.int .i64 x] rfl rfl rfl (iOne x) (by omega) (by omega) ?_); intro g3 cap3 w3 hown3 hf3 hat3; have HOWN3 := Lib.hid hown3; have HF3 := Lib.hid hf3; have HAT3 := Lib.hid hat3; clear hown3 hf3 hat3))
        have FA := Lib.hid ((Fr.refl (fun _ => False) w2).alloc (.cells #[.int .i64 x] 90))
        go_roundw
        case rel =>
          have hw2 : w.heap.size ≤ w2.heap.size := Nat.le_trans HF.out.size F2.out.size
          have fr23 : Fr (fun m => w.heap.size ≤ m) w2 w3 := (FA.out.mono (fun _ h => h.elim)).then_ HF3.out (fun j hj => .inl (HGe.out j hj))
          refine ⟨k + 1, by omega, by go_num, ?_, fun j hj => ?_, ?_, ?_⟩
          · rw [HSt.out, HX.out]
            have h := HOWN3.out
            rw [List.length_append, Hm.out, List.flatMap_append]
            simpa [iCells] using h
          · rcases HAT3.out j hj with h | h
            · exact HGe.out j h
            · have h2 : (w2.alloc (.cells #[.int .i64 x] 90)).heap.size = w2.heap.size + 1 := Array.size_push ..
              omega
          · rw [HSt.out, HX.out]
            exact fr23.blk R2.out (fun h => by have h : w.heap.size ≤ g := h; have := Hg.out; omega)
          · exact (HF.out.then_ F2.out (fun _ h => .inl h)).then_ fr23 (fun j hj => .inr hj)
        case measure => simp [intOf]; omega
    · have hltI : ¬ (k : Int) < n := by omega
      go_wp2_with fail
      go_ret
      refine ⟨u5, rfl, ?_⟩
      rw [HM.out, HKn.out (by omega)]
      exact ⟨HV.out, HGe.out, HRr.out, HF.out⟩
end Go.Proofs.Ytfmcimngogibkaa
