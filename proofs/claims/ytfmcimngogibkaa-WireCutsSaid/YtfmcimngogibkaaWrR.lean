/- Law 22: the walk of WireCuts. -/
import Derived.Test.YtfmcimngogibkaaWrQ
namespace Go.Proofs.Ytfmcimngogibkaa
open Go.RowKit

theorem body_len (op : Int) (la : List Acc) (lt : List Tx) (now : Int) (li : List Nm) (f : Flt) (h1 : la.length ≤ 100) (h2 : lt.length ≤ 100) (h3 : li.length ≤ 100) : (bodyBytes op la lt now li f).length ≤ 100000 := by
  have e1 := flat_take_len (f := Acc.bytes) (sz := 96) Acc.bytes_len la la.length (Nat.le_refl _)
  have e2 := flat_take_len (f := Tx.bytes) (sz := 108) Tx.bytes_len lt lt.length (Nat.le_refl _)
  have e3 := flat_take_len (f := Nm.bytes) (sz := 16) Nm.bytes_len li li.length (Nat.le_refl _)
  rw [List.take_length] at e1 e2 e3
  unfold bodyBytes
  split
  · rw [List.length_append, blen, e1]; omega
  split
  · rw [List.length_append, blen, e2]; omega
  split
  · rw [blen]; omega
  split
  · rw [Flt.bytes_len]; omega
  · rw [List.length_append, blen, e3]; omega
set_option maxRecDepth 4000 in
set_option maxHeartbeats 3200000 in
theorem wcuts_any (w : World) (v : Value) (q : Req) (cut : Int) (mo : List Int) (h : ReqIs w v q) (hf : q.fits) (hl1 : q.accs.length ≤ 140737488355328) (hl2 : q.txs.length ≤ 140737488355328) (hl3 : q.ids.length ≤ 140737488355328) (hM : Bytes mo) (hml : mo.length ≤ 140737488355328) (hcu : i64ok cut) :
    Calls Try.prog 5 #[v, .int .i64 cut, .string (strOfNums mo)] w fun e w' => e = .returned (.bool true) ∧ Fr (fun _ => False) w w' := by
  have HFt := Lib.hid hf
  have HBo := Lib.hid (req_bytes_ok q)
  have HCut := Lib.hid (fun (h : q.good = true) (c : Nat) (hc : c < q.bytes.length) => cut_none h hf (req_bytes_ok q) hc)
  have HMo := Lib.hid (fun (h : q.good = true) (m : List Int) (hm : m ≠ []) => more_none h hf hm)
  obtain ⟨a1, c1, a2, c2, a3, c3, rfl, r1, r2, r3⟩ := h
  have HQb := Lib.hid (show q.bytes = reqBytes q.op q.accs q.txs q.now q.ids q.flt from rfl)
  have HQg := Lib.hid (show q.good = wgood q.op q.accs q.txs q.now q.ids.length q.flt from rfl)
  obtain ⟨bs, hbs⟩ : ∃ bs, q.bytes = bs := ⟨_, rfl⟩
  obtain ⟨gd, hgd⟩ : ∃ gd, q.good = gd := ⟨_, rfl⟩
  rw [hbs] at HQb HBo HCut HMo
  rw [hgd] at HQg HCut HMo
  clear hbs hgd hf
  obtain ⟨op, la, lt, now, li, f⟩ := q
  obtain ⟨n1, hn1⟩ : ∃ n, la.length = n := ⟨_, rfl⟩
  obtain ⟨n2, hn2⟩ : ∃ n, lt.length = n := ⟨_, rfl⟩
  obtain ⟨n3, hn3⟩ : ∃ n, li.length = n := ⟨_, rfl⟩
  have R1 := Lib.hid r1
  have R2 := Lib.hid r2
  have R3 := Lib.hid r3
  have HN1 := Lib.hid hn1
  have HN2 := Lib.hid hn2
  have HN3 := Lib.hid hn3
  simp only [hn1, hn2, hn3] at hl1 hl2 hl3 ⊢
  have HQb := Lib.hid (show reqBytes op la lt now li f = bs from HQb.out.symm)
  have HQg := Lib.hid (show wgood op la lt now n3 f = gd from (hn3 ▸ HQg.out).symm)
  have Hq := Lib.hid (heap_alloc_new w (.cells (reqCells op a1 n1 c1 a2 n2 c2 now a3 n3 c3 f) 31))
  have FF := Lib.hid ((Fr.refl (fun _ => False) w).alloc (.cells (reqCells op a1 n1 c1 a2 n2 c2 now a3 n3 c3 f) 31))
  have HGr := Lib.hid (fun W => great_any W op a1 n1 c1 a2 n2 c2 now a3 n3 c3 f hl1 hl2 hl3)
  have HRg := Lib.hid (fun W (hf : Fr (fun _ => False) w W) => rgood_any W op a1 n1 c1 a2 n2 c2 now a3 n3 c3 f la lt hn1 hn2 hl1 hl2 (r1.fr hf (fun _ _ h => h)) (r2.fr hf (fun _ _ h => h)))
  rw [HQg.out] at HRg
  have HA := Lib.hid (fun W => alive22_any W)
  have HMb := Lib.hid hM
  have hms := strOfNums_size mo
  have hme := strOf_toList mo
  clear r1 r2 r3 hn1 hn2 hn3 hM
  go_enter Try.func5, Try.ntmps5
  by_cases hbig : 100 < n1 + n2 + n3
  · rw [decide_eq_true hbig] at HGr
    go_wp2_with (first | ((with_reducible refine wpList_load_row_w ?lw 31 _ rfl w.heap.size rfl 31 _ _ _ Hq.out Try.underlying31 rfl rfl ?_); (case lw => rfl)) | (go_at_call 9; go_must (with_reducible refine (HA.out _).mono ?_); rintro e w2 ⟨rfl, f2⟩; have FF := Lib.hid (FF.out.then_ f2 (fun _ h => h.elim)); have Hq := Lib.hid (f2.blk Hq.out (fun h => h)); clear f2) | (go_at_call 10; go_must (with_reducible refine (HGr.out _).mono ?_); rintro e w2 ⟨rfl, f2⟩; have FF := Lib.hid (FF.out.then_ f2 (fun _ h => h.elim)); have Hq := Lib.hid (f2.blk Hq.out (fun h => h)); clear f2))
    go_ret
    exact ⟨rfl, FF.out⟩
  rw [decide_eq_false hbig] at HGr
  cases gd with
  | false =>
    go_wp2_with (first | ((with_reducible refine wpList_load_row_w ?lw 31 _ rfl w.heap.size rfl 31 _ _ _ Hq.out Try.underlying31 rfl rfl ?_); (case lw => rfl)) | (go_at_call 9; go_must (with_reducible refine (HA.out _).mono ?_); rintro e w2 ⟨rfl, f2⟩; have FF := Lib.hid (FF.out.then_ f2 (fun _ h => h.elim)); have Hq := Lib.hid (f2.blk Hq.out (fun h => h)); clear f2) | (go_at_call 10; go_must (with_reducible refine (HGr.out _).mono ?_); rintro e w2 ⟨rfl, f2⟩; have FF := Lib.hid (FF.out.then_ f2 (fun _ h => h.elim)); have Hq := Lib.hid (f2.blk Hq.out (fun h => h)); clear f2) | (go_at_call 11; go_must (with_reducible refine (HRg.out _ FF.out).mono ?_); rintro e w2 ⟨rfl, f2⟩; have FF := Lib.hid (FF.out.then_ f2 (fun _ h => h.elim)); have Hq := Lib.hid (f2.blk Hq.out (fun h => h)); clear f2))
    go_ret
    exact ⟨rfl, FF.out⟩
  | true =>
    by_cases hm1 : (100 : Int) < mo.length
    · go_wp2_with (first | ((with_reducible refine wpList_load_row_w ?lw 31 _ rfl w.heap.size rfl 31 _ _ _ Hq.out Try.underlying31 rfl rfl ?_); (case lw => rfl)) | (go_at_call 9; go_must (with_reducible refine (HA.out _).mono ?_); rintro e w2 ⟨rfl, f2⟩; have FF := Lib.hid (FF.out.then_ f2 (fun _ h => h.elim)); have Hq := Lib.hid (f2.blk Hq.out (fun h => h)); clear f2) | (go_at_call 10; go_must (with_reducible refine (HGr.out _).mono ?_); rintro e w2 ⟨rfl, f2⟩; have FF := Lib.hid (FF.out.then_ f2 (fun _ h => h.elim)); have Hq := Lib.hid (f2.blk Hq.out (fun h => h)); clear f2) | (go_at_call 11; go_must (with_reducible refine (HRg.out _ FF.out).mono ?_); rintro e w2 ⟨rfl, f2⟩; have FF := Lib.hid (FF.out.then_ f2 (fun _ h => h.elim)); have Hq := Lib.hid (f2.blk Hq.out (fun h => h)); clear f2))
      go_ret
      exact ⟨rfl, FF.out⟩
    cases mo with
    | nil =>
      have hem : (strOfNums []).toList.isEmpty = true := strOf_toList []
      go_wp2_with (first | ((with_reducible refine wpList_load_row_w ?lw 31 _ rfl w.heap.size rfl 31 _ _ _ Hq.out Try.underlying31 rfl rfl ?_); (case lw => rfl)) | (go_at_call 9; go_must (with_reducible refine (HA.out _).mono ?_); rintro e w2 ⟨rfl, f2⟩; have FF := Lib.hid (FF.out.then_ f2 (fun _ h => h.elim)); have Hq := Lib.hid (f2.blk Hq.out (fun h => h)); clear f2) | (go_at_call 10; go_must (with_reducible refine (HGr.out _).mono ?_); rintro e w2 ⟨rfl, f2⟩; have FF := Lib.hid (FF.out.then_ f2 (fun _ h => h.elim)); have Hq := Lib.hid (f2.blk Hq.out (fun h => h)); clear f2) | (go_at_call 11; go_must (with_reducible refine (HRg.out _ FF.out).mono ?_); rintro e w2 ⟨rfl, f2⟩; have FF := Lib.hid (FF.out.then_ f2 (fun _ h => h.elim)); have Hq := Lib.hid (f2.blk Hq.out (fun h => h)); clear f2))
      go_ret
      exact ⟨rfl, FF.out⟩
    | cons x mo =>
      have hem : (strOfNums (x :: mo)).toList.isEmpty = false := strOf_toList (x :: mo)
      have HMo' := Lib.hid (HMo.out rfl (x :: mo) (by simp))
      obtain ⟨mm, hmm⟩ : ∃ mm, x :: mo = mm := ⟨_, rfl⟩
      have HRb := Lib.hid (fun W (hf : Fr (fun _ => False) w W) => rbytes_any W op a1 n1 c1 a2 n2 c2 now a3 n3 c3 f la lt li HN1.out HN2.out HN3.out (by omega) (by omega) (by omega) (R1.out.fr hf (fun _ _ h => h)) (R2.out.fr hf (fun _ _ h => h)) (R3.out.fr hf (fun _ _ h => h)) HFt.out.ok.accs HFt.out.ok.txs HFt.out.ok.ids HFt.out.ok.flt)
      rw [HQb.out] at HRb
      rw [hmm] at hem HMo' HMb hms hm1 hme hml ⊢
      have hbl : 0 < bs.length ∧ bs.length ≤ 200000 := by
        rw [← HQb.out, reqBytes, List.length_append, blen]
        have := body_len op la lt now li f (by rw [HN1.out]; omega) (by rw [HN2.out]; omega) (by rw [HN3.out]; omega)
        omega
      have hbz := strOfNums_size bs
      have hcx : ∃ c : Nat, c < bs.length ∧ wrap64 ((IntKind.u64.wrap cut).tmod (bs.length : Int)) = c := by
        have u0 : 0 ≤ IntKind.u64.wrap cut := by rw [IntKind.wrap_u64]; exact Int.emod_nonneg _ (by omega)
        have t0 := Int.tmod_nonneg (bs.length : Int) u0
        have t1 := Int.tmod_lt_of_pos (IntKind.u64.wrap cut) (show (0 : Int) < bs.length by omega)
        refine ⟨((IntKind.u64.wrap cut).tmod (bs.length : Int)).toNat, by omega, ?_⟩
        unfold wrap64
        omega
      obtain ⟨c, hcl, hcv⟩ := hcx
      have hex := strOf_take bs c
      have HRc := Lib.hid (fun W => read_any W (bs.take c) (HBo.out.take c))
      rw [HCut.out rfl c hcl, if_neg (by decide), if_neg (by decide)] at HRc
      have HRm := Lib.hid (fun W => read_any W (bs ++ mm) (HBo.out.append HMb.out))
      rw [HMo'.out, if_neg (by decide), if_neg (by decide)] at HRm
      have hap := strOf_append bs mm
      have hcI : (c : Int) ≤ bs.length := by omega
      have hc0 : (0 : Int) ≤ c := by omega
      clear hmm hme
      go_wp2_with (first | ((with_reducible refine wpList_load_row_w ?lw 31 _ rfl w.heap.size rfl 31 _ _ _ Hq.out Try.underlying31 rfl rfl ?_); (case lw => rfl)) | (go_at_call 9; go_must (with_reducible refine (HA.out _).mono ?_); rintro e w2 ⟨rfl, f2⟩; have FF := Lib.hid (FF.out.then_ f2 (fun _ h => h.elim)); have Hq := Lib.hid (f2.blk Hq.out (fun h => h)); clear f2) | (go_at_call 10; go_must (with_reducible refine (HGr.out _).mono ?_); rintro e w2 ⟨rfl, f2⟩; have FF := Lib.hid (FF.out.then_ f2 (fun _ h => h.elim)); have Hq := Lib.hid (f2.blk Hq.out (fun h => h)); clear f2) | (go_at_call 11; go_must (with_reducible refine (HRg.out _ FF.out).mono ?_); rintro e w2 ⟨rfl, f2⟩; have FF := Lib.hid (FF.out.then_ f2 (fun _ h => h.elim)); have Hq := Lib.hid (f2.blk Hq.out (fun h => h)); clear f2) | (go_at_call 15; (with_reducible refine (HRb.out _ FF.out).mono ?_); rintro e w5 ⟨rfl, f5⟩; have FF := Lib.hid (FF.out.then_ f5 (fun _ h => h.elim)); clear f5))
      refine (HRc.out _).mono ?_
      rintro e w6 ⟨v, rfl, hv, f6⟩
      obtain ⟨b1, d1, b2, d2, b3, d3, rfl⟩ := none_is hv
      have F6 := Lib.hid ((FF.out.then_ f6 (fun _ h => h.elim)).alloc (.cells (reqCells 0 b1 0 d1 b2 0 d2 0 b3 0 d3 Flt.zero) 31))
      clear f6 hv
      go_wp2_with fail
      refine (HRm.out _).mono ?_
      rintro e w7 ⟨v, rfl, hv, f7⟩
      obtain ⟨e1, g1, e2, g2, e3, g3, rfl⟩ := none_is hv
      have F7 := Lib.hid ((F6.out.then_ f7 (fun _ h => h.elim)).alloc (.cells (reqCells 0 e1 0 g1 e2 0 g2 0 e3 0 g3 Flt.zero) 31))
      clear f7 hv
      go_wp2_with fail
      go_ret
      exact ⟨rfl, F7.out⟩
end Go.Proofs.Ytfmcimngogibkaa
