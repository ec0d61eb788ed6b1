/- The document's Have. -/
import Derived.Test.YtjchjpmgbmeohaaDoorBkG
set_option linter.unusedSimpArgs false
set_option linter.unusedVariables false
namespace Go.Proofs.YtjchjpmgbmeohaaDoor
open Go.RowKit

set_option maxRecDepth 4000 in
set_option maxHeartbeats 6400000 in
theorem refHave_any (w : World) (a : Acc) (debit : Bool) (ha : a.ok) :
    Calls Tryd.prog 14 #[.agg #[.int .u64 a.id.hi, .int .u64 a.id.lo, .int .u64 a.dp.hi, .int .u64 a.dp.lo, .int .u64 a.dq.hi, .int .u64 a.dq.lo, .int .u64 a.cp.hi, .int .u64 a.cp.lo, .int .u64 a.cq.hi, .int .u64 a.cq.lo, .int .i64 a.ledger, .int .i64 a.code, .int .i64 a.flags, .int .i64 a.stamp], .bool debit] w fun e w' => e = .returned (.agg #[.int .u64 (haveN a debit).hi, .int .u64 (haveN a debit).lo]) ∧ Fr (fun _ => False) w w' := by
  obtain ⟨R, hR0⟩ : ∃ R, haveN a debit = R := ⟨_, rfl⟩
  rw [hR0]
  have HR := Lib.hid hR0
  clear hR0
  cases debit
  · have hR : nsub a.dq (ntot a.cp a.cq) = R := by rw [← HR.out, haveN, if_neg (by decide)]
    have HP := Lib.hid (plus_any (((((w.alloc (.cells #[.int .u64 a.id.hi, .int .u64 a.id.lo, .int .u64 a.dp.hi, .int .u64 a.dp.lo, .int .u64 a.dq.hi, .int .u64 a.dq.lo, .int .u64 a.cp.hi, .int .u64 a.cp.lo, .int .u64 a.cq.hi, .int .u64 a.cq.lo, .int .i64 a.ledger, .int .i64 a.code, .int .i64 a.flags, .int .i64 a.stamp] 26)).alloc (.cells #[.int .u64 0, .int .u64 0] 24)).alloc (.cells #[.int .u64 a.dq.hi, .int .u64 a.dq.lo] 24)).alloc (.cells #[.int .u64 a.cp.hi, .int .u64 a.cp.lo] 24)).alloc (.cells #[.int .u64 a.cq.hi, .int .u64 a.cq.lo] 24)) a.cp a.cq ha.cp ha.cq)
    have FA := Lib.hid ((((((Fr.refl (fun _ => False) w).alloc (.cells #[.int .u64 a.id.hi, .int .u64 a.id.lo, .int .u64 a.dp.hi, .int .u64 a.dp.lo, .int .u64 a.dq.hi, .int .u64 a.dq.lo, .int .u64 a.cp.hi, .int .u64 a.cp.lo, .int .u64 a.cq.hi, .int .u64 a.cq.lo, .int .i64 a.ledger, .int .i64 a.code, .int .i64 a.flags, .int .i64 a.stamp] 26)).alloc (.cells #[.int .u64 0, .int .u64 0] 24)).alloc (.cells #[.int .u64 a.dq.hi, .int .u64 a.dq.lo] 24)).alloc (.cells #[.int .u64 a.cp.hi, .int .u64 a.cp.lo] 24)).alloc (.cells #[.int .u64 a.cq.hi, .int .u64 a.cq.lo] 24))
    have Bz := Lib.hid (blk_alloc (blk_alloc (blk_alloc (blk1 w (.cells #[.int .u64 a.id.hi, .int .u64 a.id.lo, .int .u64 a.dp.hi, .int .u64 a.dp.lo, .int .u64 a.dq.hi, .int .u64 a.dq.lo, .int .u64 a.cp.hi, .int .u64 a.cp.lo, .int .u64 a.cq.hi, .int .u64 a.cq.lo, .int .i64 a.ledger, .int .i64 a.code, .int .i64 a.flags, .int .i64 a.stamp] 26) (.cells #[.int .u64 0, .int .u64 0] 24)) (.cells #[.int .u64 a.dq.hi, .int .u64 a.dq.lo] 24)) (.cells #[.int .u64 a.cp.hi, .int .u64 a.cp.lo] 24)) (.cells #[.int .u64 a.cq.hi, .int .u64 a.cq.lo] 24))
    have Bh := Lib.hid (blk_alloc (blk_alloc (blk2 w (.cells #[.int .u64 a.id.hi, .int .u64 a.id.lo, .int .u64 a.dp.hi, .int .u64 a.dp.lo, .int .u64 a.dq.hi, .int .u64 a.dq.lo, .int .u64 a.cp.hi, .int .u64 a.cp.lo, .int .u64 a.cq.hi, .int .u64 a.cq.lo, .int .i64 a.ledger, .int .i64 a.code, .int .i64 a.flags, .int .i64 a.stamp] 26) (.cells #[.int .u64 0, .int .u64 0] 24) (.cells #[.int .u64 a.dq.hi, .int .u64 a.dq.lo] 24)) (.cells #[.int .u64 a.cp.hi, .int .u64 a.cp.lo] 24)) (.cells #[.int .u64 a.cq.hi, .int .u64 a.cq.lo] 24))
    obtain ⟨t, ht⟩ : ∃ t, ntot a.cp a.cq = t := ⟨_, rfl⟩
    have htk : t.ok := ht ▸ ntot_ok ha.cp ha.cq
    rw [ht] at hR
    have HS := Lib.hid (fun W => refSub_any W a.dq t ha.dq htk)
    rw [hR] at HS
    unfold ntot at ht
    obtain ⟨s, hs⟩ : ∃ s, nadd a.cp a.cq = s := ⟨_, rfl⟩
    obtain ⟨q, hq⟩ : ∃ q, nfit a.cp a.cq = q := ⟨_, rfl⟩
    rw [hs, hq] at ht HP
    have HTt := Lib.hid ht
    clear ht hs hq hR htk ha
    cases q
    · have HV := Lib.hid (show t = mostN from by rw [← HTt.out, if_neg (by decide)])
      rw [HV.out] at HS
      have HMo := Lib.hid (fun W => refMost_any W)
      go_enter Tryd.func14, Tryd.ntmps14
      go_wp2_with fail
      refine HP.out.mono ?_
      rintro e w2 ⟨rfl, f2⟩
      have F2 := Lib.hid ((FA.out.then_ f2 (fun _ h => h.elim)).alloc (.cells #[.int .u64 s.hi, .int .u64 s.lo] 24))
      have Bz2 := Lib.hid (blk_alloc (f2.blk Bz.out (fun h => h)) (.cells #[.int .u64 s.hi, .int .u64 s.lo] 24))
      have Bh2 := Lib.hid (blk_alloc (f2.blk Bh.out (fun h => h)) (.cells #[.int .u64 s.hi, .int .u64 s.lo] 24))
      have B8 := Lib.hid (heap_alloc_new w2 (.cells #[.int .u64 s.hi, .int .u64 s.lo] 24))
      have HG := Lib.hid (show w.heap.size + 1 + 1 < w2.heap.size from blk_lt (f2.blk Bh.out (fun h => h)))
      clear f2
      go_wp2_with fail
      refine (HMo.out _).mono ?_
      rintro e w3 ⟨rfl, f3⟩
      have F3 := Lib.hid (F2.out.then_ f3 (fun _ h => h.elim))
      have Bz3 := Lib.hid (f3.blk Bz2.out (fun h => h))
      have Bh3 := Lib.hid (f3.blk Bh2.out (fun h => h))
      have B83 := Lib.hid (f3.blk B8.out (fun h => h))
      clear f3
      obtain ⟨G, hG⟩ : ∃ G, w2.heap.size = G := ⟨_, rfl⟩
      rw [hG] at B83 HG ⊢
      clear hG B8
      go_wp2_with (first | ((refine wpList_store_row rfl 24 (.tmp 8) (.tmp 33) rfl G #[.int .u64 mostN.hi, .int .u64 mostN.lo] rfl rfl B83.out rfl rfl (by simp [Value.oneCell']) ?_); intro w5 hb5 f5; have x0 := blk_cell hb5 0 rfl; have x1 := blk_cell hb5 1 rfl; have F5 := Lib.hid (F3.out.then_ f5 (fun k hk => .inr (by have := HG.out; omega))); have Bz5 := Lib.hid (f5.blk Bz3.out (by have := HG.out; omega)); have hbh := f5.blk Bh3.out (by have := HG.out; omega); have y0 := blk_cell hbh 0 rfl; have y1 := blk_cell hbh 1 rfl; clear hb5 f5 hbh) | fail)
      refine (HS.out _).mono ?_
      rintro e w4 ⟨rfl, f4⟩
      have F4 := Lib.hid ((F5.out.then_ f4 (fun _ h => h.elim)).alloc (.cells #[.int .u64 R.hi, .int .u64 R.lo] 24))
      have Bz4 := Lib.hid (blk_alloc (f4.blk Bz5.out (fun h => h)) (.cells #[.int .u64 R.hi, .int .u64 R.lo] 24))
      clear f4
      go_wp2_with (first | ((refine wpList_store_row rfl 24 (.tmp 4) (.tmp 40) rfl (w.heap.size + 1) #[.int .u64 R.hi, .int .u64 R.lo] rfl rfl Bz4.out rfl rfl (by simp [Value.oneCell']) ?_); intro w9 hb9 f9; have HB9 := Lib.hid hb9; have F9 := Lib.hid f9; clear hb9 f9) | fail)
      refine bodyPost_ret (results_cell1 (p := 4) rfl _ _ (w.heap.size + 1) 24 _ (0, 0) _ rfl HB9.out Tryd.underlying24 rfl rfl) rfl ?_
      exact ⟨by first | (rfl; done) | simp, F4.out.then_ F9.out (fun k hk => .inr (by omega))⟩
    · have HV := Lib.hid (show t = s from by rw [← HTt.out, if_pos rfl])
      rw [HV.out] at HS
      go_enter Tryd.func14, Tryd.ntmps14
      go_wp2_with fail
      refine HP.out.mono ?_
      rintro e w2 ⟨rfl, f2⟩
      have F2 := Lib.hid ((FA.out.then_ f2 (fun _ h => h.elim)).alloc (.cells #[.int .u64 s.hi, .int .u64 s.lo] 24))
      have Bz2 := Lib.hid (blk_alloc (f2.blk Bz.out (fun h => h)) (.cells #[.int .u64 s.hi, .int .u64 s.lo] 24))
      have hbh := blk_alloc (f2.blk Bh.out (fun h => h)) (.cells #[.int .u64 s.hi, .int .u64 s.lo] 24)
      have y0 := blk_cell hbh 0 rfl; have y1 := blk_cell hbh 1 rfl
      clear f2 hbh
      go_wp2_with fail
      refine (HS.out _).mono ?_
      rintro e w4 ⟨rfl, f4⟩
      have F4 := Lib.hid ((F2.out.then_ f4 (fun _ h => h.elim)).alloc (.cells #[.int .u64 R.hi, .int .u64 R.lo] 24))
      have Bz4 := Lib.hid (blk_alloc (f4.blk Bz2.out (fun h => h)) (.cells #[.int .u64 R.hi, .int .u64 R.lo] 24))
      clear f4
      go_wp2_with (first | ((refine wpList_store_row rfl 24 (.tmp 4) (.tmp 40) rfl (w.heap.size + 1) #[.int .u64 R.hi, .int .u64 R.lo] rfl rfl Bz4.out rfl rfl (by simp [Value.oneCell']) ?_); intro w9 hb9 f9; have HB9 := Lib.hid hb9; have F9 := Lib.hid f9; clear hb9 f9) | fail)
      refine bodyPost_ret (results_cell1 (p := 4) rfl _ _ (w.heap.size + 1) 24 _ (0, 0) _ rfl HB9.out Tryd.underlying24 rfl rfl) rfl ?_
      exact ⟨by first | (rfl; done) | simp, F4.out.then_ F9.out (fun k hk => .inr (by omega))⟩
  · have hR : nsub a.cq (ntot a.dp a.dq) = R := by rw [← HR.out, haveN, if_pos rfl]
    have HP := Lib.hid (plus_any (((((w.alloc (.cells #[.int .u64 a.id.hi, .int .u64 a.id.lo, .int .u64 a.dp.hi, .int .u64 a.dp.lo, .int .u64 a.dq.hi, .int .u64 a.dq.lo, .int .u64 a.cp.hi, .int .u64 a.cp.lo, .int .u64 a.cq.hi, .int .u64 a.cq.lo, .int .i64 a.ledger, .int .i64 a.code, .int .i64 a.flags, .int .i64 a.stamp] 26)).alloc (.cells #[.int .u64 0, .int .u64 0] 24)).alloc (.cells #[.int .u64 a.cq.hi, .int .u64 a.cq.lo] 24)).alloc (.cells #[.int .u64 a.dp.hi, .int .u64 a.dp.lo] 24)).alloc (.cells #[.int .u64 a.dq.hi, .int .u64 a.dq.lo] 24)) a.dp a.dq ha.dp ha.dq)
    have FA := Lib.hid ((((((Fr.refl (fun _ => False) w).alloc (.cells #[.int .u64 a.id.hi, .int .u64 a.id.lo, .int .u64 a.dp.hi, .int .u64 a.dp.lo, .int .u64 a.dq.hi, .int .u64 a.dq.lo, .int .u64 a.cp.hi, .int .u64 a.cp.lo, .int .u64 a.cq.hi, .int .u64 a.cq.lo, .int .i64 a.ledger, .int .i64 a.code, .int .i64 a.flags, .int .i64 a.stamp] 26)).alloc (.cells #[.int .u64 0, .int .u64 0] 24)).alloc (.cells #[.int .u64 a.cq.hi, .int .u64 a.cq.lo] 24)).alloc (.cells #[.int .u64 a.dp.hi, .int .u64 a.dp.lo] 24)).alloc (.cells #[.int .u64 a.dq.hi, .int .u64 a.dq.lo] 24))
    have Bz := Lib.hid (blk_alloc (blk_alloc (blk_alloc (blk1 w (.cells #[.int .u64 a.id.hi, .int .u64 a.id.lo, .int .u64 a.dp.hi, .int .u64 a.dp.lo, .int .u64 a.dq.hi, .int .u64 a.dq.lo, .int .u64 a.cp.hi, .int .u64 a.cp.lo, .int .u64 a.cq.hi, .int .u64 a.cq.lo, .int .i64 a.ledger, .int .i64 a.code, .int .i64 a.flags, .int .i64 a.stamp] 26) (.cells #[.int .u64 0, .int .u64 0] 24)) (.cells #[.int .u64 a.cq.hi, .int .u64 a.cq.lo] 24)) (.cells #[.int .u64 a.dp.hi, .int .u64 a.dp.lo] 24)) (.cells #[.int .u64 a.dq.hi, .int .u64 a.dq.lo] 24))
    have Bh := Lib.hid (blk_alloc (blk_alloc (blk2 w (.cells #[.int .u64 a.id.hi, .int .u64 a.id.lo, .int .u64 a.dp.hi, .int .u64 a.dp.lo, .int .u64 a.dq.hi, .int .u64 a.dq.lo, .int .u64 a.cp.hi, .int .u64 a.cp.lo, .int .u64 a.cq.hi, .int .u64 a.cq.lo, .int .i64 a.ledger, .int .i64 a.code, .int .i64 a.flags, .int .i64 a.stamp] 26) (.cells #[.int .u64 0, .int .u64 0] 24) (.cells #[.int .u64 a.cq.hi, .int .u64 a.cq.lo] 24)) (.cells #[.int .u64 a.dp.hi, .int .u64 a.dp.lo] 24)) (.cells #[.int .u64 a.dq.hi, .int .u64 a.dq.lo] 24))
    obtain ⟨t, ht⟩ : ∃ t, ntot a.dp a.dq = t := ⟨_, rfl⟩
    have htk : t.ok := ht ▸ ntot_ok ha.dp ha.dq
    rw [ht] at hR
    have HS := Lib.hid (fun W => refSub_any W a.cq t ha.cq htk)
    rw [hR] at HS
    unfold ntot at ht
    obtain ⟨s, hs⟩ : ∃ s, nadd a.dp a.dq = s := ⟨_, rfl⟩
    obtain ⟨q, hq⟩ : ∃ q, nfit a.dp a.dq = q := ⟨_, rfl⟩
    rw [hs, hq] at ht HP
    have HTt := Lib.hid ht
    clear ht hs hq hR htk ha
    cases q
    · have HV := Lib.hid (show t = mostN from by rw [← HTt.out, if_neg (by decide)])
      rw [HV.out] at HS
      have HMo := Lib.hid (fun W => refMost_any W)
      go_enter Tryd.func14, Tryd.ntmps14
      go_wp2_with fail
      refine HP.out.mono ?_
      rintro e w2 ⟨rfl, f2⟩
      have F2 := Lib.hid ((FA.out.then_ f2 (fun _ h => h.elim)).alloc (.cells #[.int .u64 s.hi, .int .u64 s.lo] 24))
      have Bz2 := Lib.hid (blk_alloc (f2.blk Bz.out (fun h => h)) (.cells #[.int .u64 s.hi, .int .u64 s.lo] 24))
      have Bh2 := Lib.hid (blk_alloc (f2.blk Bh.out (fun h => h)) (.cells #[.int .u64 s.hi, .int .u64 s.lo] 24))
      have B8 := Lib.hid (heap_alloc_new w2 (.cells #[.int .u64 s.hi, .int .u64 s.lo] 24))
      have HG := Lib.hid (show w.heap.size + 1 + 1 < w2.heap.size from blk_lt (f2.blk Bh.out (fun h => h)))
      clear f2
      go_wp2_with fail
      refine (HMo.out _).mono ?_
      rintro e w3 ⟨rfl, f3⟩
      have F3 := Lib.hid (F2.out.then_ f3 (fun _ h => h.elim))
      have Bz3 := Lib.hid (f3.blk Bz2.out (fun h => h))
      have Bh3 := Lib.hid (f3.blk Bh2.out (fun h => h))
      have B83 := Lib.hid (f3.blk B8.out (fun h => h))
      clear f3
      obtain ⟨G, hG⟩ : ∃ G, w2.heap.size = G := ⟨_, rfl⟩
      rw [hG] at B83 HG ⊢
      clear hG B8
      go_wp2_with (first | ((refine wpList_store_row rfl 24 (.tmp 8) (.tmp 33) rfl G #[.int .u64 mostN.hi, .int .u64 mostN.lo] rfl rfl B83.out rfl rfl (by simp [Value.oneCell']) ?_); intro w5 hb5 f5; have x0 := blk_cell hb5 0 rfl; have x1 := blk_cell hb5 1 rfl; have F5 := Lib.hid (F3.out.then_ f5 (fun k hk => .inr (by have := HG.out; omega))); have Bz5 := Lib.hid (f5.blk Bz3.out (by have := HG.out; omega)); have hbh := f5.blk Bh3.out (by have := HG.out; omega); have y0 := blk_cell hbh 0 rfl; have y1 := blk_cell hbh 1 rfl; clear hb5 f5 hbh) | fail)
      refine (HS.out _).mono ?_
      rintro e w4 ⟨rfl, f4⟩
      have F4 := Lib.hid ((F5.out.then_ f4 (fun _ h => h.elim)).alloc (.cells #[.int .u64 R.hi, .int .u64 R.lo] 24))
      have Bz4 := Lib.hid (blk_alloc (f4.blk Bz5.out (fun h => h)) (.cells #[.int .u64 R.hi, .int .u64 R.lo] 24))
      clear f4
      go_wp2_with (first | ((refine wpList_store_row rfl 24 (.tmp 4) (.tmp 40) rfl (w.heap.size + 1) #[.int .u64 R.hi, .int .u64 R.lo] rfl rfl Bz4.out rfl rfl (by simp [Value.oneCell']) ?_); intro w9 hb9 f9; have HB9 := Lib.hid hb9; have F9 := Lib.hid f9; clear hb9 f9) | fail)
      refine bodyPost_ret (results_cell1 (p := 4) rfl _ _ (w.heap.size + 1) 24 _ (0, 0) _ rfl HB9.out Tryd.underlying24 rfl rfl) rfl ?_
      exact ⟨by first | (rfl; done) | simp, F4.out.then_ F9.out (fun k hk => .inr (by omega))⟩
    · have HV := Lib.hid (show t = s from by rw [← HTt.out, if_pos rfl])
      rw [HV.out] at HS
      go_enter Tryd.func14, Tryd.ntmps14
      go_wp2_with fail
      refine HP.out.mono ?_
      rintro e w2 ⟨rfl, f2⟩
      have F2 := Lib.hid ((FA.out.then_ f2 (fun _ h => h.elim)).alloc (.cells #[.int .u64 s.hi, .int .u64 s.lo] 24))
      have Bz2 := Lib.hid (blk_alloc (f2.blk Bz.out (fun h => h)) (.cells #[.int .u64 s.hi, .int .u64 s.lo] 24))
      have hbh := blk_alloc (f2.blk Bh.out (fun h => h)) (.cells #[.int .u64 s.hi, .int .u64 s.lo] 24)
      have y0 := blk_cell hbh 0 rfl; have y1 := blk_cell hbh 1 rfl
      clear f2 hbh
      go_wp2_with fail
      refine (HS.out _).mono ?_
      rintro e w4 ⟨rfl, f4⟩
      have F4 := Lib.hid ((F2.out.then_ f4 (fun _ h => h.elim)).alloc (.cells #[.int .u64 R.hi, .int .u64 R.lo] 24))
      have Bz4 := Lib.hid (blk_alloc (f4.blk Bz2.out (fun h => h)) (.cells #[.int .u64 R.hi, .int .u64 R.lo] 24))
      clear f4
      go_wp2_with (first | ((refine wpList_store_row rfl 24 (.tmp 4) (.tmp 40) rfl (w.heap.size + 1) #[.int .u64 R.hi, .int .u64 R.lo] rfl rfl Bz4.out rfl rfl (by simp [Value.oneCell']) ?_); intro w9 hb9 f9; have HB9 := Lib.hid hb9; have F9 := Lib.hid f9; clear hb9 f9) | fail)
      refine bodyPost_ret (results_cell1 (p := 4) rfl _ _ (w.heap.size + 1) 24 _ (0, 0) _ rfl HB9.out Tryd.underlying24 rfl rfl) rfl ?_
      exact ⟨by first | (rfl; done) | simp, F4.out.then_ F9.out (fun k hk => .inr (by omega))⟩
end Go.Proofs.YtjchjpmgbmeohaaDoor
