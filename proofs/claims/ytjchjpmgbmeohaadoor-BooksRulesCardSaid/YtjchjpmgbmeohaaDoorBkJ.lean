/- The document's More. -/
import Derived.Test.YtjchjpmgbmeohaaDoorBkI
set_option linter.unusedSimpArgs false
set_option linter.unusedVariables false
namespace Go.Proofs.YtjchjpmgbmeohaaDoor
open Go.RowKit

theorem blk4 (w : World) (a b c d e : Obj) : (((((w.alloc a).alloc b).alloc c).alloc d).alloc e).heap[w.heap.size + 1 + 1 + 1 + 1]? = some e := by
  have h := heap_alloc_new ((((w.alloc a).alloc b).alloc c).alloc d) e
  simpa using h

set_option maxRecDepth 4000 in
set_option maxHeartbeats 6400000 in
theorem moreT_any (w : World) (a : Acc) (n : Nm) (pn : Bool) (ha0 : a.ok) (hn0 : n.ok) :
    Calls Tryd.prog 12 #[.agg #[.int .u64 a.id.hi, .int .u64 a.id.lo, .int .u64 a.dp.hi, .int .u64 a.dp.lo, .int .u64 a.dq.hi, .int .u64 a.dq.lo, .int .u64 a.cp.hi, .int .u64 a.cp.lo, .int .u64 a.cq.hi, .int .u64 a.cq.lo, .int .i64 a.ledger, .int .i64 a.code, .int .i64 a.flags, .int .i64 a.stamp], .bool true, .agg #[.int .u64 n.hi, .int .u64 n.lo], .bool pn] w fun e w' => e = .returned (.tuple #[(moreA a true n pn).val, .int .i64 (moreR a true n)]) ∧ Fr (fun _ => False) w w' := by
  have ha := Lib.hid ha0
  have hn := Lib.hid hn0
  have Ba := Lib.hid (blk_alloc (blk_alloc (blk_alloc (blk_alloc (heap_alloc_new w (.cells #[.int .u64 a.id.hi, .int .u64 a.id.lo, .int .u64 a.dp.hi, .int .u64 a.dp.lo, .int .u64 a.dq.hi, .int .u64 a.dq.lo, .int .u64 a.cp.hi, .int .u64 a.cp.lo, .int .u64 a.cq.hi, .int .u64 a.cq.lo, .int .i64 a.ledger, .int .i64 a.code, .int .i64 a.flags, .int .i64 a.stamp] 26)) (.cells #[.int .u64 n.hi, .int .u64 n.lo] 24)) (.cells #[.int .u64 0, .int .u64 0, .int .u64 0, .int .u64 0, .int .u64 0, .int .u64 0, .int .u64 0, .int .u64 0, .int .u64 0, .int .u64 0, .int .i64 0, .int .i64 0, .int .i64 0, .int .i64 0] 26)) (.cells #[.int .u64 a.dp.hi, .int .u64 a.dp.lo] 24)) (.cells #[.int .u64 a.dq.hi, .int .u64 a.dq.lo] 24))
  have Bn := Lib.hid (blk_alloc (blk_alloc (blk_alloc (blk1 w (.cells #[.int .u64 a.id.hi, .int .u64 a.id.lo, .int .u64 a.dp.hi, .int .u64 a.dp.lo, .int .u64 a.dq.hi, .int .u64 a.dq.lo, .int .u64 a.cp.hi, .int .u64 a.cp.lo, .int .u64 a.cq.hi, .int .u64 a.cq.lo, .int .i64 a.ledger, .int .i64 a.code, .int .i64 a.flags, .int .i64 a.stamp] 26) (.cells #[.int .u64 n.hi, .int .u64 n.lo] 24)) (.cells #[.int .u64 0, .int .u64 0, .int .u64 0, .int .u64 0, .int .u64 0, .int .u64 0, .int .u64 0, .int .u64 0, .int .u64 0, .int .u64 0, .int .i64 0, .int .i64 0, .int .i64 0, .int .i64 0] 26)) (.cells #[.int .u64 a.dp.hi, .int .u64 a.dp.lo] 24)) (.cells #[.int .u64 a.dq.hi, .int .u64 a.dq.lo] 24))
  have Bz := Lib.hid (blk_alloc (blk_alloc (blk2 w (.cells #[.int .u64 a.id.hi, .int .u64 a.id.lo, .int .u64 a.dp.hi, .int .u64 a.dp.lo, .int .u64 a.dq.hi, .int .u64 a.dq.lo, .int .u64 a.cp.hi, .int .u64 a.cp.lo, .int .u64 a.cq.hi, .int .u64 a.cq.lo, .int .i64 a.ledger, .int .i64 a.code, .int .i64 a.flags, .int .i64 a.stamp] 26) (.cells #[.int .u64 n.hi, .int .u64 n.lo] 24) (.cells #[.int .u64 0, .int .u64 0, .int .u64 0, .int .u64 0, .int .u64 0, .int .u64 0, .int .u64 0, .int .u64 0, .int .u64 0, .int .u64 0, .int .i64 0, .int .i64 0, .int .i64 0, .int .i64 0] 26)) (.cells #[.int .u64 a.dp.hi, .int .u64 a.dp.lo] 24)) (.cells #[.int .u64 a.dq.hi, .int .u64 a.dq.lo] 24))
  have Bx := Lib.hid (blk_alloc (blk3 w (.cells #[.int .u64 a.id.hi, .int .u64 a.id.lo, .int .u64 a.dp.hi, .int .u64 a.dp.lo, .int .u64 a.dq.hi, .int .u64 a.dq.lo, .int .u64 a.cp.hi, .int .u64 a.cp.lo, .int .u64 a.cq.hi, .int .u64 a.cq.lo, .int .i64 a.ledger, .int .i64 a.code, .int .i64 a.flags, .int .i64 a.stamp] 26) (.cells #[.int .u64 n.hi, .int .u64 n.lo] 24) (.cells #[.int .u64 0, .int .u64 0, .int .u64 0, .int .u64 0, .int .u64 0, .int .u64 0, .int .u64 0, .int .u64 0, .int .u64 0, .int .u64 0, .int .i64 0, .int .i64 0, .int .i64 0, .int .i64 0] 26) (.cells #[.int .u64 a.dp.hi, .int .u64 a.dp.lo] 24)) (.cells #[.int .u64 a.dq.hi, .int .u64 a.dq.lo] 24))
  have By := Lib.hid (blk4 w (.cells #[.int .u64 a.id.hi, .int .u64 a.id.lo, .int .u64 a.dp.hi, .int .u64 a.dp.lo, .int .u64 a.dq.hi, .int .u64 a.dq.lo, .int .u64 a.cp.hi, .int .u64 a.cp.lo, .int .u64 a.cq.hi, .int .u64 a.cq.lo, .int .i64 a.ledger, .int .i64 a.code, .int .i64 a.flags, .int .i64 a.stamp] 26) (.cells #[.int .u64 n.hi, .int .u64 n.lo] 24) (.cells #[.int .u64 0, .int .u64 0, .int .u64 0, .int .u64 0, .int .u64 0, .int .u64 0, .int .u64 0, .int .u64 0, .int .u64 0, .int .u64 0, .int .i64 0, .int .i64 0, .int .i64 0, .int .i64 0] 26) (.cells #[.int .u64 a.dp.hi, .int .u64 a.dp.lo] 24) (.cells #[.int .u64 a.dq.hi, .int .u64 a.dq.lo] 24))
  have FA := Lib.hid ((((((Fr.refl (fun _ => False) w).alloc (.cells #[.int .u64 a.id.hi, .int .u64 a.id.lo, .int .u64 a.dp.hi, .int .u64 a.dp.lo, .int .u64 a.dq.hi, .int .u64 a.dq.lo, .int .u64 a.cp.hi, .int .u64 a.cp.lo, .int .u64 a.cq.hi, .int .u64 a.cq.lo, .int .i64 a.ledger, .int .i64 a.code, .int .i64 a.flags, .int .i64 a.stamp] 26)).alloc (.cells #[.int .u64 n.hi, .int .u64 n.lo] 24)).alloc (.cells #[.int .u64 0, .int .u64 0, .int .u64 0, .int .u64 0, .int .u64 0, .int .u64 0, .int .u64 0, .int .u64 0, .int .u64 0, .int .u64 0, .int .i64 0, .int .i64 0, .int .i64 0, .int .i64 0] 26)).alloc (.cells #[.int .u64 a.dp.hi, .int .u64 a.dp.lo] 24)).alloc (.cells #[.int .u64 a.dq.hi, .int .u64 a.dq.lo] 24))
  have HP1 := Lib.hid (plus_any (((((w.alloc (.cells #[.int .u64 a.id.hi, .int .u64 a.id.lo, .int .u64 a.dp.hi, .int .u64 a.dp.lo, .int .u64 a.dq.hi, .int .u64 a.dq.lo, .int .u64 a.cp.hi, .int .u64 a.cp.lo, .int .u64 a.cq.hi, .int .u64 a.cq.lo, .int .i64 a.ledger, .int .i64 a.code, .int .i64 a.flags, .int .i64 a.stamp] 26)).alloc (.cells #[.int .u64 n.hi, .int .u64 n.lo] 24)).alloc (.cells #[.int .u64 0, .int .u64 0, .int .u64 0, .int .u64 0, .int .u64 0, .int .u64 0, .int .u64 0, .int .u64 0, .int .u64 0, .int .u64 0, .int .i64 0, .int .i64 0, .int .i64 0, .int .i64 0] 26)).alloc (.cells #[.int .u64 a.dp.hi, .int .u64 a.dp.lo] 24)).alloc (.cells #[.int .u64 a.dq.hi, .int .u64 a.dq.lo] 24)) a.dp a.dq ha0.dp ha0.dq)
  have HP2 := Lib.hid (fun W => plus_any W (nadd a.dp a.dq) n (nadd_ok ha0.dp ha0.dq) hn0)
  obtain ⟨s1, hs1⟩ : ∃ s, nadd a.dp a.dq = s := ⟨_, rfl⟩
  rw [hs1] at HP1 HP2
  obtain ⟨s2, hs2⟩ : ∃ s, nadd s1 n = s := ⟨_, rfl⟩
  obtain ⟨k1, hk1⟩ : ∃ k, nfit a.dp a.dq = k := ⟨_, rfl⟩
  obtain ⟨k2, hk2⟩ : ∃ k, nfit s1 n = k := ⟨_, rfl⟩
  rw [hk1] at HP1
  rw [hs2, hk2] at HP2
  have hov : ovf a.dp a.dq n = (k1 && k2) := by rw [ovf, hs1, hk1, hk2]
  obtain ⟨f, hf⟩ : ∃ f, bits .and .i64 a.flags 2 = f := ⟨_, rfl⟩
  obtain ⟨fo, hfo⟩ : ∃ fo, (f != 0) = fo := ⟨_, rfl⟩
  have HH := Lib.hid (fun W => refHave_any W a true ha0)
  have HLs := Lib.hid (fun W => refLess_any W (haveN a true) n (haveN_ok ha0) hn0)
  obtain ⟨hv, hhv⟩ : ∃ h, haveN a true = h := ⟨_, rfl⟩
  obtain ⟨ls, hls⟩ : ∃ l, nless hv n = l := ⟨_, rfl⟩
  obtain ⟨MA, hMA⟩ : ∃ m, moreA a true n pn = m := ⟨_, rfl⟩
  obtain ⟨MR, hMR⟩ : ∃ m, moreR a true n = m := ⟨_, rfl⟩
  rw [hhv] at HH HLs
  rw [hls] at HLs
  rw [hMA, hMR]
  have HMA := Lib.hid (show (if (k1 && k2) = true then (if (fo && ls) = true then a else updA a true n pn) else a) = MA from by rw [← hMA, moreA, flagOn]; simp only [if_pos, if_true, Bool.false_eq_true, if_false, reduceIte, hov, hf, hfo, hhv, hls])
  have HMR := Lib.hid (show (if (k1 && k2) = true then (if (fo && ls) = true then 33 else 0) else 32) = MR from by rw [← hMR, moreR, flagOn]; simp only [if_pos, if_true, Bool.false_eq_true, if_false, reduceIte, hov, hf, hfo, hhv, hls])
  clear hov hs1 hs2 hk1 hk2 hhv hls hMA hMR ha0 hn0
  obtain ⟨ok, hok⟩ : ∃ ok, (k1 && k2) = ok := ⟨_, rfl⟩
  rw [hok] at HMA HMR
  cases ok
  · have HV1 := Lib.hid (show MA = a from HMA.out.symm)
    have HV2 := Lib.hid (show MR = 32 from HMR.out.symm)
    clear hf hfo
    cases k1
    all_goals
      cases k2
    all_goals first
      | exact absurd hok (by decide)
      | (clear hok
         go_enter Tryd.func12, Tryd.ntmps12
         go_wp2_with fail
         refine HP1.out.mono ?_
         rintro e w2 ⟨rfl, f2⟩
         have F2 := Lib.hid ((FA.out.then_ f2 (fun _ h => h.elim)).alloc (.cells #[.int .u64 s1.hi, .int .u64 s1.lo] 24))
         have Ba2 := Lib.hid (blk_alloc (f2.blk Ba.out (fun h => h)) (.cells #[.int .u64 s1.hi, .int .u64 s1.lo] 24))
         have Bn2 := Lib.hid (blk_alloc (f2.blk Bn.out (fun h => h)) (.cells #[.int .u64 s1.hi, .int .u64 s1.lo] 24))
         have Bz2 := Lib.hid (blk_alloc (f2.blk Bz.out (fun h => h)) (.cells #[.int .u64 s1.hi, .int .u64 s1.lo] 24))
         have m0 := blk_cell Bn2.out 0 rfl
         have m1 := blk_cell Bn2.out 1 rfl
         clear f2
         go_wp2_with fail
         refine (HP2.out _).mono ?_
         rintro e w3 ⟨rfl, f3⟩
         have F3 := Lib.hid ((F2.out.then_ f3 (fun _ h => h.elim)).alloc (.cells #[.int .u64 s2.hi, .int .u64 s2.lo] 24))
         have Ba3 := Lib.hid (blk_alloc (f3.blk Ba2.out (fun h => h)) (.cells #[.int .u64 s2.hi, .int .u64 s2.lo] 24))
         have Bz3 := Lib.hid (blk_alloc (f3.blk Bz2.out (fun h => h)) (.cells #[.int .u64 s2.hi, .int .u64 s2.lo] 24))
         clear f3
         go_wp2_with (first
           | ((with_reducible refine wpList_load_row_w ?lw 26 _ rfl w.heap.size rfl 26 _ _ _ Ba3.out Tryd.underlying26 rfl rfl ?_); (case lw => rfl))
           | ((refine wpList_store_row rfl 26 (.tmp 8) (.tmp 44) rfl (w.heap.size + 1 + 1) #[.int .u64 a.id.hi, .int .u64 a.id.lo, .int .u64 a.dp.hi, .int .u64 a.dp.lo, .int .u64 a.dq.hi, .int .u64 a.dq.lo, .int .u64 a.cp.hi, .int .u64 a.cp.lo, .int .u64 a.cq.hi, .int .u64 a.cq.lo, .int .i64 a.ledger, .int .i64 a.code, .int .i64 a.flags, .int .i64 a.stamp] rfl rfl Bz3.out rfl rfl (by simp [Value.oneCell']) ?_); intro w9 hb9 f9; have HB9 := Lib.hid hb9; have F9 := Lib.hid f9; clear hb9 f9)
           | fail)
         refine bodyPost_ret (results_cell2 (p := 8) (q := 9) rfl _ _ (w.heap.size + 1 + 1) 26 _ (0, 0) _ rfl HB9.out Tryd.underlying26 rfl rfl) rfl ?_
         exact ⟨by rw [HV1.out, HV2.out]; rfl, F3.out.then_ F9.out (fun k hk => .inr (by omega))⟩)
  obtain ⟨rfl, rfl⟩ : k1 = true ∧ k2 = true := by simpa using hok
  clear hok
  go_enter Tryd.func12, Tryd.ntmps12
  go_wp2_with fail
  refine HP1.out.mono ?_
  rintro e w2 ⟨rfl, f2⟩
  have F2 := Lib.hid ((FA.out.then_ f2 (fun _ h => h.elim)).alloc (.cells #[.int .u64 s1.hi, .int .u64 s1.lo] 24))
  have Ba2 := Lib.hid (blk_alloc (f2.blk Ba.out (fun h => h)) (.cells #[.int .u64 s1.hi, .int .u64 s1.lo] 24))
  have Bn2 := Lib.hid (blk_alloc (f2.blk Bn.out (fun h => h)) (.cells #[.int .u64 s1.hi, .int .u64 s1.lo] 24))
  have Bz2 := Lib.hid (blk_alloc (f2.blk Bz.out (fun h => h)) (.cells #[.int .u64 s1.hi, .int .u64 s1.lo] 24))
  have Bx2 := Lib.hid (blk_alloc (f2.blk Bx.out (fun h => h)) (.cells #[.int .u64 s1.hi, .int .u64 s1.lo] 24))
  have By2 := Lib.hid (blk_alloc (f2.blk By.out (fun h => h)) (.cells #[.int .u64 s1.hi, .int .u64 s1.lo] 24))
  have m0 := blk_cell Bn2.out 0 rfl
  have m1 := blk_cell Bn2.out 1 rfl
  clear f2
  go_wp2_with fail
  refine (HP2.out _).mono ?_
  rintro e w3 ⟨rfl, f3⟩
  have F3 := Lib.hid ((F2.out.then_ f3 (fun _ h => h.elim)).alloc (.cells #[.int .u64 s2.hi, .int .u64 s2.lo] 24))
  have Ba3 := Lib.hid (blk_alloc (f3.blk Ba2.out (fun h => h)) (.cells #[.int .u64 s2.hi, .int .u64 s2.lo] 24))
  have Bn3 := Lib.hid (blk_alloc (f3.blk Bn2.out (fun h => h)) (.cells #[.int .u64 s2.hi, .int .u64 s2.lo] 24))
  have Bz3 := Lib.hid (blk_alloc (f3.blk Bz2.out (fun h => h)) (.cells #[.int .u64 s2.hi, .int .u64 s2.lo] 24))
  have Bx3 := Lib.hid (blk_alloc (f3.blk Bx2.out (fun h => h)) (.cells #[.int .u64 s2.hi, .int .u64 s2.lo] 24))
  have By3 := Lib.hid (blk_alloc (f3.blk By2.out (fun h => h)) (.cells #[.int .u64 s2.hi, .int .u64 s2.lo] 24))
  clear f3 m0 m1
  obtain ⟨wp, hwp⟩ : ∃ W, w3.alloc (.cells #[.int .u64 s2.hi, .int .u64 s2.lo] 24) = W := ⟨_, rfl⟩
  rw [hwp] at F3 Ba3 Bn3 Bz3 Bx3 By3
  have q0 := blk_cell Ba3.out 0 rfl; have q1 := blk_cell Ba3.out 1 rfl; have q2 := blk_cell Ba3.out 2 rfl; have q3 := blk_cell Ba3.out 3 rfl; have q4 := blk_cell Ba3.out 4 rfl; have q5 := blk_cell Ba3.out 5 rfl; have q6 := blk_cell Ba3.out 6 rfl; have q7 := blk_cell Ba3.out 7 rfl; have q8 := blk_cell Ba3.out 8 rfl; have q9 := blk_cell Ba3.out 9 rfl; have q10 := blk_cell Ba3.out 10 rfl; have q11 := blk_cell Ba3.out 11 rfl; have q12 := blk_cell Ba3.out 12 rfl; have q13 := blk_cell Ba3.out 13 rfl
  have n0 := blk_cell Bn3.out 0 rfl; have n1 := blk_cell Bn3.out 1 rfl
  go_upto_region 12 with fail
  (try rw [hwp])
  clear hwp
  go_cut [56] from 45 (fun c w' => c = .bool (fo && ls) ∧ w'.heap[w.heap.size]? = some (.cells #[.int .u64 a.id.hi, .int .u64 a.id.lo, .int .u64 a.dp.hi, .int .u64 a.dp.lo, .int .u64 a.dq.hi, .int .u64 a.dq.lo, .int .u64 a.cp.hi, .int .u64 a.cp.lo, .int .u64 a.cq.hi, .int .u64 a.cq.lo, .int .i64 a.ledger, .int .i64 a.code, .int .i64 a.flags, .int .i64 a.stamp] 26 (0, 0)) ∧ w'.heap[w.heap.size + 1]? = some (.cells #[.int .u64 n.hi, .int .u64 n.lo] 24 (0, 0)) ∧ w'.heap[w.heap.size + 1 + 1]? = some (.cells #[.int .u64 0, .int .u64 0, .int .u64 0, .int .u64 0, .int .u64 0, .int .u64 0, .int .u64 0, .int .u64 0, .int .u64 0, .int .u64 0, .int .i64 0, .int .i64 0, .int .i64 0, .int .i64 0] 26 (0, 0)) ∧ w'.heap[w.heap.size + 1 + 1 + 1]? = some (.cells #[.int .u64 a.dp.hi, .int .u64 a.dp.lo] 24 (0, 0)) ∧ w'.heap[w.heap.size + 1 + 1 + 1 + 1]? = some (.cells #[.int .u64 a.dq.hi, .int .u64 a.dq.lo] 24 (0, 0)) ∧ Fr (fun _ => False) w w')
  case first =>
    cases fo
    · go_quiet (fail)
      go_wp2_with fail
      go_meet
      exact ⟨rfl, Ba3.out, Bn3.out, Bz3.out, Bx3.out, By3.out, F3.out.drewN _⟩
    · go_region_held3 (fun w' => w'.cell? ⟨w.heap.size, 0, none⟩ = some (Value.int .u64 a.id.hi) ∧ w'.cell? ⟨w.heap.size, 1, none⟩ = some (Value.int .u64 a.id.lo) ∧ w'.cell? ⟨w.heap.size, 2, none⟩ = some (Value.int .u64 a.dp.hi) ∧ w'.cell? ⟨w.heap.size, 3, none⟩ = some (Value.int .u64 a.dp.lo) ∧ w'.cell? ⟨w.heap.size, 4, none⟩ = some (Value.int .u64 a.dq.hi) ∧ w'.cell? ⟨w.heap.size, 5, none⟩ = some (Value.int .u64 a.dq.lo) ∧ w'.cell? ⟨w.heap.size, 6, none⟩ = some (Value.int .u64 a.cp.hi) ∧ w'.cell? ⟨w.heap.size, 7, none⟩ = some (Value.int .u64 a.cp.lo) ∧ w'.cell? ⟨w.heap.size, 8, none⟩ = some (Value.int .u64 a.cq.hi) ∧ w'.cell? ⟨w.heap.size, 9, none⟩ = some (Value.int .u64 a.cq.lo) ∧ w'.cell? ⟨w.heap.size, 10, none⟩ = some (Value.int .i64 a.ledger) ∧ w'.cell? ⟨w.heap.size, 11, none⟩ = some (Value.int .i64 a.code) ∧ w'.cell? ⟨w.heap.size, 12, none⟩ = some (Value.int .i64 a.flags) ∧ w'.cell? ⟨w.heap.size, 13, none⟩ = some (Value.int .i64 a.stamp) ∧ w'.cell? ⟨w.heap.size + 1, 0, none⟩ = some (Value.int .u64 n.hi) ∧ w'.cell? ⟨w.heap.size + 1, 1, none⟩ = some (Value.int .u64 n.lo))
        (first | exact ⟨q0, q1, q2, q3, q4, q5, q6, q7, q8, q9, q10, q11, q12, q13, n0, n1⟩ | go_keep)
        (first
          | (go_at_call 14; (with_reducible refine (HH.out wp.drew).mono ?_); rintro e w4 ⟨rfl, f4⟩; have F4 := Lib.hid (F3.out.drew.then_ f4 (fun _ h => h.elim)); have Ba4 := Lib.hid (f4.blk (blk_drew Ba3.out) (fun h => h)); have Bn4 := Lib.hid (f4.blk (blk_drew Bn3.out) (fun h => h)); have Bz4 := Lib.hid (f4.blk (blk_drew Bz3.out) (fun h => h)); have Bx4 := Lib.hid (f4.blk (blk_drew Bx3.out) (fun h => h)); have By4 := Lib.hid (f4.blk (blk_drew By3.out) (fun h => h)); have q0 := blk_cell Ba4.out 0 rfl; have q1 := blk_cell Ba4.out 1 rfl; have q2 := blk_cell Ba4.out 2 rfl; have q3 := blk_cell Ba4.out 3 rfl; have q4 := blk_cell Ba4.out 4 rfl; have q5 := blk_cell Ba4.out 5 rfl; have q6 := blk_cell Ba4.out 6 rfl; have q7 := blk_cell Ba4.out 7 rfl; have q8 := blk_cell Ba4.out 8 rfl; have q9 := blk_cell Ba4.out 9 rfl; have q10 := blk_cell Ba4.out 10 rfl; have q11 := blk_cell Ba4.out 11 rfl; have q12 := blk_cell Ba4.out 12 rfl; have q13 := blk_cell Ba4.out 13 rfl; have n0 := blk_cell Bn4.out 0 rfl; have n1 := blk_cell Bn4.out 1 rfl; clear f4)
          | (go_at_call 46; (with_reducible refine (HLs.out _).mono ?_); rintro e w5 ⟨rfl, f5⟩; have F5 := Lib.hid (F4.out.then_ f5 (fun _ h => h.elim)); have Ba5 := Lib.hid (f5.blk Ba4.out (fun h => h)); have Bn5 := Lib.hid (f5.blk Bn4.out (fun h => h)); have Bz5 := Lib.hid (f5.blk Bz4.out (fun h => h)); have Bx5 := Lib.hid (f5.blk Bx4.out (fun h => h)); have By5 := Lib.hid (f5.blk By4.out (fun h => h)); have q0 := blk_cell Ba5.out 0 rfl; have q1 := blk_cell Ba5.out 1 rfl; have q2 := blk_cell Ba5.out 2 rfl; have q3 := blk_cell Ba5.out 3 rfl; have q4 := blk_cell Ba5.out 4 rfl; have q5 := blk_cell Ba5.out 5 rfl; have q6 := blk_cell Ba5.out 6 rfl; have q7 := blk_cell Ba5.out 7 rfl; have q8 := blk_cell Ba5.out 8 rfl; have q9 := blk_cell Ba5.out 9 rfl; have q10 := blk_cell Ba5.out 10 rfl; have q11 := blk_cell Ba5.out 11 rfl; have q12 := blk_cell Ba5.out 12 rfl; have q13 := blk_cell Ba5.out 13 rfl; have n0 := blk_cell Bn5.out 0 rfl; have n1 := blk_cell Bn5.out 1 rfl; clear f5))
      go_wp2_with fail
      go_meet
      exact ⟨rfl, Ba5.out, Bn5.out, Bz5.out, Bx5.out, By5.out, F5.out⟩
  case rest =>
  clear q0 q1 q2 q3 q4 q5 q6 q7 q8 q9 q10 q11 q12 q13 n0 n1
  obtain ⟨rfl, hba, hbn, hbz, hbx, hby, hff⟩ := hcut
  have Ba5 := Lib.hid hba
  have Bn5 := Lib.hid hbn
  have Bz5 := Lib.hid hbz
  have Bx5 := Lib.hid hbx
  have By5 := Lib.hid hby
  have F5 := Lib.hid hff
  clear hba hbn hbz hbx hby hff hf hfo
  obtain ⟨c, hc⟩ : ∃ c, (fo && ls) = c := ⟨_, rfl⟩
  rw [hc] at HMA HMR ⊢
  clear hc
  obtain ⟨wq, hwq⟩ : ∃ W : World, W = wc := ⟨_, rfl⟩
  subst hwq
  cases c
  · have HV2 := Lib.hid (show MR = 0 from HMR.out.symm)
    cases pn
    · have HV1 := Lib.hid (show MA = updA a true n false from HMA.out.symm)
      have x0 := blk_cell Bx5.out 0 rfl; have x1 := blk_cell Bx5.out 1 rfl; have y0 := blk_cell By5.out 0 rfl; have y1 := blk_cell By5.out 1 rfl
      have n0 := blk_cell Bn5.out 0 rfl; have n1 := blk_cell Bn5.out 1 rfl
      have HPd := Lib.hid (plus_any wq a.dq n ha.out.dq hn.out)
      obtain ⟨s, hs⟩ : ∃ s, nadd a.dq n = s := ⟨_, rfl⟩
      rw [hs] at HPd
      have HSs := Lib.hid hs
      clear hs
      go_wp2_with fail
      refine HPd.out.mono ?_
      rintro e w6 ⟨rfl, f6⟩
      have F6 := Lib.hid (F5.out.then_ f6 (fun _ h => h.elim))
      have Ba6 := Lib.hid (f6.blk Ba5.out (fun h => h))
      have Bn6 := Lib.hid (f6.blk Bn5.out (fun h => h))
      have Bz6 := Lib.hid (f6.blk Bz5.out (fun h => h))
      have Bx6 := Lib.hid (f6.blk Bx5.out (fun h => h))
      have By6 := Lib.hid (f6.blk By5.out (fun h => h))
      clear f6
      go_wp2_with (first
        | ((refine wpList_store_row rfl 24 (.tmp 11) (.tmp 71) rfl (w.heap.size + 1 + 1 + 1 + 1) #[.int .u64 s.hi, .int .u64 s.lo] rfl rfl By6.out rfl rfl (by simp [Value.oneCell']) ?_); intro w7 hb7 f7; have F7 := Lib.hid (F6.out.then_ f7 (fun j hj => .inr (by omega))); have Ba7 := Lib.hid (f7.blk Ba6.out (by omega)); have Bz7 := Lib.hid (f7.blk Bz6.out (by omega)); have Bx7 := f7.blk Bx6.out (by omega); have u0 := blk_cell hb7 0 rfl; have u1 := blk_cell hb7 1 rfl; have v0 := blk_cell Bx7 0 rfl; have v1 := blk_cell Bx7 1 rfl; have HU := Lib.hid hb7; have HVv := Lib.hid Bx7; clear f7 hb7 Bx7)
        | ((refine wpList_store_part rfl 24 (.tmp 75) (.tmp 74) rfl w.heap.size 2 #[.int .u64 a.dp.hi, .int .u64 a.dp.lo] rfl rfl Ba7.out (by show 2 + 2 ≤ 14; omega) rfl (by simp [Value.oneCell']) ?_); intro w10 hb10 f10; have Ba10 := Lib.hid (show w10.heap[w.heap.size]? = some (.cells #[.int .u64 a.id.hi, .int .u64 a.id.lo, .int .u64 a.dp.hi, .int .u64 a.dp.lo, .int .u64 a.dq.hi, .int .u64 a.dq.lo, .int .u64 a.cp.hi, .int .u64 a.cp.lo, .int .u64 a.cq.hi, .int .u64 a.cq.lo, .int .i64 a.ledger, .int .i64 a.code, .int .i64 a.flags, .int .i64 a.stamp] 26 (0, 0)) from hb10); have F10 := Lib.hid (F7.out.then_ f10 (fun j hj => .inr (Nat.le_of_eq hj.symm))); have Bz10 := Lib.hid (f10.blk Bz7.out (by omega)); have hu := f10.blk HU.out (by omega); have hv := f10.blk HVv.out (by omega); have u0 := blk_cell hu 0 rfl; have u1 := blk_cell hu 1 rfl; have v0 := blk_cell hv 0 rfl; have v1 := blk_cell hv 1 rfl; clear hb10 f10 hu hv)
        | ((refine wpList_store_part rfl 24 (.tmp 77) (.tmp 76) rfl w.heap.size 4 #[.int .u64 s.hi, .int .u64 s.lo] rfl rfl Ba10.out (by show 4 + 2 ≤ 14; omega) rfl (by simp [Value.oneCell']) ?_); intro w11 hb11 f11; have Ba11 := Lib.hid (show w11.heap[w.heap.size]? = some (.cells #[.int .u64 a.id.hi, .int .u64 a.id.lo, .int .u64 a.dp.hi, .int .u64 a.dp.lo, .int .u64 s.hi, .int .u64 s.lo, .int .u64 a.cp.hi, .int .u64 a.cp.lo, .int .u64 a.cq.hi, .int .u64 a.cq.lo, .int .i64 a.ledger, .int .i64 a.code, .int .i64 a.flags, .int .i64 a.stamp] 26 (0, 0)) from hb11); have F11 := Lib.hid (F10.out.then_ f11 (fun j hj => .inr (Nat.le_of_eq hj.symm))); have Bz11 := Lib.hid (f11.blk Bz10.out (by omega)); clear hb11 f11)
        | ((with_reducible refine wpList_load_row_w ?lw 26 _ rfl w.heap.size rfl 26 _ _ _ Ba11.out Tryd.underlying26 rfl rfl ?_); (case lw => rfl))
        | ((refine wpList_store_row rfl 26 (.tmp 8) (.tmp 82) rfl (w.heap.size + 1 + 1) #[.int .u64 a.id.hi, .int .u64 a.id.lo, .int .u64 a.dp.hi, .int .u64 a.dp.lo, .int .u64 s.hi, .int .u64 s.lo, .int .u64 a.cp.hi, .int .u64 a.cp.lo, .int .u64 a.cq.hi, .int .u64 a.cq.lo, .int .i64 a.ledger, .int .i64 a.code, .int .i64 a.flags, .int .i64 a.stamp] rfl rfl Bz11.out rfl rfl (by simp [Value.oneCell']) ?_); intro w9 hb9 f9; have HB9 := Lib.hid hb9; have F9 := Lib.hid f9; clear hb9 f9)
        | fail)
      refine bodyPost_ret (results_cell2 (p := 8) (q := 9) rfl _ _ (w.heap.size + 1 + 1) 26 _ (0, 0) _ rfl HB9.out Tryd.underlying26 rfl rfl) rfl ?_
      exact ⟨by rw [HV1.out, HV2.out, ← HSs.out]; rfl, F11.out.then_ F9.out (fun k hk => .inr (by omega))⟩

    · have HV1 := Lib.hid (show MA = updA a true n true from HMA.out.symm)
      have x0 := blk_cell Bx5.out 0 rfl; have x1 := blk_cell Bx5.out 1 rfl; have y0 := blk_cell By5.out 0 rfl; have y1 := blk_cell By5.out 1 rfl
      have n0 := blk_cell Bn5.out 0 rfl; have n1 := blk_cell Bn5.out 1 rfl
      have HPd := Lib.hid (plus_any wq a.dp n ha.out.dp hn.out)
      obtain ⟨s, hs⟩ : ∃ s, nadd a.dp n = s := ⟨_, rfl⟩
      rw [hs] at HPd
      have HSs := Lib.hid hs
      clear hs
      go_wp2_with fail
      refine HPd.out.mono ?_
      rintro e w6 ⟨rfl, f6⟩
      have F6 := Lib.hid (F5.out.then_ f6 (fun _ h => h.elim))
      have Ba6 := Lib.hid (f6.blk Ba5.out (fun h => h))
      have Bn6 := Lib.hid (f6.blk Bn5.out (fun h => h))
      have Bz6 := Lib.hid (f6.blk Bz5.out (fun h => h))
      have Bx6 := Lib.hid (f6.blk Bx5.out (fun h => h))
      have By6 := Lib.hid (f6.blk By5.out (fun h => h))
      clear f6
      go_wp2_with (first
        | ((refine wpList_store_row rfl 24 (.tmp 10) (.tmp 65) rfl (w.heap.size + 1 + 1 + 1) #[.int .u64 s.hi, .int .u64 s.lo] rfl rfl Bx6.out rfl rfl (by simp [Value.oneCell']) ?_); intro w7 hb7 f7; have F7 := Lib.hid (F6.out.then_ f7 (fun j hj => .inr (by omega))); have Ba7 := Lib.hid (f7.blk Ba6.out (by omega)); have Bz7 := Lib.hid (f7.blk Bz6.out (by omega)); have By7 := f7.blk By6.out (by omega); have u0 := blk_cell hb7 0 rfl; have u1 := blk_cell hb7 1 rfl; have v0 := blk_cell By7 0 rfl; have v1 := blk_cell By7 1 rfl; have HU := Lib.hid hb7; have HVv := Lib.hid By7; clear f7 hb7 By7)
        | ((refine wpList_store_part rfl 24 (.tmp 75) (.tmp 74) rfl w.heap.size 2 #[.int .u64 s.hi, .int .u64 s.lo] rfl rfl Ba7.out (by show 2 + 2 ≤ 14; omega) rfl (by simp [Value.oneCell']) ?_); intro w10 hb10 f10; have Ba10 := Lib.hid (show w10.heap[w.heap.size]? = some (.cells #[.int .u64 a.id.hi, .int .u64 a.id.lo, .int .u64 s.hi, .int .u64 s.lo, .int .u64 a.dq.hi, .int .u64 a.dq.lo, .int .u64 a.cp.hi, .int .u64 a.cp.lo, .int .u64 a.cq.hi, .int .u64 a.cq.lo, .int .i64 a.ledger, .int .i64 a.code, .int .i64 a.flags, .int .i64 a.stamp] 26 (0, 0)) from hb10); have F10 := Lib.hid (F7.out.then_ f10 (fun j hj => .inr (Nat.le_of_eq hj.symm))); have Bz10 := Lib.hid (f10.blk Bz7.out (by omega)); have hu := f10.blk HU.out (by omega); have hv := f10.blk HVv.out (by omega); have u0 := blk_cell hu 0 rfl; have u1 := blk_cell hu 1 rfl; have v0 := blk_cell hv 0 rfl; have v1 := blk_cell hv 1 rfl; clear hb10 f10 hu hv)
        | ((refine wpList_store_part rfl 24 (.tmp 77) (.tmp 76) rfl w.heap.size 4 #[.int .u64 a.dq.hi, .int .u64 a.dq.lo] rfl rfl Ba10.out (by show 4 + 2 ≤ 14; omega) rfl (by simp [Value.oneCell']) ?_); intro w11 hb11 f11; have Ba11 := Lib.hid (show w11.heap[w.heap.size]? = some (.cells #[.int .u64 a.id.hi, .int .u64 a.id.lo, .int .u64 s.hi, .int .u64 s.lo, .int .u64 a.dq.hi, .int .u64 a.dq.lo, .int .u64 a.cp.hi, .int .u64 a.cp.lo, .int .u64 a.cq.hi, .int .u64 a.cq.lo, .int .i64 a.ledger, .int .i64 a.code, .int .i64 a.flags, .int .i64 a.stamp] 26 (0, 0)) from hb11); have F11 := Lib.hid (F10.out.then_ f11 (fun j hj => .inr (Nat.le_of_eq hj.symm))); have Bz11 := Lib.hid (f11.blk Bz10.out (by omega)); clear hb11 f11)
        | ((with_reducible refine wpList_load_row_w ?lw 26 _ rfl w.heap.size rfl 26 _ _ _ Ba11.out Tryd.underlying26 rfl rfl ?_); (case lw => rfl))
        | ((refine wpList_store_row rfl 26 (.tmp 8) (.tmp 82) rfl (w.heap.size + 1 + 1) #[.int .u64 a.id.hi, .int .u64 a.id.lo, .int .u64 s.hi, .int .u64 s.lo, .int .u64 a.dq.hi, .int .u64 a.dq.lo, .int .u64 a.cp.hi, .int .u64 a.cp.lo, .int .u64 a.cq.hi, .int .u64 a.cq.lo, .int .i64 a.ledger, .int .i64 a.code, .int .i64 a.flags, .int .i64 a.stamp] rfl rfl Bz11.out rfl rfl (by simp [Value.oneCell']) ?_); intro w9 hb9 f9; have HB9 := Lib.hid hb9; have F9 := Lib.hid f9; clear hb9 f9)
        | fail)
      refine bodyPost_ret (results_cell2 (p := 8) (q := 9) rfl _ _ (w.heap.size + 1 + 1) 26 _ (0, 0) _ rfl HB9.out Tryd.underlying26 rfl rfl) rfl ?_
      exact ⟨by rw [HV1.out, HV2.out, ← HSs.out]; rfl, F11.out.then_ F9.out (fun k hk => .inr (by omega))⟩

  · have HV1 := Lib.hid (show MA = a from HMA.out.symm)
    have HV2 := Lib.hid (show MR = 33 from HMR.out.symm)
    go_wp2_with (first
      | ((with_reducible refine wpList_load_row_w ?lw 26 _ rfl w.heap.size rfl 26 _ _ _ Ba5.out Tryd.underlying26 rfl rfl ?_); (case lw => rfl))
      | ((refine wpList_store_row rfl 26 (.tmp 8) (.tmp 58) rfl (w.heap.size + 1 + 1) #[.int .u64 a.id.hi, .int .u64 a.id.lo, .int .u64 a.dp.hi, .int .u64 a.dp.lo, .int .u64 a.dq.hi, .int .u64 a.dq.lo, .int .u64 a.cp.hi, .int .u64 a.cp.lo, .int .u64 a.cq.hi, .int .u64 a.cq.lo, .int .i64 a.ledger, .int .i64 a.code, .int .i64 a.flags, .int .i64 a.stamp] rfl rfl Bz5.out rfl rfl (by simp [Value.oneCell']) ?_); intro w9 hb9 f9; have HB9 := Lib.hid hb9; have F9 := Lib.hid f9; clear hb9 f9)
      | fail)
    refine bodyPost_ret (results_cell2 (p := 8) (q := 9) rfl _ _ (w.heap.size + 1 + 1) 26 _ (0, 0) _ rfl HB9.out Tryd.underlying26 rfl rfl) rfl ?_
    exact ⟨by rw [HV1.out, HV2.out]; rfl, F5.out.then_ F9.out (fun k hk => .inr (by omega))⟩
set_option maxRecDepth 4000 in
set_option maxHeartbeats 6400000 in
theorem moreF_any (w : World) (a : Acc) (n : Nm) (pn : Bool) (ha0 : a.ok) (hn0 : n.ok) :
    Calls Tryd.prog 12 #[.agg #[.int .u64 a.id.hi, .int .u64 a.id.lo, .int .u64 a.dp.hi, .int .u64 a.dp.lo, .int .u64 a.dq.hi, .int .u64 a.dq.lo, .int .u64 a.cp.hi, .int .u64 a.cp.lo, .int .u64 a.cq.hi, .int .u64 a.cq.lo, .int .i64 a.ledger, .int .i64 a.code, .int .i64 a.flags, .int .i64 a.stamp], .bool false, .agg #[.int .u64 n.hi, .int .u64 n.lo], .bool pn] w fun e w' => e = .returned (.tuple #[(moreA a false n pn).val, .int .i64 (moreR a false n)]) ∧ Fr (fun _ => False) w w' := by
  have ha := Lib.hid ha0
  have hn := Lib.hid hn0
  have Ba := Lib.hid (blk_alloc (blk_alloc (blk_alloc (blk_alloc (heap_alloc_new w (.cells #[.int .u64 a.id.hi, .int .u64 a.id.lo, .int .u64 a.dp.hi, .int .u64 a.dp.lo, .int .u64 a.dq.hi, .int .u64 a.dq.lo, .int .u64 a.cp.hi, .int .u64 a.cp.lo, .int .u64 a.cq.hi, .int .u64 a.cq.lo, .int .i64 a.ledger, .int .i64 a.code, .int .i64 a.flags, .int .i64 a.stamp] 26)) (.cells #[.int .u64 n.hi, .int .u64 n.lo] 24)) (.cells #[.int .u64 0, .int .u64 0, .int .u64 0, .int .u64 0, .int .u64 0, .int .u64 0, .int .u64 0, .int .u64 0, .int .u64 0, .int .u64 0, .int .i64 0, .int .i64 0, .int .i64 0, .int .i64 0] 26)) (.cells #[.int .u64 a.cp.hi, .int .u64 a.cp.lo] 24)) (.cells #[.int .u64 a.cq.hi, .int .u64 a.cq.lo] 24))
  have Bn := Lib.hid (blk_alloc (blk_alloc (blk_alloc (blk1 w (.cells #[.int .u64 a.id.hi, .int .u64 a.id.lo, .int .u64 a.dp.hi, .int .u64 a.dp.lo, .int .u64 a.dq.hi, .int .u64 a.dq.lo, .int .u64 a.cp.hi, .int .u64 a.cp.lo, .int .u64 a.cq.hi, .int .u64 a.cq.lo, .int .i64 a.ledger, .int .i64 a.code, .int .i64 a.flags, .int .i64 a.stamp] 26) (.cells #[.int .u64 n.hi, .int .u64 n.lo] 24)) (.cells #[.int .u64 0, .int .u64 0, .int .u64 0, .int .u64 0, .int .u64 0, .int .u64 0, .int .u64 0, .int .u64 0, .int .u64 0, .int .u64 0, .int .i64 0, .int .i64 0, .int .i64 0, .int .i64 0] 26)) (.cells #[.int .u64 a.cp.hi, .int .u64 a.cp.lo] 24)) (.cells #[.int .u64 a.cq.hi, .int .u64 a.cq.lo] 24))
  have Bz := Lib.hid (blk_alloc (blk_alloc (blk2 w (.cells #[.int .u64 a.id.hi, .int .u64 a.id.lo, .int .u64 a.dp.hi, .int .u64 a.dp.lo, .int .u64 a.dq.hi, .int .u64 a.dq.lo, .int .u64 a.cp.hi, .int .u64 a.cp.lo, .int .u64 a.cq.hi, .int .u64 a.cq.lo, .int .i64 a.ledger, .int .i64 a.code, .int .i64 a.flags, .int .i64 a.stamp] 26) (.cells #[.int .u64 n.hi, .int .u64 n.lo] 24) (.cells #[.int .u64 0, .int .u64 0, .int .u64 0, .int .u64 0, .int .u64 0, .int .u64 0, .int .u64 0, .int .u64 0, .int .u64 0, .int .u64 0, .int .i64 0, .int .i64 0, .int .i64 0, .int .i64 0] 26)) (.cells #[.int .u64 a.cp.hi, .int .u64 a.cp.lo] 24)) (.cells #[.int .u64 a.cq.hi, .int .u64 a.cq.lo] 24))
  have Bx := Lib.hid (blk_alloc (blk3 w (.cells #[.int .u64 a.id.hi, .int .u64 a.id.lo, .int .u64 a.dp.hi, .int .u64 a.dp.lo, .int .u64 a.dq.hi, .int .u64 a.dq.lo, .int .u64 a.cp.hi, .int .u64 a.cp.lo, .int .u64 a.cq.hi, .int .u64 a.cq.lo, .int .i64 a.ledger, .int .i64 a.code, .int .i64 a.flags, .int .i64 a.stamp] 26) (.cells #[.int .u64 n.hi, .int .u64 n.lo] 24) (.cells #[.int .u64 0, .int .u64 0, .int .u64 0, .int .u64 0, .int .u64 0, .int .u64 0, .int .u64 0, .int .u64 0, .int .u64 0, .int .u64 0, .int .i64 0, .int .i64 0, .int .i64 0, .int .i64 0] 26) (.cells #[.int .u64 a.cp.hi, .int .u64 a.cp.lo] 24)) (.cells #[.int .u64 a.cq.hi, .int .u64 a.cq.lo] 24))
  have By := Lib.hid (blk4 w (.cells #[.int .u64 a.id.hi, .int .u64 a.id.lo, .int .u64 a.dp.hi, .int .u64 a.dp.lo, .int .u64 a.dq.hi, .int .u64 a.dq.lo, .int .u64 a.cp.hi, .int .u64 a.cp.lo, .int .u64 a.cq.hi, .int .u64 a.cq.lo, .int .i64 a.ledger, .int .i64 a.code, .int .i64 a.flags, .int .i64 a.stamp] 26) (.cells #[.int .u64 n.hi, .int .u64 n.lo] 24) (.cells #[.int .u64 0, .int .u64 0, .int .u64 0, .int .u64 0, .int .u64 0, .int .u64 0, .int .u64 0, .int .u64 0, .int .u64 0, .int .u64 0, .int .i64 0, .int .i64 0, .int .i64 0, .int .i64 0] 26) (.cells #[.int .u64 a.cp.hi, .int .u64 a.cp.lo] 24) (.cells #[.int .u64 a.cq.hi, .int .u64 a.cq.lo] 24))
  have FA := Lib.hid ((((((Fr.refl (fun _ => False) w).alloc (.cells #[.int .u64 a.id.hi, .int .u64 a.id.lo, .int .u64 a.dp.hi, .int .u64 a.dp.lo, .int .u64 a.dq.hi, .int .u64 a.dq.lo, .int .u64 a.cp.hi, .int .u64 a.cp.lo, .int .u64 a.cq.hi, .int .u64 a.cq.lo, .int .i64 a.ledger, .int .i64 a.code, .int .i64 a.flags, .int .i64 a.stamp] 26)).alloc (.cells #[.int .u64 n.hi, .int .u64 n.lo] 24)).alloc (.cells #[.int .u64 0, .int .u64 0, .int .u64 0, .int .u64 0, .int .u64 0, .int .u64 0, .int .u64 0, .int .u64 0, .int .u64 0, .int .u64 0, .int .i64 0, .int .i64 0, .int .i64 0, .int .i64 0] 26)).alloc (.cells #[.int .u64 a.cp.hi, .int .u64 a.cp.lo] 24)).alloc (.cells #[.int .u64 a.cq.hi, .int .u64 a.cq.lo] 24))
  have HP1 := Lib.hid (plus_any (((((w.alloc (.cells #[.int .u64 a.id.hi, .int .u64 a.id.lo, .int .u64 a.dp.hi, .int .u64 a.dp.lo, .int .u64 a.dq.hi, .int .u64 a.dq.lo, .int .u64 a.cp.hi, .int .u64 a.cp.lo, .int .u64 a.cq.hi, .int .u64 a.cq.lo, .int .i64 a.ledger, .int .i64 a.code, .int .i64 a.flags, .int .i64 a.stamp] 26)).alloc (.cells #[.int .u64 n.hi, .int .u64 n.lo] 24)).alloc (.cells #[.int .u64 0, .int .u64 0, .int .u64 0, .int .u64 0, .int .u64 0, .int .u64 0, .int .u64 0, .int .u64 0, .int .u64 0, .int .u64 0, .int .i64 0, .int .i64 0, .int .i64 0, .int .i64 0] 26)).alloc (.cells #[.int .u64 a.cp.hi, .int .u64 a.cp.lo] 24)).alloc (.cells #[.int .u64 a.cq.hi, .int .u64 a.cq.lo] 24)) a.cp a.cq ha0.cp ha0.cq)
  have HP2 := Lib.hid (fun W => plus_any W (nadd a.cp a.cq) n (nadd_ok ha0.cp ha0.cq) hn0)
  obtain ⟨s1, hs1⟩ : ∃ s, nadd a.cp a.cq = s := ⟨_, rfl⟩
  rw [hs1] at HP1 HP2
  obtain ⟨s2, hs2⟩ : ∃ s, nadd s1 n = s := ⟨_, rfl⟩
  obtain ⟨k1, hk1⟩ : ∃ k, nfit a.cp a.cq = k := ⟨_, rfl⟩
  obtain ⟨k2, hk2⟩ : ∃ k, nfit s1 n = k := ⟨_, rfl⟩
  rw [hk1] at HP1
  rw [hs2, hk2] at HP2
  have hov : ovf a.cp a.cq n = (k1 && k2) := by rw [ovf, hs1, hk1, hk2]
  obtain ⟨f, hf⟩ : ∃ f, bits .and .i64 a.flags 4 = f := ⟨_, rfl⟩
  obtain ⟨fo, hfo⟩ : ∃ fo, (f != 0) = fo := ⟨_, rfl⟩
  have HH := Lib.hid (fun W => refHave_any W a false ha0)
  have HLs := Lib.hid (fun W => refLess_any W (haveN a false) n (haveN_ok ha0) hn0)
  obtain ⟨hv, hhv⟩ : ∃ h, haveN a false = h := ⟨_, rfl⟩
  obtain ⟨ls, hls⟩ : ∃ l, nless hv n = l := ⟨_, rfl⟩
  obtain ⟨MA, hMA⟩ : ∃ m, moreA a false n pn = m := ⟨_, rfl⟩
  obtain ⟨MR, hMR⟩ : ∃ m, moreR a false n = m := ⟨_, rfl⟩
  rw [hhv] at HH HLs
  rw [hls] at HLs
  rw [hMA, hMR]
  have HMA := Lib.hid (show (if (k1 && k2) = true then (if (fo && ls) = true then a else updA a false n pn) else a) = MA from by rw [← hMA, moreA, flagOn]; simp only [if_pos, if_true, Bool.false_eq_true, if_false, reduceIte, hov, hf, hfo, hhv, hls])
  have HMR := Lib.hid (show (if (k1 && k2) = true then (if (fo && ls) = true then 34 else 0) else 32) = MR from by rw [← hMR, moreR, flagOn]; simp only [if_pos, if_true, Bool.false_eq_true, if_false, reduceIte, hov, hf, hfo, hhv, hls])
  clear hov hs1 hs2 hk1 hk2 hhv hls hMA hMR ha0 hn0
  obtain ⟨ok, hok⟩ : ∃ ok, (k1 && k2) = ok := ⟨_, rfl⟩
  rw [hok] at HMA HMR
  cases ok
  · have HV1 := Lib.hid (show MA = a from HMA.out.symm)
    have HV2 := Lib.hid (show MR = 32 from HMR.out.symm)
    clear hf hfo
    cases k1
    all_goals
      cases k2
    all_goals first
      | exact absurd hok (by decide)
      | (clear hok
         go_enter Tryd.func12, Tryd.ntmps12
         go_wp2_with fail
         refine HP1.out.mono ?_
         rintro e w2 ⟨rfl, f2⟩
         have F2 := Lib.hid ((FA.out.then_ f2 (fun _ h => h.elim)).alloc (.cells #[.int .u64 s1.hi, .int .u64 s1.lo] 24))
         have Ba2 := Lib.hid (blk_alloc (f2.blk Ba.out (fun h => h)) (.cells #[.int .u64 s1.hi, .int .u64 s1.lo] 24))
         have Bn2 := Lib.hid (blk_alloc (f2.blk Bn.out (fun h => h)) (.cells #[.int .u64 s1.hi, .int .u64 s1.lo] 24))
         have Bz2 := Lib.hid (blk_alloc (f2.blk Bz.out (fun h => h)) (.cells #[.int .u64 s1.hi, .int .u64 s1.lo] 24))
         have m0 := blk_cell Bn2.out 0 rfl
         have m1 := blk_cell Bn2.out 1 rfl
         clear f2
         go_wp2_with fail
         refine (HP2.out _).mono ?_
         rintro e w3 ⟨rfl, f3⟩
         have F3 := Lib.hid ((F2.out.then_ f3 (fun _ h => h.elim)).alloc (.cells #[.int .u64 s2.hi, .int .u64 s2.lo] 24))
         have Ba3 := Lib.hid (blk_alloc (f3.blk Ba2.out (fun h => h)) (.cells #[.int .u64 s2.hi, .int .u64 s2.lo] 24))
         have Bz3 := Lib.hid (blk_alloc (f3.blk Bz2.out (fun h => h)) (.cells #[.int .u64 s2.hi, .int .u64 s2.lo] 24))
         clear f3
         go_wp2_with (first
           | ((with_reducible refine wpList_load_row_w ?lw 26 _ rfl w.heap.size rfl 26 _ _ _ Ba3.out Tryd.underlying26 rfl rfl ?_); (case lw => rfl))
           | ((refine wpList_store_row rfl 26 (.tmp 8) (.tmp 44) rfl (w.heap.size + 1 + 1) #[.int .u64 a.id.hi, .int .u64 a.id.lo, .int .u64 a.dp.hi, .int .u64 a.dp.lo, .int .u64 a.dq.hi, .int .u64 a.dq.lo, .int .u64 a.cp.hi, .int .u64 a.cp.lo, .int .u64 a.cq.hi, .int .u64 a.cq.lo, .int .i64 a.ledger, .int .i64 a.code, .int .i64 a.flags, .int .i64 a.stamp] rfl rfl Bz3.out rfl rfl (by simp [Value.oneCell']) ?_); intro w9 hb9 f9; have HB9 := Lib.hid hb9; have F9 := Lib.hid f9; clear hb9 f9)
           | fail)
         refine bodyPost_ret (results_cell2 (p := 8) (q := 9) rfl _ _ (w.heap.size + 1 + 1) 26 _ (0, 0) _ rfl HB9.out Tryd.underlying26 rfl rfl) rfl ?_
         exact ⟨by rw [HV1.out, HV2.out]; rfl, F3.out.then_ F9.out (fun k hk => .inr (by omega))⟩)
  obtain ⟨rfl, rfl⟩ : k1 = true ∧ k2 = true := by simpa using hok
  clear hok
  go_enter Tryd.func12, Tryd.ntmps12
  go_wp2_with fail
  refine HP1.out.mono ?_
  rintro e w2 ⟨rfl, f2⟩
  have F2 := Lib.hid ((FA.out.then_ f2 (fun _ h => h.elim)).alloc (.cells #[.int .u64 s1.hi, .int .u64 s1.lo] 24))
  have Ba2 := Lib.hid (blk_alloc (f2.blk Ba.out (fun h => h)) (.cells #[.int .u64 s1.hi, .int .u64 s1.lo] 24))
  have Bn2 := Lib.hid (blk_alloc (f2.blk Bn.out (fun h => h)) (.cells #[.int .u64 s1.hi, .int .u64 s1.lo] 24))
  have Bz2 := Lib.hid (blk_alloc (f2.blk Bz.out (fun h => h)) (.cells #[.int .u64 s1.hi, .int .u64 s1.lo] 24))
  have Bx2 := Lib.hid (blk_alloc (f2.blk Bx.out (fun h => h)) (.cells #[.int .u64 s1.hi, .int .u64 s1.lo] 24))
  have By2 := Lib.hid (blk_alloc (f2.blk By.out (fun h => h)) (.cells #[.int .u64 s1.hi, .int .u64 s1.lo] 24))
  have m0 := blk_cell Bn2.out 0 rfl
  have m1 := blk_cell Bn2.out 1 rfl
  clear f2
  go_wp2_with fail
  refine (HP2.out _).mono ?_
  rintro e w3 ⟨rfl, f3⟩
  have F3 := Lib.hid ((F2.out.then_ f3 (fun _ h => h.elim)).alloc (.cells #[.int .u64 s2.hi, .int .u64 s2.lo] 24))
  have Ba3 := Lib.hid (blk_alloc (f3.blk Ba2.out (fun h => h)) (.cells #[.int .u64 s2.hi, .int .u64 s2.lo] 24))
  have Bn3 := Lib.hid (blk_alloc (f3.blk Bn2.out (fun h => h)) (.cells #[.int .u64 s2.hi, .int .u64 s2.lo] 24))
  have Bz3 := Lib.hid (blk_alloc (f3.blk Bz2.out (fun h => h)) (.cells #[.int .u64 s2.hi, .int .u64 s2.lo] 24))
  have Bx3 := Lib.hid (blk_alloc (f3.blk Bx2.out (fun h => h)) (.cells #[.int .u64 s2.hi, .int .u64 s2.lo] 24))
  have By3 := Lib.hid (blk_alloc (f3.blk By2.out (fun h => h)) (.cells #[.int .u64 s2.hi, .int .u64 s2.lo] 24))
  clear f3 m0 m1
  obtain ⟨wp, hwp⟩ : ∃ W, w3.alloc (.cells #[.int .u64 s2.hi, .int .u64 s2.lo] 24) = W := ⟨_, rfl⟩
  rw [hwp] at F3 Ba3 Bn3 Bz3 Bx3 By3
  have q0 := blk_cell Ba3.out 0 rfl; have q1 := blk_cell Ba3.out 1 rfl; have q2 := blk_cell Ba3.out 2 rfl; have q3 := blk_cell Ba3.out 3 rfl; have q4 := blk_cell Ba3.out 4 rfl; have q5 := blk_cell Ba3.out 5 rfl; have q6 := blk_cell Ba3.out 6 rfl; have q7 := blk_cell Ba3.out 7 rfl; have q8 := blk_cell Ba3.out 8 rfl; have q9 := blk_cell Ba3.out 9 rfl; have q10 := blk_cell Ba3.out 10 rfl; have q11 := blk_cell Ba3.out 11 rfl; have q12 := blk_cell Ba3.out 12 rfl; have q13 := blk_cell Ba3.out 13 rfl
  have n0 := blk_cell Bn3.out 0 rfl; have n1 := blk_cell Bn3.out 1 rfl
  go_upto_region 12 with fail
  (try rw [hwp])
  clear hwp
  go_cut [56] from 45 (fun c w' => c = .bool (fo && ls) ∧ w'.heap[w.heap.size]? = some (.cells #[.int .u64 a.id.hi, .int .u64 a.id.lo, .int .u64 a.dp.hi, .int .u64 a.dp.lo, .int .u64 a.dq.hi, .int .u64 a.dq.lo, .int .u64 a.cp.hi, .int .u64 a.cp.lo, .int .u64 a.cq.hi, .int .u64 a.cq.lo, .int .i64 a.ledger, .int .i64 a.code, .int .i64 a.flags, .int .i64 a.stamp] 26 (0, 0)) ∧ w'.heap[w.heap.size + 1]? = some (.cells #[.int .u64 n.hi, .int .u64 n.lo] 24 (0, 0)) ∧ w'.heap[w.heap.size + 1 + 1]? = some (.cells #[.int .u64 0, .int .u64 0, .int .u64 0, .int .u64 0, .int .u64 0, .int .u64 0, .int .u64 0, .int .u64 0, .int .u64 0, .int .u64 0, .int .i64 0, .int .i64 0, .int .i64 0, .int .i64 0] 26 (0, 0)) ∧ w'.heap[w.heap.size + 1 + 1 + 1]? = some (.cells #[.int .u64 a.cp.hi, .int .u64 a.cp.lo] 24 (0, 0)) ∧ w'.heap[w.heap.size + 1 + 1 + 1 + 1]? = some (.cells #[.int .u64 a.cq.hi, .int .u64 a.cq.lo] 24 (0, 0)) ∧ Fr (fun _ => False) w w')
  case first =>
    cases fo
    · go_quiet (fail)
      go_wp2_with fail
      go_meet
      exact ⟨rfl, Ba3.out, Bn3.out, Bz3.out, Bx3.out, By3.out, F3.out.drewN _⟩
    · go_region_held3 (fun w' => w'.cell? ⟨w.heap.size, 0, none⟩ = some (Value.int .u64 a.id.hi) ∧ w'.cell? ⟨w.heap.size, 1, none⟩ = some (Value.int .u64 a.id.lo) ∧ w'.cell? ⟨w.heap.size, 2, none⟩ = some (Value.int .u64 a.dp.hi) ∧ w'.cell? ⟨w.heap.size, 3, none⟩ = some (Value.int .u64 a.dp.lo) ∧ w'.cell? ⟨w.heap.size, 4, none⟩ = some (Value.int .u64 a.dq.hi) ∧ w'.cell? ⟨w.heap.size, 5, none⟩ = some (Value.int .u64 a.dq.lo) ∧ w'.cell? ⟨w.heap.size, 6, none⟩ = some (Value.int .u64 a.cp.hi) ∧ w'.cell? ⟨w.heap.size, 7, none⟩ = some (Value.int .u64 a.cp.lo) ∧ w'.cell? ⟨w.heap.size, 8, none⟩ = some (Value.int .u64 a.cq.hi) ∧ w'.cell? ⟨w.heap.size, 9, none⟩ = some (Value.int .u64 a.cq.lo) ∧ w'.cell? ⟨w.heap.size, 10, none⟩ = some (Value.int .i64 a.ledger) ∧ w'.cell? ⟨w.heap.size, 11, none⟩ = some (Value.int .i64 a.code) ∧ w'.cell? ⟨w.heap.size, 12, none⟩ = some (Value.int .i64 a.flags) ∧ w'.cell? ⟨w.heap.size, 13, none⟩ = some (Value.int .i64 a.stamp) ∧ w'.cell? ⟨w.heap.size + 1, 0, none⟩ = some (Value.int .u64 n.hi) ∧ w'.cell? ⟨w.heap.size + 1, 1, none⟩ = some (Value.int .u64 n.lo))
        (first | exact ⟨q0, q1, q2, q3, q4, q5, q6, q7, q8, q9, q10, q11, q12, q13, n0, n1⟩ | go_keep)
        (first
          | (go_at_call 14; (with_reducible refine (HH.out wp.drew).mono ?_); rintro e w4 ⟨rfl, f4⟩; have F4 := Lib.hid (F3.out.drew.then_ f4 (fun _ h => h.elim)); have Ba4 := Lib.hid (f4.blk (blk_drew Ba3.out) (fun h => h)); have Bn4 := Lib.hid (f4.blk (blk_drew Bn3.out) (fun h => h)); have Bz4 := Lib.hid (f4.blk (blk_drew Bz3.out) (fun h => h)); have Bx4 := Lib.hid (f4.blk (blk_drew Bx3.out) (fun h => h)); have By4 := Lib.hid (f4.blk (blk_drew By3.out) (fun h => h)); have q0 := blk_cell Ba4.out 0 rfl; have q1 := blk_cell Ba4.out 1 rfl; have q2 := blk_cell Ba4.out 2 rfl; have q3 := blk_cell Ba4.out 3 rfl; have q4 := blk_cell Ba4.out 4 rfl; have q5 := blk_cell Ba4.out 5 rfl; have q6 := blk_cell Ba4.out 6 rfl; have q7 := blk_cell Ba4.out 7 rfl; have q8 := blk_cell Ba4.out 8 rfl; have q9 := blk_cell Ba4.out 9 rfl; have q10 := blk_cell Ba4.out 10 rfl; have q11 := blk_cell Ba4.out 11 rfl; have q12 := blk_cell Ba4.out 12 rfl; have q13 := blk_cell Ba4.out 13 rfl; have n0 := blk_cell Bn4.out 0 rfl; have n1 := blk_cell Bn4.out 1 rfl; clear f4)
          | (go_at_call 46; (with_reducible refine (HLs.out _).mono ?_); rintro e w5 ⟨rfl, f5⟩; have F5 := Lib.hid (F4.out.then_ f5 (fun _ h => h.elim)); have Ba5 := Lib.hid (f5.blk Ba4.out (fun h => h)); have Bn5 := Lib.hid (f5.blk Bn4.out (fun h => h)); have Bz5 := Lib.hid (f5.blk Bz4.out (fun h => h)); have Bx5 := Lib.hid (f5.blk Bx4.out (fun h => h)); have By5 := Lib.hid (f5.blk By4.out (fun h => h)); have q0 := blk_cell Ba5.out 0 rfl; have q1 := blk_cell Ba5.out 1 rfl; have q2 := blk_cell Ba5.out 2 rfl; have q3 := blk_cell Ba5.out 3 rfl; have q4 := blk_cell Ba5.out 4 rfl; have q5 := blk_cell Ba5.out 5 rfl; have q6 := blk_cell Ba5.out 6 rfl; have q7 := blk_cell Ba5.out 7 rfl; have q8 := blk_cell Ba5.out 8 rfl; have q9 := blk_cell Ba5.out 9 rfl; have q10 := blk_cell Ba5.out 10 rfl; have q11 := blk_cell Ba5.out 11 rfl; have q12 := blk_cell Ba5.out 12 rfl; have q13 := blk_cell Ba5.out 13 rfl; have n0 := blk_cell Bn5.out 0 rfl; have n1 := blk_cell Bn5.out 1 rfl; clear f5))
      go_wp2_with fail
      go_meet
      exact ⟨rfl, Ba5.out, Bn5.out, Bz5.out, Bx5.out, By5.out, F5.out⟩
  case rest =>
  clear q0 q1 q2 q3 q4 q5 q6 q7 q8 q9 q10 q11 q12 q13 n0 n1
  obtain ⟨rfl, hba, hbn, hbz, hbx, hby, hff⟩ := hcut
  have Ba5 := Lib.hid hba
  have Bn5 := Lib.hid hbn
  have Bz5 := Lib.hid hbz
  have Bx5 := Lib.hid hbx
  have By5 := Lib.hid hby
  have F5 := Lib.hid hff
  clear hba hbn hbz hbx hby hff hf hfo
  obtain ⟨c, hc⟩ : ∃ c, (fo && ls) = c := ⟨_, rfl⟩
  rw [hc] at HMA HMR ⊢
  clear hc
  obtain ⟨wq, hwq⟩ : ∃ W : World, W = wc := ⟨_, rfl⟩
  subst hwq
  cases c
  · have HV2 := Lib.hid (show MR = 0 from HMR.out.symm)
    cases pn
    · have HV1 := Lib.hid (show MA = updA a false n false from HMA.out.symm)
      have x0 := blk_cell Bx5.out 0 rfl; have x1 := blk_cell Bx5.out 1 rfl; have y0 := blk_cell By5.out 0 rfl; have y1 := blk_cell By5.out 1 rfl
      have n0 := blk_cell Bn5.out 0 rfl; have n1 := blk_cell Bn5.out 1 rfl
      have HPd := Lib.hid (plus_any wq a.cq n ha.out.cq hn.out)
      obtain ⟨s, hs⟩ : ∃ s, nadd a.cq n = s := ⟨_, rfl⟩
      rw [hs] at HPd
      have HSs := Lib.hid hs
      clear hs
      go_wp2_with fail
      refine HPd.out.mono ?_
      rintro e w6 ⟨rfl, f6⟩
      have F6 := Lib.hid (F5.out.then_ f6 (fun _ h => h.elim))
      have Ba6 := Lib.hid (f6.blk Ba5.out (fun h => h))
      have Bn6 := Lib.hid (f6.blk Bn5.out (fun h => h))
      have Bz6 := Lib.hid (f6.blk Bz5.out (fun h => h))
      have Bx6 := Lib.hid (f6.blk Bx5.out (fun h => h))
      have By6 := Lib.hid (f6.blk By5.out (fun h => h))
      clear f6
      go_wp2_with (first
        | ((refine wpList_store_row rfl 24 (.tmp 11) (.tmp 71) rfl (w.heap.size + 1 + 1 + 1 + 1) #[.int .u64 s.hi, .int .u64 s.lo] rfl rfl By6.out rfl rfl (by simp [Value.oneCell']) ?_); intro w7 hb7 f7; have F7 := Lib.hid (F6.out.then_ f7 (fun j hj => .inr (by omega))); have Ba7 := Lib.hid (f7.blk Ba6.out (by omega)); have Bz7 := Lib.hid (f7.blk Bz6.out (by omega)); have Bx7 := f7.blk Bx6.out (by omega); have u0 := blk_cell hb7 0 rfl; have u1 := blk_cell hb7 1 rfl; have v0 := blk_cell Bx7 0 rfl; have v1 := blk_cell Bx7 1 rfl; have HU := Lib.hid hb7; have HVv := Lib.hid Bx7; clear f7 hb7 Bx7)
        | ((refine wpList_store_part rfl 24 (.tmp 79) (.tmp 78) rfl w.heap.size 6 #[.int .u64 a.cp.hi, .int .u64 a.cp.lo] rfl rfl Ba7.out (by show 6 + 2 ≤ 14; omega) rfl (by simp [Value.oneCell']) ?_); intro w10 hb10 f10; have Ba10 := Lib.hid (show w10.heap[w.heap.size]? = some (.cells #[.int .u64 a.id.hi, .int .u64 a.id.lo, .int .u64 a.dp.hi, .int .u64 a.dp.lo, .int .u64 a.dq.hi, .int .u64 a.dq.lo, .int .u64 a.cp.hi, .int .u64 a.cp.lo, .int .u64 a.cq.hi, .int .u64 a.cq.lo, .int .i64 a.ledger, .int .i64 a.code, .int .i64 a.flags, .int .i64 a.stamp] 26 (0, 0)) from hb10); have F10 := Lib.hid (F7.out.then_ f10 (fun j hj => .inr (Nat.le_of_eq hj.symm))); have Bz10 := Lib.hid (f10.blk Bz7.out (by omega)); have hu := f10.blk HU.out (by omega); have hv := f10.blk HVv.out (by omega); have u0 := blk_cell hu 0 rfl; have u1 := blk_cell hu 1 rfl; have v0 := blk_cell hv 0 rfl; have v1 := blk_cell hv 1 rfl; clear hb10 f10 hu hv)
        | ((refine wpList_store_part rfl 24 (.tmp 81) (.tmp 80) rfl w.heap.size 8 #[.int .u64 s.hi, .int .u64 s.lo] rfl rfl Ba10.out (by show 8 + 2 ≤ 14; omega) rfl (by simp [Value.oneCell']) ?_); intro w11 hb11 f11; have Ba11 := Lib.hid (show w11.heap[w.heap.size]? = some (.cells #[.int .u64 a.id.hi, .int .u64 a.id.lo, .int .u64 a.dp.hi, .int .u64 a.dp.lo, .int .u64 a.dq.hi, .int .u64 a.dq.lo, .int .u64 a.cp.hi, .int .u64 a.cp.lo, .int .u64 s.hi, .int .u64 s.lo, .int .i64 a.ledger, .int .i64 a.code, .int .i64 a.flags, .int .i64 a.stamp] 26 (0, 0)) from hb11); have F11 := Lib.hid (F10.out.then_ f11 (fun j hj => .inr (Nat.le_of_eq hj.symm))); have Bz11 := Lib.hid (f11.blk Bz10.out (by omega)); clear hb11 f11)
        | ((with_reducible refine wpList_load_row_w ?lw 26 _ rfl w.heap.size rfl 26 _ _ _ Ba11.out Tryd.underlying26 rfl rfl ?_); (case lw => rfl))
        | ((refine wpList_store_row rfl 26 (.tmp 8) (.tmp 82) rfl (w.heap.size + 1 + 1) #[.int .u64 a.id.hi, .int .u64 a.id.lo, .int .u64 a.dp.hi, .int .u64 a.dp.lo, .int .u64 a.dq.hi, .int .u64 a.dq.lo, .int .u64 a.cp.hi, .int .u64 a.cp.lo, .int .u64 s.hi, .int .u64 s.lo, .int .i64 a.ledger, .int .i64 a.code, .int .i64 a.flags, .int .i64 a.stamp] rfl rfl Bz11.out rfl rfl (by simp [Value.oneCell']) ?_); intro w9 hb9 f9; have HB9 := Lib.hid hb9; have F9 := Lib.hid f9; clear hb9 f9)
        | fail)
      refine bodyPost_ret (results_cell2 (p := 8) (q := 9) rfl _ _ (w.heap.size + 1 + 1) 26 _ (0, 0) _ rfl HB9.out Tryd.underlying26 rfl rfl) rfl ?_
      exact ⟨by rw [HV1.out, HV2.out, ← HSs.out]; rfl, F11.out.then_ F9.out (fun k hk => .inr (by omega))⟩

    · have HV1 := Lib.hid (show MA = updA a false n true from HMA.out.symm)
      have x0 := blk_cell Bx5.out 0 rfl; have x1 := blk_cell Bx5.out 1 rfl; have y0 := blk_cell By5.out 0 rfl; have y1 := blk_cell By5.out 1 rfl
      have n0 := blk_cell Bn5.out 0 rfl; have n1 := blk_cell Bn5.out 1 rfl
      have HPd := Lib.hid (plus_any wq a.cp n ha.out.cp hn.out)
      obtain ⟨s, hs⟩ : ∃ s, nadd a.cp n = s := ⟨_, rfl⟩
      rw [hs] at HPd
      have HSs := Lib.hid hs
      clear hs
      go_wp2_with fail
      refine HPd.out.mono ?_
      rintro e w6 ⟨rfl, f6⟩
      have F6 := Lib.hid (F5.out.then_ f6 (fun _ h => h.elim))
      have Ba6 := Lib.hid (f6.blk Ba5.out (fun h => h))
      have Bn6 := Lib.hid (f6.blk Bn5.out (fun h => h))
      have Bz6 := Lib.hid (f6.blk Bz5.out (fun h => h))
      have Bx6 := Lib.hid (f6.blk Bx5.out (fun h => h))
      have By6 := Lib.hid (f6.blk By5.out (fun h => h))
      clear f6
      go_wp2_with (first
        | ((refine wpList_store_row rfl 24 (.tmp 10) (.tmp 65) rfl (w.heap.size + 1 + 1 + 1) #[.int .u64 s.hi, .int .u64 s.lo] rfl rfl Bx6.out rfl rfl (by simp [Value.oneCell']) ?_); intro w7 hb7 f7; have F7 := Lib.hid (F6.out.then_ f7 (fun j hj => .inr (by omega))); have Ba7 := Lib.hid (f7.blk Ba6.out (by omega)); have Bz7 := Lib.hid (f7.blk Bz6.out (by omega)); have By7 := f7.blk By6.out (by omega); have u0 := blk_cell hb7 0 rfl; have u1 := blk_cell hb7 1 rfl; have v0 := blk_cell By7 0 rfl; have v1 := blk_cell By7 1 rfl; have HU := Lib.hid hb7; have HVv := Lib.hid By7; clear f7 hb7 By7)
        | ((refine wpList_store_part rfl 24 (.tmp 79) (.tmp 78) rfl w.heap.size 6 #[.int .u64 s.hi, .int .u64 s.lo] rfl rfl Ba7.out (by show 6 + 2 ≤ 14; omega) rfl (by simp [Value.oneCell']) ?_); intro w10 hb10 f10; have Ba10 := Lib.hid (show w10.heap[w.heap.size]? = some (.cells #[.int .u64 a.id.hi, .int .u64 a.id.lo, .int .u64 a.dp.hi, .int .u64 a.dp.lo, .int .u64 a.dq.hi, .int .u64 a.dq.lo, .int .u64 s.hi, .int .u64 s.lo, .int .u64 a.cq.hi, .int .u64 a.cq.lo, .int .i64 a.ledger, .int .i64 a.code, .int .i64 a.flags, .int .i64 a.stamp] 26 (0, 0)) from hb10); have F10 := Lib.hid (F7.out.then_ f10 (fun j hj => .inr (Nat.le_of_eq hj.symm))); have Bz10 := Lib.hid (f10.blk Bz7.out (by omega)); have hu := f10.blk HU.out (by omega); have hv := f10.blk HVv.out (by omega); have u0 := blk_cell hu 0 rfl; have u1 := blk_cell hu 1 rfl; have v0 := blk_cell hv 0 rfl; have v1 := blk_cell hv 1 rfl; clear hb10 f10 hu hv)
        | ((refine wpList_store_part rfl 24 (.tmp 81) (.tmp 80) rfl w.heap.size 8 #[.int .u64 a.cq.hi, .int .u64 a.cq.lo] rfl rfl Ba10.out (by show 8 + 2 ≤ 14; omega) rfl (by simp [Value.oneCell']) ?_); intro w11 hb11 f11; have Ba11 := Lib.hid (show w11.heap[w.heap.size]? = some (.cells #[.int .u64 a.id.hi, .int .u64 a.id.lo, .int .u64 a.dp.hi, .int .u64 a.dp.lo, .int .u64 a.dq.hi, .int .u64 a.dq.lo, .int .u64 s.hi, .int .u64 s.lo, .int .u64 a.cq.hi, .int .u64 a.cq.lo, .int .i64 a.ledger, .int .i64 a.code, .int .i64 a.flags, .int .i64 a.stamp] 26 (0, 0)) from hb11); have F11 := Lib.hid (F10.out.then_ f11 (fun j hj => .inr (Nat.le_of_eq hj.symm))); have Bz11 := Lib.hid (f11.blk Bz10.out (by omega)); clear hb11 f11)
        | ((with_reducible refine wpList_load_row_w ?lw 26 _ rfl w.heap.size rfl 26 _ _ _ Ba11.out Tryd.underlying26 rfl rfl ?_); (case lw => rfl))
        | ((refine wpList_store_row rfl 26 (.tmp 8) (.tmp 82) rfl (w.heap.size + 1 + 1) #[.int .u64 a.id.hi, .int .u64 a.id.lo, .int .u64 a.dp.hi, .int .u64 a.dp.lo, .int .u64 a.dq.hi, .int .u64 a.dq.lo, .int .u64 s.hi, .int .u64 s.lo, .int .u64 a.cq.hi, .int .u64 a.cq.lo, .int .i64 a.ledger, .int .i64 a.code, .int .i64 a.flags, .int .i64 a.stamp] rfl rfl Bz11.out rfl rfl (by simp [Value.oneCell']) ?_); intro w9 hb9 f9; have HB9 := Lib.hid hb9; have F9 := Lib.hid f9; clear hb9 f9)
        | fail)
      refine bodyPost_ret (results_cell2 (p := 8) (q := 9) rfl _ _ (w.heap.size + 1 + 1) 26 _ (0, 0) _ rfl HB9.out Tryd.underlying26 rfl rfl) rfl ?_
      exact ⟨by rw [HV1.out, HV2.out, ← HSs.out]; rfl, F11.out.then_ F9.out (fun k hk => .inr (by omega))⟩

  · have HV1 := Lib.hid (show MA = a from HMA.out.symm)
    have HV2 := Lib.hid (show MR = 34 from HMR.out.symm)
    go_wp2_with (first
      | ((with_reducible refine wpList_load_row_w ?lw 26 _ rfl w.heap.size rfl 26 _ _ _ Ba5.out Tryd.underlying26 rfl rfl ?_); (case lw => rfl))
      | ((refine wpList_store_row rfl 26 (.tmp 8) (.tmp 59) rfl (w.heap.size + 1 + 1) #[.int .u64 a.id.hi, .int .u64 a.id.lo, .int .u64 a.dp.hi, .int .u64 a.dp.lo, .int .u64 a.dq.hi, .int .u64 a.dq.lo, .int .u64 a.cp.hi, .int .u64 a.cp.lo, .int .u64 a.cq.hi, .int .u64 a.cq.lo, .int .i64 a.ledger, .int .i64 a.code, .int .i64 a.flags, .int .i64 a.stamp] rfl rfl Bz5.out rfl rfl (by simp [Value.oneCell']) ?_); intro w9 hb9 f9; have HB9 := Lib.hid hb9; have F9 := Lib.hid f9; clear hb9 f9)
      | fail)
    refine bodyPost_ret (results_cell2 (p := 8) (q := 9) rfl _ _ (w.heap.size + 1 + 1) 26 _ (0, 0) _ rfl HB9.out Tryd.underlying26 rfl rfl) rfl ?_
    exact ⟨by rw [HV1.out, HV2.out]; rfl, F5.out.then_ F9.out (fun k hk => .inr (by omega))⟩

end Go.Proofs.YtjchjpmgbmeohaaDoor
