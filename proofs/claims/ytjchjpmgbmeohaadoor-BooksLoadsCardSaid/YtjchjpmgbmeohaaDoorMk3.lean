/- Several texts in one, for the law BooksBack: BkJ, Rw, BkK, BaseS, Bits, PrA. Each says what it shows; conditions: what each theorem names. -/
import Derived.Test.YtjchjpmgbmeohaaDoorMk2
import Derived.Test.YtjchjpmgbmeohaaDoorMk1
import Derived.Deep.AppendLies
import Derived.Deep.AppendSrc
import Derived.WalkKit
import Derived.BigQuiet
import Derived.Lib.Hide
import Derived.Deep.DeepMust
import Derived.Deep.CutBlock
import Derived.Deep.RegionLaw
import Derived.KernelRfl
/- The document's More. -/
set_option linter.unusedSimpArgs false
set_option linter.unusedVariables false
namespace Go.Proofs.YtjchjpmgbmeohaaDoor
open Go.RowKit

theorem blk4 (w : World) (a b c d e : Obj) : (((((w.alloc a).alloc b).alloc c).alloc d).alloc e).heap[w.heap.size + 1 + 1 + 1 + 1]? = some e := by
  have h := heap_alloc_new ((((w.alloc a).alloc b).alloc c).alloc d) e
  simpa using h

set_option maxRecDepth 4000 in
set_option maxHeartbeats 6400000 in
theorem moreT_any (w : World) (a : Acc) (n : Nm) (pn : Bool) (ha0 : a.ok) (hn0 : n.ok) :
    Calls Tryd.prog 12 #[.agg #[.int .u64 a.id.hi, .int .u64 a.id.lo, .int .u64 a.dp.hi, .int .u64 a.dp.lo, .int .u64 a.dq.hi, .int .u64 a.dq.lo, .int .u64 a.cp.hi, .int .u64 a.cp.lo, .int .u64 a.cq.hi, .int .u64 a.cq.lo, .int .i64 a.ledger, .int .i64 a.code, .int .i64 a.flags, .int .i64 a.stamp], .bool true, .agg #[.int .u64 n.hi, .int .u64 n.lo], .bool pn] w fun e w' => e = .returned (.tuple #[(moreA a true n pn).val, .int .i64 (moreR a true n)]) ∧ Fr (fun _ => False) w w' := by
  have ha := Lib.hid ha0
  have hn := Lib.hid hn0
  have Ba := Lib.hid (blk_alloc (blk_alloc (blk_alloc (blk_alloc (heap_alloc_new w (.cells #[.int .u64 a.id.hi, .int .u64 a.id.lo, .int .u64 a.dp.hi, .int .u64 a.dp.lo, .int .u64 a.dq.hi, .int .u64 a.dq.lo, .int .u64 a.cp.hi, .int .u64 a.cp.lo, .int .u64 a.cq.hi, .int .u64 a.cq.lo, .int .i64 a.ledger, .int .i64 a.code, .int .i64 a.flags, .int .i64 a.stamp] 26)) (.cells #[.int .u64 n.hi, .int .u64 n.lo] 24)) (.cells #[.int .u64 0, .int .u64 0, .int .u64 0, .int .u64 0, .int .u64 0, .int .u64 0, .int .u64 0, .int .u64 0, .int .u64 0, .int .u64 0, .int .i64 0, .int .i64 0, .int .i64 0, .int .i64 0] 26)) (.cells #[.int .u64 a.dp.hi, .int .u64 a.dp.lo] 24)) (.cells #[.int .u64 a.dq.hi, .int .u64 a.dq.lo] 24))
  have Bn := Lib.hid (blk_alloc (blk_alloc (blk_alloc (blk1 w (.cells #[.int .u64 a.id.hi, .int .u64 a.id.lo, .int .u64 a.dp.hi, .int .u64 a.dp.lo, .int .u64 a.dq.hi, .int .u64 a.dq.lo, .int .u64 a.cp.hi, .int .u64 a.cp.lo, .int .u64 a.cq.hi, .int .u64 a.cq.lo, .int .i64 a.ledger, .int .i64 a.code, .int .i64 a.flags, .int .i64 a.stamp] 26) (.cells #[.int .u64 n.hi, .int .u64 n.lo] 24)) (.cells #[.int .u64 0, .int .u64 0, .int .u64 0, .int .u64 0, .int .u64 0, .int .u64 0, .int .u64 0, .int .u64 0, .int .u64 0, .int .u64 0, .int .i64 0, .int .i64 0, .int .i64 0, .int .i64 0] 26)) (.cells #[.int .u64 a.dp.hi, .int .u64 a.dp.lo] 24)) (.cells #[.int .u64 a.dq.hi, .int .u64 a.dq.lo] 24))
  have Bz := Lib.hid (blk_alloc (blk_alloc (blk2 w (.cells #[.int .u64 a.id.hi, .int .u64 a.id.lo, .int .u64 a.dp.hi, .int .u64 a.dp.lo, .int .u64 a.dq.hi, .int .u64 a.dq.lo, .int .u64 a.cp.hi, .int .u64 a.cp.lo, .int .u64 a.cq.hi, .int .u64 a.cq.lo, .int .i64 a.ledger, .int .i64 a.code, .int .i64 a.flags, .int .i64 a.stamp] 26) (.cells #[.int .u64 n.hi, .int .u64 n.lo] 24) (.cells #[.int .u64 0, .int .u64 0, .int .u64 0, .int .u64 0, .int .u64 0, .int .u64 0, .int .u64 0, .int .u64 0, .int .u64 0, .int .u64 0, .int .i64 0, .int .i64 0, .int .i64 0, .int .i64 0] 26)) (.cells #[.int .u64 a.dp.hi, .int .u64 a.dp.lo] 24)) (.cells #[.int .u64 a.dq.hi, .int .u64 a.dq.lo] 24))
  have Bx := Lib.hid (blk_alloc (blk3 w (.cells #[.int .u64 a.id.hi, .int .u64 a.id.lo, .int .u64 a.dp.hi, .int .u64 a.dp.lo, .int .u64 a.dq.hi, .int .u64 a.dq.lo, .int .u64 a.cp.hi, .int .u64 a.cp.lo, .int .u64 a.cq.hi, .int .u64 a.cq.lo, .int .i64 a.ledger, .int .i64 a.code, .int .i64 a.flags, .int .i64 a.stamp] 26) (.cells #[.int .u64 n.hi, .int .u64 n.lo] 24) (.cells #[.int .u64 0, .int .u64 0, .int .u64 0, .int .u64 0, .int .u64 0, .int .u64 0, .int .u64 0, .int .u64 0, .int .u64 0, .int .u64 0, .int .i64 0, .int .i64 0, .int .i64 0, .int .i64 0] 26) (.cells #[.int .u64 a.dp.hi, .int .u64 a.dp.lo] 24)) (.cells #[.int .u64 a.dq.hi, .int .u64 a.dq.lo] 24))
  have By := Lib.hid (blk4 w (.cells #[.int .u64 a.id.hi, .int .u64 a.id.lo, .int .u64 a.dp.hi, .int .u64 a.dp.lo, .int .u64 a.dq.hi, .int .u64 a.dq.lo, .int .u64 a.cp.hi, .int .u64 a.cp.lo, .int .u64 a.cq.hi, .int .u64 a.cq.lo, .int .i64 a.ledger, .int .i64 a.code, .int .i64 a.flags, .int .i64 a.stamp] 26) (.cells #[.int .u64 n.hi, .int .u64 n.lo] 24) (.cells #[.int .u64 0, .int .u64 0, .int .u64 0, .int .u64 0, .int .u64 0, .int .u64 0, .int .u64 0, .int .u64 0, .int .u64 0, .int .u64 0, .int .i64 0, .int .i64 0, .int .i64 0, .int .i64 0] 26) (.cells #[.int .u64 a.dp.hi, .int .u64 a.dp.lo] 24) (.cells #[.int .u64 a.dq.hi, .int .u64 a.dq.lo] 24))
  have FA := Lib.hid ((((((Fr.refl (fun _ => False) w).alloc (.cells #[.int .u64 a.id.hi, .int .u64 a.id.lo, .int .u64 a.dp.hi, .int .u64 a.dp.lo, .int .u64 a.dq.hi, .int .u64 a.dq.lo, .int .u64 a.cp.hi, .int .u64 a.cp.lo, .int .u64 a.cq.hi, .int .u64 a.cq.lo, .int .i64 a.ledger, .int .i64 a.code, .int .i64 a.flags, .int .i64 a.stamp] 26)).alloc (.cells #[.int .u64 n.hi, .int .u64 n.lo] 24)).alloc (.cells #[.int .u64 0, .int .u64 0, .int .u64 0, .int .u64 0, .int .u64 0, .int .u64 0, .int .u64 0, .int .u64 0, .int .u64 0, .int .u64 0, .int .i64 0, .int .i64 0, .int .i64 0, .int .i64 0] 26)).alloc (.cells #[.int .u64 a.dp.hi, .int .u64 a.dp.lo] 24)).alloc (.cells #[.int .u64 a.dq.hi, .int .u64 a.dq.lo] 24))
  have HP1 := Lib.hid (plus_any (((((w.alloc (.cells #[.int .u64 a.id.hi, .int .u64 a.id.lo, .int .u64 a.dp.hi, .int .u64 a.dp.lo, .int .u64 a.dq.hi, .int .u64 a.dq.lo, .int .u64 a.cp.hi, .int .u64 a.cp.lo, .int .u64 a.cq.hi, .int .u64 a.cq.lo, .int .i64 a.ledger, .int .i64 a.code, .int .i64 a.flags, .int .i64 a.stamp] 26)).alloc (.cells #[.int .u64 n.hi, .int .u64 n.lo] 24)).alloc (.cells #[.int .u64 0, .int .u64 0, .int .u64 0, .int .u64 0, .int .u64 0, .int .u64 0, .int .u64 0, .int .u64 0, .int .u64 0, .int .u64 0, .int .i64 0, .int .i64 0, .int .i64 0, .int .i64 0] 26)).alloc (.cells #[.int .u64 a.dp.hi, .int .u64 a.dp.lo] 24)).alloc (.cells #[.int .u64 a.dq.hi, .int .u64 a.dq.lo] 24)) a.dp a.dq ha0.dp ha0.dq)
  have HP2 := Lib.hid (fun W => plus_any W (nadd a.dp a.dq) n (nadd_ok ha0.dp ha0.dq) hn0)
  obtain ⟨s1, hs1⟩ : ∃ s, nadd a.dp a.dq = s := ⟨_, rfl⟩
  rw [hs1] at HP1 HP2
  obtain ⟨s2, hs2⟩ : ∃ s, nadd s1 n = s := ⟨_, rfl⟩
  obtain ⟨k1, hk1⟩ : ∃ k, nfit a.dp a.dq = k := ⟨_, rfl⟩
  obtain ⟨k2, hk2⟩ : ∃ k, nfit s1 n = k := ⟨_, rfl⟩
  rw [hk1] at HP1
  rw [hs2, hk2] at HP2
  have hov : ovf a.dp a.dq n = (k1 && k2) := by rw [ovf, hs1, hk1, hk2]
  obtain ⟨f, hf⟩ : ∃ f, bits .and .i64 a.flags 2 = f := ⟨_, rfl⟩
  obtain ⟨fo, hfo⟩ : ∃ fo, (f != 0) = fo := ⟨_, rfl⟩
  have HH := Lib.hid (fun W => refHave_any W a true ha0)
  have HLs := Lib.hid (fun W => refLess_any W (haveN a true) n (haveN_ok ha0) hn0)
  obtain ⟨hv, hhv⟩ : ∃ h, haveN a true = h := ⟨_, rfl⟩
  obtain ⟨ls, hls⟩ : ∃ l, nless hv n = l := ⟨_, rfl⟩
  obtain ⟨MA, hMA⟩ : ∃ m, moreA a true n pn = m := ⟨_, rfl⟩
  obtain ⟨MR, hMR⟩ : ∃ m, moreR a true n = m := ⟨_, rfl⟩
  rw [hhv] at HH HLs
  rw [hls] at HLs
  rw [hMA, hMR]
  have HMA := Lib.hid (show (if (k1 && k2) = true then (if (fo && ls) = true then a else updA a true n pn) else a) = MA from by rw [← hMA, moreA, flagOn]; simp only [if_pos, if_true, Bool.false_eq_true, if_false, reduceIte, hov, hf, hfo, hhv, hls])
  have HMR := Lib.hid (show (if (k1 && k2) = true then (if (fo && ls) = true then 33 else 0) else 32) = MR from by rw [← hMR, moreR, flagOn]; simp only [if_pos, if_true, Bool.false_eq_true, if_false, reduceIte, hov, hf, hfo, hhv, hls])
  clear hov hs1 hs2 hk1 hk2 hhv hls hMA hMR ha0 hn0
  obtain ⟨ok, hok⟩ : ∃ ok, (k1 && k2) = ok := ⟨_, rfl⟩
  rw [hok] at HMA HMR
  cases ok
  · have HV1 := Lib.hid (show MA = a from HMA.out.symm)
    have HV2 := Lib.hid (show MR = 32 from HMR.out.symm)
    clear hf hfo
    cases k1
    all_goals
      cases k2
    all_goals first
      | exact absurd hok (by decide)
      | (clear hok
         go_enter Tryd.func12, Tryd.ntmps12
         go_wp2_with fail
         refine HP1.out.mono ?_
         rintro e w2 ⟨rfl, f2⟩
         have F2 := Lib.hid ((FA.out.then_ f2 (fun _ h => h.elim)).alloc (.cells #[.int .u64 s1.hi, .int .u64 s1.lo] 24))
         have Ba2 := Lib.hid (blk_alloc (f2.blk Ba.out (fun h => h)) (.cells #[.int .u64 s1.hi, .int .u64 s1.lo] 24))
         have Bn2 := Lib.hid (blk_alloc (f2.blk Bn.out (fun h => h)) (.cells #[.int .u64 s1.hi, .int .u64 s1.lo] 24))
         have Bz2 := Lib.hid (blk_alloc (f2.blk Bz.out (fun h => h)) (.cells #[.int .u64 s1.hi, .int .u64 s1.lo] 24))
         have m0 := blk_cell Bn2.out 0 rfl
         have m1 := blk_cell Bn2.out 1 rfl
         clear f2
         go_wp2_with fail
         refine (HP2.out _).mono ?_
         rintro e w3 ⟨rfl, f3⟩
         have F3 := Lib.hid ((F2.out.then_ f3 (fun _ h => h.elim)).alloc (.cells #[.int .u64 s2.hi, .int .u64 s2.lo] 24))
         have Ba3 := Lib.hid (blk_alloc (f3.blk Ba2.out (fun h => h)) (.cells #[.int .u64 s2.hi, .int .u64 s2.lo] 24))
         have Bz3 := Lib.hid (blk_alloc (f3.blk Bz2.out (fun h => h)) (.cells #[.int .u64 s2.hi, .int .u64 s2.lo] 24))
         clear f3
         go_wp2_with (first
           | ((with_reducible refine wpList_load_row_w ?lw 26 _ rfl w.heap.size rfl 26 _ _ _ Ba3.out Tryd.underlying26 rfl rfl ?_); (case lw => rfl))
           | ((refine wpList_store_row rfl 26 (.tmp 8) (.tmp 44) rfl (w.heap.size + 1 + 1) #[.int .u64 a.id.hi, .int .u64 a.id.lo, .int .u64 a.dp.hi, .int .u64 a.dp.lo, .int .u64 a.dq.hi, .int .u64 a.dq.lo, .int .u64 a.cp.hi, .int .u64 a.cp.lo, .int .u64 a.cq.hi, .int .u64 a.cq.lo, .int .i64 a.ledger, .int .i64 a.code, .int .i64 a.flags, .int .i64 a.stamp] rfl rfl Bz3.out rfl rfl (by simp [Value.oneCell']) ?_); intro w9 hb9 f9; have HB9 := Lib.hid hb9; have F9 := Lib.hid f9; clear hb9 f9)
           | fail)
         refine bodyPost_ret (results_cell2 (p := 8) (q := 9) rfl _ _ (w.heap.size + 1 + 1) 26 _ (0, 0) _ rfl HB9.out Tryd.underlying26 rfl rfl) rfl ?_
         exact ⟨by rw [HV1.out, HV2.out]; rfl, F3.out.then_ F9.out (fun k hk => .inr (by omega))⟩)
  obtain ⟨rfl, rfl⟩ : k1 = true ∧ k2 = true := by simpa using hok
  clear hok
  go_enter Tryd.func12, Tryd.ntmps12
  go_wp2_with fail
  refine HP1.out.mono ?_
  rintro e w2 ⟨rfl, f2⟩
  have F2 := Lib.hid ((FA.out.then_ f2 (fun _ h => h.elim)).alloc (.cells #[.int .u64 s1.hi, .int .u64 s1.lo] 24))
  have Ba2 := Lib.hid (blk_alloc (f2.blk Ba.out (fun h => h)) (.cells #[.int .u64 s1.hi, .int .u64 s1.lo] 24))
  have Bn2 := Lib.hid (blk_alloc (f2.blk Bn.out (fun h => h)) (.cells #[.int .u64 s1.hi, .int .u64 s1.lo] 24))
  have Bz2 := Lib.hid (blk_alloc (f2.blk Bz.out (fun h => h)) (.cells #[.int .u64 s1.hi, .int .u64 s1.lo] 24))
  have Bx2 := Lib.hid (blk_alloc (f2.blk Bx.out (fun h => h)) (.cells #[.int .u64 s1.hi, .int .u64 s1.lo] 24))
  have By2 := Lib.hid (blk_alloc (f2.blk By.out (fun h => h)) (.cells #[.int .u64 s1.hi, .int .u64 s1.lo] 24))
  have m0 := blk_cell Bn2.out 0 rfl
  have m1 := blk_cell Bn2.out 1 rfl
  clear f2
  go_wp2_with fail
  refine (HP2.out _).mono ?_
  rintro e w3 ⟨rfl, f3⟩
  have F3 := Lib.hid ((F2.out.then_ f3 (fun _ h => h.elim)).alloc (.cells #[.int .u64 s2.hi, .int .u64 s2.lo] 24))
  have Ba3 := Lib.hid (blk_alloc (f3.blk Ba2.out (fun h => h)) (.cells #[.int .u64 s2.hi, .int .u64 s2.lo] 24))
  have Bn3 := Lib.hid (blk_alloc (f3.blk Bn2.out (fun h => h)) (.cells #[.int .u64 s2.hi, .int .u64 s2.lo] 24))
  have Bz3 := Lib.hid (blk_alloc (f3.blk Bz2.out (fun h => h)) (.cells #[.int .u64 s2.hi, .int .u64 s2.lo] 24))
  have Bx3 := Lib.hid (blk_alloc (f3.blk Bx2.out (fun h => h)) (.cells #[.int .u64 s2.hi, .int .u64 s2.lo] 24))
  have By3 := Lib.hid (blk_alloc (f3.blk By2.out (fun h => h)) (.cells #[.int .u64 s2.hi, .int .u64 s2.lo] 24))
  clear f3 m0 m1
  obtain ⟨wp, hwp⟩ : ∃ W, w3.alloc (.cells #[.int .u64 s2.hi, .int .u64 s2.lo] 24) = W := ⟨_, rfl⟩
  rw [hwp] at F3 Ba3 Bn3 Bz3 Bx3 By3
  have q0 := blk_cell Ba3.out 0 rfl; have q1 := blk_cell Ba3.out 1 rfl; have q2 := blk_cell Ba3.out 2 rfl; have q3 := blk_cell Ba3.out 3 rfl; have q4 := blk_cell Ba3.out 4 rfl; have q5 := blk_cell Ba3.out 5 rfl; have q6 := blk_cell Ba3.out 6 rfl; have q7 := blk_cell Ba3.out 7 rfl; have q8 := blk_cell Ba3.out 8 rfl; have q9 := blk_cell Ba3.out 9 rfl; have q10 := blk_cell Ba3.out 10 rfl; have q11 := blk_cell Ba3.out 11 rfl; have q12 := blk_cell Ba3.out 12 rfl; have q13 := blk_cell Ba3.out 13 rfl
  have n0 := blk_cell Bn3.out 0 rfl; have n1 := blk_cell Bn3.out 1 rfl
  go_upto_region 12 with fail
  (try rw [hwp])
  clear hwp
  go_cut [56] from 45 (fun c w' => c = .bool (fo && ls) ∧ w'.heap[w.heap.size]? = some (.cells #[.int .u64 a.id.hi, .int .u64 a.id.lo, .int .u64 a.dp.hi, .int .u64 a.dp.lo, .int .u64 a.dq.hi, .int .u64 a.dq.lo, .int .u64 a.cp.hi, .int .u64 a.cp.lo, .int .u64 a.cq.hi, .int .u64 a.cq.lo, .int .i64 a.ledger, .int .i64 a.code, .int .i64 a.flags, .int .i64 a.stamp] 26 (0, 0)) ∧ w'.heap[w.heap.size + 1]? = some (.cells #[.int .u64 n.hi, .int .u64 n.lo] 24 (0, 0)) ∧ w'.heap[w.heap.size + 1 + 1]? = some (.cells #[.int .u64 0, .int .u64 0, .int .u64 0, .int .u64 0, .int .u64 0, .int .u64 0, .int .u64 0, .int .u64 0, .int .u64 0, .int .u64 0, .int .i64 0, .int .i64 0, .int .i64 0, .int .i64 0] 26 (0, 0)) ∧ w'.heap[w.heap.size + 1 + 1 + 1]? = some (.cells #[.int .u64 a.dp.hi, .int .u64 a.dp.lo] 24 (0, 0)) ∧ w'.heap[w.heap.size + 1 + 1 + 1 + 1]? = some (.cells #[.int .u64 a.dq.hi, .int .u64 a.dq.lo] 24 (0, 0)) ∧ Fr (fun _ => False) w w')
  case first =>
    cases fo
    · go_quiet (fail)
      go_wp2_with fail
      go_meet
      exact ⟨rfl, Ba3.out, Bn3.out, Bz3.out, Bx3.out, By3.out, F3.out.drewN _⟩
    · go_region_held3 (fun w' => w'.cell? ⟨w.heap.size, 0, none⟩ = some (Value.int .u64 a.id.hi) ∧ w'.cell? ⟨w.heap.size, 1, none⟩ = some (Value.int .u64 a.id.lo) ∧ w'.cell? ⟨w.heap.size, 2, none⟩ = some (Value.int .u64 a.dp.hi) ∧ w'.cell? ⟨w.heap.size, 3, none⟩ = some (Value.int .u64 a.dp.lo) ∧ w'.cell? ⟨w.heap.size, 4, none⟩ = some (Value.int .u64 a.dq.hi) ∧ w'.cell? ⟨w.heap.size, 5, none⟩ = some (Value.int .u64 a.dq.lo) ∧ w'.cell? ⟨w.heap.size, 6, none⟩ = some (Value.int .u64 a.cp.hi) ∧ w'.cell? ⟨w.heap.size, 7, none⟩ = some (Value.int .u64 a.cp.lo) ∧ w'.cell? ⟨w.heap.size, 8, none⟩ = some (Value.int .u64 a.cq.hi) ∧ w'.cell? ⟨w.heap.size, 9, none⟩ = some (Value.int .u64 a.cq.lo) ∧ w'.cell? ⟨w.heap.size, 10, none⟩ = some (Value.int .i64 a.ledger) ∧ w'.cell? ⟨w.heap.size, 11, none⟩ = some (Value.int .i64 a.code) ∧ w'.cell? ⟨w.heap.size, 12, none⟩ = some (Value.int .i64 a.flags) ∧ w'.cell? ⟨w.heap.size, 13, none⟩ = some (Value.int .i64 a.stamp) ∧ w'.cell? ⟨w.heap.size + 1, 0, none⟩ = some (Value.int .u64 n.hi) ∧ w'.cell? ⟨w.heap.size + 1, 1, none⟩ = some (Value.int .u64 n.lo))
        (first | exact ⟨q0, q1, q2, q3, q4, q5, q6, q7, q8, q9, q10, q11, q12, q13, n0, n1⟩ | go_keep)
        (first
          | (go_at_call 14; (with_reducible refine (HH.out wp.drew).mono ?_); rintro e w4 ⟨rfl, f4⟩; have F4 := Lib.hid (F3.out.drew.then_ f4 (fun _ h => h.elim)); have Ba4 := Lib.hid (f4.blk (blk_drew Ba3.out) (fun h => h)); have Bn4 := Lib.hid (f4.blk (blk_drew Bn3.out) (fun h => h)); have Bz4 := Lib.hid (f4.blk (blk_drew Bz3.out) (fun h => h)); have Bx4 := Lib.hid (f4.blk (blk_drew Bx3.out) (fun h => h)); have By4 := Lib.hid (f4.blk (blk_drew By3.out) (fun h => h)); have q0 := blk_cell Ba4.out 0 rfl; have q1 := blk_cell Ba4.out 1 rfl; have q2 := blk_cell Ba4.out 2 rfl; have q3 := blk_cell Ba4.out 3 rfl; have q4 := blk_cell Ba4.out 4 rfl; have q5 := blk_cell Ba4.out 5 rfl; have q6 := blk_cell Ba4.out 6 rfl; have q7 := blk_cell Ba4.out 7 rfl; have q8 := blk_cell Ba4.out 8 rfl; have q9 := blk_cell Ba4.out 9 rfl; have q10 := blk_cell Ba4.out 10 rfl; have q11 := blk_cell Ba4.out 11 rfl; have q12 := blk_cell Ba4.out 12 rfl; have q13 := blk_cell Ba4.out 13 rfl; have n0 := blk_cell Bn4.out 0 rfl; have n1 := blk_cell Bn4.out 1 rfl; clear f4)
          | (go_at_call 46; (with_reducible refine (HLs.out _).mono ?_); rintro e w5 ⟨rfl, f5⟩; have F5 := Lib.hid (F4.out.then_ f5 (fun _ h => h.elim)); have Ba5 := Lib.hid (f5.blk Ba4.out (fun h => h)); have Bn5 := Lib.hid (f5.blk Bn4.out (fun h => h)); have Bz5 := Lib.hid (f5.blk Bz4.out (fun h => h)); have Bx5 := Lib.hid (f5.blk Bx4.out (fun h => h)); have By5 := Lib.hid (f5.blk By4.out (fun h => h)); have q0 := blk_cell Ba5.out 0 rfl; have q1 := blk_cell Ba5.out 1 rfl; have q2 := blk_cell Ba5.out 2 rfl; have q3 := blk_cell Ba5.out 3 rfl; have q4 := blk_cell Ba5.out 4 rfl; have q5 := blk_cell Ba5.out 5 rfl; have q6 := blk_cell Ba5.out 6 rfl; have q7 := blk_cell Ba5.out 7 rfl; have q8 := blk_cell Ba5.out 8 rfl; have q9 := blk_cell Ba5.out 9 rfl; have q10 := blk_cell Ba5.out 10 rfl; have q11 := blk_cell Ba5.out 11 rfl; have q12 := blk_cell Ba5.out 12 rfl; have q13 := blk_cell Ba5.out 13 rfl; have n0 := blk_cell Bn5.out 0 rfl; have n1 := blk_cell Bn5.out 1 rfl; clear f5))
      go_wp2_with fail
      go_meet
      exact ⟨rfl, Ba5.out, Bn5.out, Bz5.out, Bx5.out, By5.out, F5.out⟩
  case rest =>
  clear q0 q1 q2 q3 q4 q5 q6 q7 q8 q9 q10 q11 q12 q13 n0 n1
  obtain ⟨rfl, hba, hbn, hbz, hbx, hby, hff⟩ := hcut
  have Ba5 := Lib.hid hba
  have Bn5 := Lib.hid hbn
  have Bz5 := Lib.hid hbz
  have Bx5 := Lib.hid hbx
  have By5 := Lib.hid hby
  have F5 := Lib.hid hff
  clear hba hbn hbz hbx hby hff hf hfo
  obtain ⟨c, hc⟩ : ∃ c, (fo && ls) = c := ⟨_, rfl⟩
  rw [hc] at HMA HMR ⊢
  clear hc
  obtain ⟨wq, hwq⟩ : ∃ W : World, W = wc := ⟨_, rfl⟩
  subst hwq
  cases c
  · have HV2 := Lib.hid (show MR = 0 from HMR.out.symm)
    cases pn
    · have HV1 := Lib.hid (show MA = updA a true n false from HMA.out.symm)
      have x0 := blk_cell Bx5.out 0 rfl; have x1 := blk_cell Bx5.out 1 rfl; have y0 := blk_cell By5.out 0 rfl; have y1 := blk_cell By5.out 1 rfl
      have n0 := blk_cell Bn5.out 0 rfl; have n1 := blk_cell Bn5.out 1 rfl
      have HPd := Lib.hid (plus_any wq a.dq n ha.out.dq hn.out)
      obtain ⟨s, hs⟩ : ∃ s, nadd a.dq n = s := ⟨_, rfl⟩
      rw [hs] at HPd
      have HSs := Lib.hid hs
      clear hs
      go_wp2_with fail
      refine HPd.out.mono ?_
      rintro e w6 ⟨rfl, f6⟩
      have F6 := Lib.hid (F5.out.then_ f6 (fun _ h => h.elim))
      have Ba6 := Lib.hid (f6.blk Ba5.out (fun h => h))
      have Bn6 := Lib.hid (f6.blk Bn5.out (fun h => h))
      have Bz6 := Lib.hid (f6.blk Bz5.out (fun h => h))
      have Bx6 := Lib.hid (f6.blk Bx5.out (fun h => h))
      have By6 := Lib.hid (f6.blk By5.out (fun h => h))
      clear f6
      go_wp2_with (first
        | ((refine wpList_store_row rfl 24 (.tmp 11) (.tmp 71) rfl (w.heap.size + 1 + 1 + 1 + 1) #[.int .u64 s.hi, .int .u64 s.lo] rfl rfl By6.out rfl rfl (by simp [Value.oneCell']) ?_); intro w7 hb7 f7; have F7 := Lib.hid (F6.out.then_ f7 (fun j hj => .inr (by omega))); have Ba7 := Lib.hid (f7.blk Ba6.out (by omega)); have Bz7 := Lib.hid (f7.blk Bz6.out (by omega)); have Bx7 := f7.blk Bx6.out (by omega); have u0 := blk_cell hb7 0 rfl; have u1 := blk_cell hb7 1 rfl; have v0 := blk_cell Bx7 0 rfl; have v1 := blk_cell Bx7 1 rfl; have HU := Lib.hid hb7; have HVv := Lib.hid Bx7; clear f7 hb7 Bx7)
        | ((refine wpList_store_part rfl 24 (.tmp 75) (.tmp 74) rfl w.heap.size 2 #[.int .u64 a.dp.hi, .int .u64 a.dp.lo] rfl rfl Ba7.out (by show 2 + 2 ≤ 14; omega) rfl (by simp [Value.oneCell']) ?_); intro w10 hb10 f10; have Ba10 := Lib.hid (show w10.heap[w.heap.size]? = some (.cells #[.int .u64 a.id.hi, .int .u64 a.id.lo, .int .u64 a.dp.hi, .int .u64 a.dp.lo, .int .u64 a.dq.hi, .int .u64 a.dq.lo, .int .u64 a.cp.hi, .int .u64 a.cp.lo, .int .u64 a.cq.hi, .int .u64 a.cq.lo, .int .i64 a.ledger, .int .i64 a.code, .int .i64 a.flags, .int .i64 a.stamp] 26 (0, 0)) from hb10); have F10 := Lib.hid (F7.out.then_ f10 (fun j hj => .inr (Nat.le_of_eq hj.symm))); have Bz10 := Lib.hid (f10.blk Bz7.out (by omega)); have hu := f10.blk HU.out (by omega); have hv := f10.blk HVv.out (by omega); have u0 := blk_cell hu 0 rfl; have u1 := blk_cell hu 1 rfl; have v0 := blk_cell hv 0 rfl; have v1 := blk_cell hv 1 rfl; clear hb10 f10 hu hv)
        | ((refine wpList_store_part rfl 24 (.tmp 77) (.tmp 76) rfl w.heap.size 4 #[.int .u64 s.hi, .int .u64 s.lo] rfl rfl Ba10.out (by show 4 + 2 ≤ 14; omega) rfl (by simp [Value.oneCell']) ?_); intro w11 hb11 f11; have Ba11 := Lib.hid (show w11.heap[w.heap.size]? = some (.cells #[.int .u64 a.id.hi, .int .u64 a.id.lo, .int .u64 a.dp.hi, .int .u64 a.dp.lo, .int .u64 s.hi, .int .u64 s.lo, .int .u64 a.cp.hi, .int .u64 a.cp.lo, .int .u64 a.cq.hi, .int .u64 a.cq.lo, .int .i64 a.ledger, .int .i64 a.code, .int .i64 a.flags, .int .i64 a.stamp] 26 (0, 0)) from hb11); have F11 := Lib.hid (F10.out.then_ f11 (fun j hj => .inr (Nat.le_of_eq hj.symm))); have Bz11 := Lib.hid (f11.blk Bz10.out (by omega)); clear hb11 f11)
        | ((with_reducible refine wpList_load_row_w ?lw 26 _ rfl w.heap.size rfl 26 _ _ _ Ba11.out Tryd.underlying26 rfl rfl ?_); (case lw => rfl))
        | ((refine wpList_store_row rfl 26 (.tmp 8) (.tmp 82) rfl (w.heap.size + 1 + 1) #[.int .u64 a.id.hi, .int .u64 a.id.lo, .int .u64 a.dp.hi, .int .u64 a.dp.lo, .int .u64 s.hi, .int .u64 s.lo, .int .u64 a.cp.hi, .int .u64 a.cp.lo, .int .u64 a.cq.hi, .int .u64 a.cq.lo, .int .i64 a.ledger, .int .i64 a.code, .int .i64 a.flags, .int .i64 a.stamp] rfl rfl Bz11.out rfl rfl (by simp [Value.oneCell']) ?_); intro w9 hb9 f9; have HB9 := Lib.hid hb9; have F9 := Lib.hid f9; clear hb9 f9)
        | fail)
      refine bodyPost_ret (results_cell2 (p := 8) (q := 9) rfl _ _ (w.heap.size + 1 + 1) 26 _ (0, 0) _ rfl HB9.out Tryd.underlying26 rfl rfl) rfl ?_
      exact ⟨by rw [HV1.out, HV2.out, ← HSs.out]; rfl, F11.out.then_ F9.out (fun k hk => .inr (by omega))⟩

    · have HV1 := Lib.hid (show MA = updA a true n true from HMA.out.symm)
      have x0 := blk_cell Bx5.out 0 rfl; have x1 := blk_cell Bx5.out 1 rfl; have y0 := blk_cell By5.out 0 rfl; have y1 := blk_cell By5.out 1 rfl
      have n0 := blk_cell Bn5.out 0 rfl; have n1 := blk_cell Bn5.out 1 rfl
      have HPd := Lib.hid (plus_any wq a.dp n ha.out.dp hn.out)
      obtain ⟨s, hs⟩ : ∃ s, nadd a.dp n = s := ⟨_, rfl⟩
      rw [hs] at HPd
      have HSs := Lib.hid hs
      clear hs
      go_wp2_with fail
      refine HPd.out.mono ?_
      rintro e w6 ⟨rfl, f6⟩
      have F6 := Lib.hid (F5.out.then_ f6 (fun _ h => h.elim))
      have Ba6 := Lib.hid (f6.blk Ba5.out (fun h => h))
      have Bn6 := Lib.hid (f6.blk Bn5.out (fun h => h))
      have Bz6 := Lib.hid (f6.blk Bz5.out (fun h => h))
      have Bx6 := Lib.hid (f6.blk Bx5.out (fun h => h))
      have By6 := Lib.hid (f6.blk By5.out (fun h => h))
      clear f6
      go_wp2_with (first
        | ((refine wpList_store_row rfl 24 (.tmp 10) (.tmp 65) rfl (w.heap.size + 1 + 1 + 1) #[.int .u64 s.hi, .int .u64 s.lo] rfl rfl Bx6.out rfl rfl (by simp [Value.oneCell']) ?_); intro w7 hb7 f7; have F7 := Lib.hid (F6.out.then_ f7 (fun j hj => .inr (by omega))); have Ba7 := Lib.hid (f7.blk Ba6.out (by omega)); have Bz7 := Lib.hid (f7.blk Bz6.out (by omega)); have By7 := f7.blk By6.out (by omega); have u0 := blk_cell hb7 0 rfl; have u1 := blk_cell hb7 1 rfl; have v0 := blk_cell By7 0 rfl; have v1 := blk_cell By7 1 rfl; have HU := Lib.hid hb7; have HVv := Lib.hid By7; clear f7 hb7 By7)
        | ((refine wpList_store_part rfl 24 (.tmp 75) (.tmp 74) rfl w.heap.size 2 #[.int .u64 s.hi, .int .u64 s.lo] rfl rfl Ba7.out (by show 2 + 2 ≤ 14; omega) rfl (by simp [Value.oneCell']) ?_); intro w10 hb10 f10; have Ba10 := Lib.hid (show w10.heap[w.heap.size]? = some (.cells #[.int .u64 a.id.hi, .int .u64 a.id.lo, .int .u64 s.hi, .int .u64 s.lo, .int .u64 a.dq.hi, .int .u64 a.dq.lo, .int .u64 a.cp.hi, .int .u64 a.cp.lo, .int .u64 a.cq.hi, .int .u64 a.cq.lo, .int .i64 a.ledger, .int .i64 a.code, .int .i64 a.flags, .int .i64 a.stamp] 26 (0, 0)) from hb10); have F10 := Lib.hid (F7.out.then_ f10 (fun j hj => .inr (Nat.le_of_eq hj.symm))); have Bz10 := Lib.hid (f10.blk Bz7.out (by omega)); have hu := f10.blk HU.out (by omega); have hv := f10.blk HVv.out (by omega); have u0 := blk_cell hu 0 rfl; have u1 := blk_cell hu 1 rfl; have v0 := blk_cell hv 0 rfl; have v1 := blk_cell hv 1 rfl; clear hb10 f10 hu hv)
        | ((refine wpList_store_part rfl 24 (.tmp 77) (.tmp 76) rfl w.heap.size 4 #[.int .u64 a.dq.hi, .int .u64 a.dq.lo] rfl rfl Ba10.out (by show 4 + 2 ≤ 14; omega) rfl (by simp [Value.oneCell']) ?_); intro w11 hb11 f11; have Ba11 := Lib.hid (show w11.heap[w.heap.size]? = some (.cells #[.int .u64 a.id.hi, .int .u64 a.id.lo, .int .u64 s.hi, .int .u64 s.lo, .int .u64 a.dq.hi, .int .u64 a.dq.lo, .int .u64 a.cp.hi, .int .u64 a.cp.lo, .int .u64 a.cq.hi, .int .u64 a.cq.lo, .int .i64 a.ledger, .int .i64 a.code, .int .i64 a.flags, .int .i64 a.stamp] 26 (0, 0)) from hb11); have F11 := Lib.hid (F10.out.then_ f11 (fun j hj => .inr (Nat.le_of_eq hj.symm))); have Bz11 := Lib.hid (f11.blk Bz10.out (by omega)); clear hb11 f11)
        | ((with_reducible refine wpList_load_row_w ?lw 26 _ rfl w.heap.size rfl 26 _ _ _ Ba11.out Tryd.underlying26 rfl rfl ?_); (case lw => rfl))
        | ((refine wpList_store_row rfl 26 (.tmp 8) (.tmp 82) rfl (w.heap.size + 1 + 1) #[.int .u64 a.id.hi, .int .u64 a.id.lo, .int .u64 s.hi, .int .u64 s.lo, .int .u64 a.dq.hi, .int .u64 a.dq.lo, .int .u64 a.cp.hi, .int .u64 a.cp.lo, .int .u64 a.cq.hi, .int .u64 a.cq.lo, .int .i64 a.ledger, .int .i64 a.code, .int .i64 a.flags, .int .i64 a.stamp] rfl rfl Bz11.out rfl rfl (by simp [Value.oneCell']) ?_); intro w9 hb9 f9; have HB9 := Lib.hid hb9; have F9 := Lib.hid f9; clear hb9 f9)
        | fail)
      refine bodyPost_ret (results_cell2 (p := 8) (q := 9) rfl _ _ (w.heap.size + 1 + 1) 26 _ (0, 0) _ rfl HB9.out Tryd.underlying26 rfl rfl) rfl ?_
      exact ⟨by rw [HV1.out, HV2.out, ← HSs.out]; rfl, F11.out.then_ F9.out (fun k hk => .inr (by omega))⟩

  · have HV1 := Lib.hid (show MA = a from HMA.out.symm)
    have HV2 := Lib.hid (show MR = 33 from HMR.out.symm)
    go_wp2_with (first
      | ((with_reducible refine wpList_load_row_w ?lw 26 _ rfl w.heap.size rfl 26 _ _ _ Ba5.out Tryd.underlying26 rfl rfl ?_); (case lw => rfl))
      | ((refine wpList_store_row rfl 26 (.tmp 8) (.tmp 58) rfl (w.heap.size + 1 + 1) #[.int .u64 a.id.hi, .int .u64 a.id.lo, .int .u64 a.dp.hi, .int .u64 a.dp.lo, .int .u64 a.dq.hi, .int .u64 a.dq.lo, .int .u64 a.cp.hi, .int .u64 a.cp.lo, .int .u64 a.cq.hi, .int .u64 a.cq.lo, .int .i64 a.ledger, .int .i64 a.code, .int .i64 a.flags, .int .i64 a.stamp] rfl rfl Bz5.out rfl rfl (by simp [Value.oneCell']) ?_); intro w9 hb9 f9; have HB9 := Lib.hid hb9; have F9 := Lib.hid f9; clear hb9 f9)
      | fail)
    refine bodyPost_ret (results_cell2 (p := 8) (q := 9) rfl _ _ (w.heap.size + 1 + 1) 26 _ (0, 0) _ rfl HB9.out Tryd.underlying26 rfl rfl) rfl ?_
    exact ⟨by rw [HV1.out, HV2.out]; rfl, F5.out.then_ F9.out (fun k hk => .inr (by omega))⟩
set_option maxRecDepth 4000 in
set_option maxHeartbeats 6400000 in
theorem moreF_any (w : World) (a : Acc) (n : Nm) (pn : Bool) (ha0 : a.ok) (hn0 : n.ok) :
    Calls Tryd.prog 12 #[.agg #[.int .u64 a.id.hi, .int .u64 a.id.lo, .int .u64 a.dp.hi, .int .u64 a.dp.lo, .int .u64 a.dq.hi, .int .u64 a.dq.lo, .int .u64 a.cp.hi, .int .u64 a.cp.lo, .int .u64 a.cq.hi, .int .u64 a.cq.lo, .int .i64 a.ledger, .int .i64 a.code, .int .i64 a.flags, .int .i64 a.stamp], .bool false, .agg #[.int .u64 n.hi, .int .u64 n.lo], .bool pn] w fun e w' => e = .returned (.tuple #[(moreA a false n pn).val, .int .i64 (moreR a false n)]) ∧ Fr (fun _ => False) w w' := by
  have ha := Lib.hid ha0
  have hn := Lib.hid hn0
  have Ba := Lib.hid (blk_alloc (blk_alloc (blk_alloc (blk_alloc (heap_alloc_new w (.cells #[.int .u64 a.id.hi, .int .u64 a.id.lo, .int .u64 a.dp.hi, .int .u64 a.dp.lo, .int .u64 a.dq.hi, .int .u64 a.dq.lo, .int .u64 a.cp.hi, .int .u64 a.cp.lo, .int .u64 a.cq.hi, .int .u64 a.cq.lo, .int .i64 a.ledger, .int .i64 a.code, .int .i64 a.flags, .int .i64 a.stamp] 26)) (.cells #[.int .u64 n.hi, .int .u64 n.lo] 24)) (.cells #[.int .u64 0, .int .u64 0, .int .u64 0, .int .u64 0, .int .u64 0, .int .u64 0, .int .u64 0, .int .u64 0, .int .u64 0, .int .u64 0, .int .i64 0, .int .i64 0, .int .i64 0, .int .i64 0] 26)) (.cells #[.int .u64 a.cp.hi, .int .u64 a.cp.lo] 24)) (.cells #[.int .u64 a.cq.hi, .int .u64 a.cq.lo] 24))
  have Bn := Lib.hid (blk_alloc (blk_alloc (blk_alloc (blk1 w (.cells #[.int .u64 a.id.hi, .int .u64 a.id.lo, .int .u64 a.dp.hi, .int .u64 a.dp.lo, .int .u64 a.dq.hi, .int .u64 a.dq.lo, .int .u64 a.cp.hi, .int .u64 a.cp.lo, .int .u64 a.cq.hi, .int .u64 a.cq.lo, .int .i64 a.ledger, .int .i64 a.code, .int .i64 a.flags, .int .i64 a.stamp] 26) (.cells #[.int .u64 n.hi, .int .u64 n.lo] 24)) (.cells #[.int .u64 0, .int .u64 0, .int .u64 0, .int .u64 0, .int .u64 0, .int .u64 0, .int .u64 0, .int .u64 0, .int .u64 0, .int .u64 0, .int .i64 0, .int .i64 0, .int .i64 0, .int .i64 0] 26)) (.cells #[.int .u64 a.cp.hi, .int .u64 a.cp.lo] 24)) (.cells #[.int .u64 a.cq.hi, .int .u64 a.cq.lo] 24))
  have Bz := Lib.hid (blk_alloc (blk_alloc (blk2 w (.cells #[.int .u64 a.id.hi, .int .u64 a.id.lo, .int .u64 a.dp.hi, .int .u64 a.dp.lo, .int .u64 a.dq.hi, .int .u64 a.dq.lo, .int .u64 a.cp.hi, .int .u64 a.cp.lo, .int .u64 a.cq.hi, .int .u64 a.cq.lo, .int .i64 a.ledger, .int .i64 a.code, .int .i64 a.flags, .int .i64 a.stamp] 26) (.cells #[.int .u64 n.hi, .int .u64 n.lo] 24) (.cells #[.int .u64 0, .int .u64 0, .int .u64 0, .int .u64 0, .int .u64 0, .int .u64 0, .int .u64 0, .int .u64 0, .int .u64 0, .int .u64 0, .int .i64 0, .int .i64 0, .int .i64 0, .int .i64 0] 26)) (.cells #[.int .u64 a.cp.hi, .int .u64 a.cp.lo] 24)) (.cells #[.int .u64 a.cq.hi, .int .u64 a.cq.lo] 24))
  have Bx := Lib.hid (blk_alloc (blk3 w (.cells #[.int .u64 a.id.hi, .int .u64 a.id.lo, .int .u64 a.dp.hi, .int .u64 a.dp.lo, .int .u64 a.dq.hi, .int .u64 a.dq.lo, .int .u64 a.cp.hi, .int .u64 a.cp.lo, .int .u64 a.cq.hi, .int .u64 a.cq.lo, .int .i64 a.ledger, .int .i64 a.code, .int .i64 a.flags, .int .i64 a.stamp] 26) (.cells #[.int .u64 n.hi, .int .u64 n.lo] 24) (.cells #[.int .u64 0, .int .u64 0, .int .u64 0, .int .u64 0, .int .u64 0, .int .u64 0, .int .u64 0, .int .u64 0, .int .u64 0, .int .u64 0, .int .i64 0, .int .i64 0, .int .i64 0, .int .i64 0] 26) (.cells #[.int .u64 a.cp.hi, .int .u64 a.cp.lo] 24)) (.cells #[.int .u64 a.cq.hi, .int .u64 a.cq.lo] 24))
  have By := Lib.hid (blk4 w (.cells #[.int .u64 a.id.hi, .int .u64 a.id.lo, .int .u64 a.dp.hi, .int .u64 a.dp.lo, .int .u64 a.dq.hi, .int .u64 a.dq.lo, .int .u64 a.cp.hi, .int .u64 a.cp.lo, .int .u64 a.cq.hi, .int .u64 a.cq.lo, .int .i64 a.ledger, .int .i64 a.code, .int .i64 a.flags, .int .i64 a.stamp] 26) (.cells #[.int .u64 n.hi, .int .u64 n.lo] 24) (.cells #[.int .u64 0, .int .u64 0, .int .u64 0, .int .u64 0, .int .u64 0, .int .u64 0, .int .u64 0, .int .u64 0, .int .u64 0, .int .u64 0, .int .i64 0, .int .i64 0, .int .i64 0, .int .i64 0] 26) (.cells #[.int .u64 a.cp.hi, .int .u64 a.cp.lo] 24) (.cells #[.int .u64 a.cq.hi, .int .u64 a.cq.lo] 24))
  have FA := Lib.hid ((((((Fr.refl (fun _ => False) w).alloc (.cells #[.int .u64 a.id.hi, .int .u64 a.id.lo, .int .u64 a.dp.hi, .int .u64 a.dp.lo, .int .u64 a.dq.hi, .int .u64 a.dq.lo, .int .u64 a.cp.hi, .int .u64 a.cp.lo, .int .u64 a.cq.hi, .int .u64 a.cq.lo, .int .i64 a.ledger, .int .i64 a.code, .int .i64 a.flags, .int .i64 a.stamp] 26)).alloc (.cells #[.int .u64 n.hi, .int .u64 n.lo] 24)).alloc (.cells #[.int .u64 0, .int .u64 0, .int .u64 0, .int .u64 0, .int .u64 0, .int .u64 0, .int .u64 0, .int .u64 0, .int .u64 0, .int .u64 0, .int .i64 0, .int .i64 0, .int .i64 0, .int .i64 0] 26)).alloc (.cells #[.int .u64 a.cp.hi, .int .u64 a.cp.lo] 24)).alloc (.cells #[.int .u64 a.cq.hi, .int .u64 a.cq.lo] 24))
  have HP1 := Lib.hid (plus_any (((((w.alloc (.cells #[.int .u64 a.id.hi, .int .u64 a.id.lo, .int .u64 a.dp.hi, .int .u64 a.dp.lo, .int .u64 a.dq.hi, .int .u64 a.dq.lo, .int .u64 a.cp.hi, .int .u64 a.cp.lo, .int .u64 a.cq.hi, .int .u64 a.cq.lo, .int .i64 a.ledger, .int .i64 a.code, .int .i64 a.flags, .int .i64 a.stamp] 26)).alloc (.cells #[.int .u64 n.hi, .int .u64 n.lo] 24)).alloc (.cells #[.int .u64 0, .int .u64 0, .int .u64 0, .int .u64 0, .int .u64 0, .int .u64 0, .int .u64 0, .int .u64 0, .int .u64 0, .int .u64 0, .int .i64 0, .int .i64 0, .int .i64 0, .int .i64 0] 26)).alloc (.cells #[.int .u64 a.cp.hi, .int .u64 a.cp.lo] 24)).alloc (.cells #[.int .u64 a.cq.hi, .int .u64 a.cq.lo] 24)) a.cp a.cq ha0.cp ha0.cq)
  have HP2 := Lib.hid (fun W => plus_any W (nadd a.cp a.cq) n (nadd_ok ha0.cp ha0.cq) hn0)
  obtain ⟨s1, hs1⟩ : ∃ s, nadd a.cp a.cq = s := ⟨_, rfl⟩
  rw [hs1] at HP1 HP2
  obtain ⟨s2, hs2⟩ : ∃ s, nadd s1 n = s := ⟨_, rfl⟩
  obtain ⟨k1, hk1⟩ : ∃ k, nfit a.cp a.cq = k := ⟨_, rfl⟩
  obtain ⟨k2, hk2⟩ : ∃ k, nfit s1 n = k := ⟨_, rfl⟩
  rw [hk1] at HP1
  rw [hs2, hk2] at HP2
  have hov : ovf a.cp a.cq n = (k1 && k2) := by rw [ovf, hs1, hk1, hk2]
  obtain ⟨f, hf⟩ : ∃ f, bits .and .i64 a.flags 4 = f := ⟨_, rfl⟩
  obtain ⟨fo, hfo⟩ : ∃ fo, (f != 0) = fo := ⟨_, rfl⟩
  have HH := Lib.hid (fun W => refHave_any W a false ha0)
  have HLs := Lib.hid (fun W => refLess_any W (haveN a false) n (haveN_ok ha0) hn0)
  obtain ⟨hv, hhv⟩ : ∃ h, haveN a false = h := ⟨_, rfl⟩
  obtain ⟨ls, hls⟩ : ∃ l, nless hv n = l := ⟨_, rfl⟩
  obtain ⟨MA, hMA⟩ : ∃ m, moreA a false n pn = m := ⟨_, rfl⟩
  obtain ⟨MR, hMR⟩ : ∃ m, moreR a false n = m := ⟨_, rfl⟩
  rw [hhv] at HH HLs
  rw [hls] at HLs
  rw [hMA, hMR]
  have HMA := Lib.hid (show (if (k1 && k2) = true then (if (fo && ls) = true then a else updA a false n pn) else a) = MA from by rw [← hMA, moreA, flagOn]; simp only [if_pos, if_true, Bool.false_eq_true, if_false, reduceIte, hov, hf, hfo, hhv, hls])
  have HMR := Lib.hid (show (if (k1 && k2) = true then (if (fo && ls) = true then 34 else 0) else 32) = MR from by rw [← hMR, moreR, flagOn]; simp only [if_pos, if_true, Bool.false_eq_true, if_false, reduceIte, hov, hf, hfo, hhv, hls])
  clear hov hs1 hs2 hk1 hk2 hhv hls hMA hMR ha0 hn0
  obtain ⟨ok, hok⟩ : ∃ ok, (k1 && k2) = ok := ⟨_, rfl⟩
  rw [hok] at HMA HMR
  cases ok
  · have HV1 := Lib.hid (show MA = a from HMA.out.symm)
    have HV2 := Lib.hid (show MR = 32 from HMR.out.symm)
    clear hf hfo
    cases k1
    all_goals
      cases k2
    all_goals first
      | exact absurd hok (by decide)
      | (clear hok
         go_enter Tryd.func12, Tryd.ntmps12
         go_wp2_with fail
         refine HP1.out.mono ?_
         rintro e w2 ⟨rfl, f2⟩
         have F2 := Lib.hid ((FA.out.then_ f2 (fun _ h => h.elim)).alloc (.cells #[.int .u64 s1.hi, .int .u64 s1.lo] 24))
         have Ba2 := Lib.hid (blk_alloc (f2.blk Ba.out (fun h => h)) (.cells #[.int .u64 s1.hi, .int .u64 s1.lo] 24))
         have Bn2 := Lib.hid (blk_alloc (f2.blk Bn.out (fun h => h)) (.cells #[.int .u64 s1.hi, .int .u64 s1.lo] 24))
         have Bz2 := Lib.hid (blk_alloc (f2.blk Bz.out (fun h => h)) (.cells #[.int .u64 s1.hi, .int .u64 s1.lo] 24))
         have m0 := blk_cell Bn2.out 0 rfl
         have m1 := blk_cell Bn2.out 1 rfl
         clear f2
         go_wp2_with fail
         refine (HP2.out _).mono ?_
         rintro e w3 ⟨rfl, f3⟩
         have F3 := Lib.hid ((F2.out.then_ f3 (fun _ h => h.elim)).alloc (.cells #[.int .u64 s2.hi, .int .u64 s2.lo] 24))
         have Ba3 := Lib.hid (blk_alloc (f3.blk Ba2.out (fun h => h)) (.cells #[.int .u64 s2.hi, .int .u64 s2.lo] 24))
         have Bz3 := Lib.hid (blk_alloc (f3.blk Bz2.out (fun h => h)) (.cells #[.int .u64 s2.hi, .int .u64 s2.lo] 24))
         clear f3
         go_wp2_with (first
           | ((with_reducible refine wpList_load_row_w ?lw 26 _ rfl w.heap.size rfl 26 _ _ _ Ba3.out Tryd.underlying26 rfl rfl ?_); (case lw => rfl))
           | ((refine wpList_store_row rfl 26 (.tmp 8) (.tmp 44) rfl (w.heap.size + 1 + 1) #[.int .u64 a.id.hi, .int .u64 a.id.lo, .int .u64 a.dp.hi, .int .u64 a.dp.lo, .int .u64 a.dq.hi, .int .u64 a.dq.lo, .int .u64 a.cp.hi, .int .u64 a.cp.lo, .int .u64 a.cq.hi, .int .u64 a.cq.lo, .int .i64 a.ledger, .int .i64 a.code, .int .i64 a.flags, .int .i64 a.stamp] rfl rfl Bz3.out rfl rfl (by simp [Value.oneCell']) ?_); intro w9 hb9 f9; have HB9 := Lib.hid hb9; have F9 := Lib.hid f9; clear hb9 f9)
           | fail)
         refine bodyPost_ret (results_cell2 (p := 8) (q := 9) rfl _ _ (w.heap.size + 1 + 1) 26 _ (0, 0) _ rfl HB9.out Tryd.underlying26 rfl rfl) rfl ?_
         exact ⟨by rw [HV1.out, HV2.out]; rfl, F3.out.then_ F9.out (fun k hk => .inr (by omega))⟩)
  obtain ⟨rfl, rfl⟩ : k1 = true ∧ k2 = true := by simpa using hok
  clear hok
  go_enter Tryd.func12, Tryd.ntmps12
  go_wp2_with fail
  refine HP1.out.mono ?_
  rintro e w2 ⟨rfl, f2⟩
  have F2 := Lib.hid ((FA.out.then_ f2 (fun _ h => h.elim)).alloc (.cells #[.int .u64 s1.hi, .int .u64 s1.lo] 24))
  have Ba2 := Lib.hid (blk_alloc (f2.blk Ba.out (fun h => h)) (.cells #[.int .u64 s1.hi, .int .u64 s1.lo] 24))
  have Bn2 := Lib.hid (blk_alloc (f2.blk Bn.out (fun h => h)) (.cells #[.int .u64 s1.hi, .int .u64 s1.lo] 24))
  have Bz2 := Lib.hid (blk_alloc (f2.blk Bz.out (fun h => h)) (.cells #[.int .u64 s1.hi, .int .u64 s1.lo] 24))
  have Bx2 := Lib.hid (blk_alloc (f2.blk Bx.out (fun h => h)) (.cells #[.int .u64 s1.hi, .int .u64 s1.lo] 24))
  have By2 := Lib.hid (blk_alloc (f2.blk By.out (fun h => h)) (.cells #[.int .u64 s1.hi, .int .u64 s1.lo] 24))
  have m0 := blk_cell Bn2.out 0 rfl
  have m1 := blk_cell Bn2.out 1 rfl
  clear f2
  go_wp2_with fail
  refine (HP2.out _).mono ?_
  rintro e w3 ⟨rfl, f3⟩
  have F3 := Lib.hid ((F2.out.then_ f3 (fun _ h => h.elim)).alloc (.cells #[.int .u64 s2.hi, .int .u64 s2.lo] 24))
  have Ba3 := Lib.hid (blk_alloc (f3.blk Ba2.out (fun h => h)) (.cells #[.int .u64 s2.hi, .int .u64 s2.lo] 24))
  have Bn3 := Lib.hid (blk_alloc (f3.blk Bn2.out (fun h => h)) (.cells #[.int .u64 s2.hi, .int .u64 s2.lo] 24))
  have Bz3 := Lib.hid (blk_alloc (f3.blk Bz2.out (fun h => h)) (.cells #[.int .u64 s2.hi, .int .u64 s2.lo] 24))
  have Bx3 := Lib.hid (blk_alloc (f3.blk Bx2.out (fun h => h)) (.cells #[.int .u64 s2.hi, .int .u64 s2.lo] 24))
  have By3 := Lib.hid (blk_alloc (f3.blk By2.out (fun h => h)) (.cells #[.int .u64 s2.hi, .int .u64 s2.lo] 24))
  clear f3 m0 m1
  obtain ⟨wp, hwp⟩ : ∃ W, w3.alloc (.cells #[.int .u64 s2.hi, .int .u64 s2.lo] 24) = W := ⟨_, rfl⟩
  rw [hwp] at F3 Ba3 Bn3 Bz3 Bx3 By3
  have q0 := blk_cell Ba3.out 0 rfl; have q1 := blk_cell Ba3.out 1 rfl; have q2 := blk_cell Ba3.out 2 rfl; have q3 := blk_cell Ba3.out 3 rfl; have q4 := blk_cell Ba3.out 4 rfl; have q5 := blk_cell Ba3.out 5 rfl; have q6 := blk_cell Ba3.out 6 rfl; have q7 := blk_cell Ba3.out 7 rfl; have q8 := blk_cell Ba3.out 8 rfl; have q9 := blk_cell Ba3.out 9 rfl; have q10 := blk_cell Ba3.out 10 rfl; have q11 := blk_cell Ba3.out 11 rfl; have q12 := blk_cell Ba3.out 12 rfl; have q13 := blk_cell Ba3.out 13 rfl
  have n0 := blk_cell Bn3.out 0 rfl; have n1 := blk_cell Bn3.out 1 rfl
  go_upto_region 12 with fail
  (try rw [hwp])
  clear hwp
  go_cut [56] from 45 (fun c w' => c = .bool (fo && ls) ∧ w'.heap[w.heap.size]? = some (.cells #[.int .u64 a.id.hi, .int .u64 a.id.lo, .int .u64 a.dp.hi, .int .u64 a.dp.lo, .int .u64 a.dq.hi, .int .u64 a.dq.lo, .int .u64 a.cp.hi, .int .u64 a.cp.lo, .int .u64 a.cq.hi, .int .u64 a.cq.lo, .int .i64 a.ledger, .int .i64 a.code, .int .i64 a.flags, .int .i64 a.stamp] 26 (0, 0)) ∧ w'.heap[w.heap.size + 1]? = some (.cells #[.int .u64 n.hi, .int .u64 n.lo] 24 (0, 0)) ∧ w'.heap[w.heap.size + 1 + 1]? = some (.cells #[.int .u64 0, .int .u64 0, .int .u64 0, .int .u64 0, .int .u64 0, .int .u64 0, .int .u64 0, .int .u64 0, .int .u64 0, .int .u64 0, .int .i64 0, .int .i64 0, .int .i64 0, .int .i64 0] 26 (0, 0)) ∧ w'.heap[w.heap.size + 1 + 1 + 1]? = some (.cells #[.int .u64 a.cp.hi, .int .u64 a.cp.lo] 24 (0, 0)) ∧ w'.heap[w.heap.size + 1 + 1 + 1 + 1]? = some (.cells #[.int .u64 a.cq.hi, .int .u64 a.cq.lo] 24 (0, 0)) ∧ Fr (fun _ => False) w w')
  case first =>
    cases fo
    · go_quiet (fail)
      go_wp2_with fail
      go_meet
      exact ⟨rfl, Ba3.out, Bn3.out, Bz3.out, Bx3.out, By3.out, F3.out.drewN _⟩
    · go_region_held3 (fun w' => w'.cell? ⟨w.heap.size, 0, none⟩ = some (Value.int .u64 a.id.hi) ∧ w'.cell? ⟨w.heap.size, 1, none⟩ = some (Value.int .u64 a.id.lo) ∧ w'.cell? ⟨w.heap.size, 2, none⟩ = some (Value.int .u64 a.dp.hi) ∧ w'.cell? ⟨w.heap.size, 3, none⟩ = some (Value.int .u64 a.dp.lo) ∧ w'.cell? ⟨w.heap.size, 4, none⟩ = some (Value.int .u64 a.dq.hi) ∧ w'.cell? ⟨w.heap.size, 5, none⟩ = some (Value.int .u64 a.dq.lo) ∧ w'.cell? ⟨w.heap.size, 6, none⟩ = some (Value.int .u64 a.cp.hi) ∧ w'.cell? ⟨w.heap.size, 7, none⟩ = some (Value.int .u64 a.cp.lo) ∧ w'.cell? ⟨w.heap.size, 8, none⟩ = some (Value.int .u64 a.cq.hi) ∧ w'.cell? ⟨w.heap.size, 9, none⟩ = some (Value.int .u64 a.cq.lo) ∧ w'.cell? ⟨w.heap.size, 10, none⟩ = some (Value.int .i64 a.ledger) ∧ w'.cell? ⟨w.heap.size, 11, none⟩ = some (Value.int .i64 a.code) ∧ w'.cell? ⟨w.heap.size, 12, none⟩ = some (Value.int .i64 a.flags) ∧ w'.cell? ⟨w.heap.size, 13, none⟩ = some (Value.int .i64 a.stamp) ∧ w'.cell? ⟨w.heap.size + 1, 0, none⟩ = some (Value.int .u64 n.hi) ∧ w'.cell? ⟨w.heap.size + 1, 1, none⟩ = some (Value.int .u64 n.lo))
        (first | exact ⟨q0, q1, q2, q3, q4, q5, q6, q7, q8, q9, q10, q11, q12, q13, n0, n1⟩ | go_keep)
        (first
          | (go_at_call 14; (with_reducible refine (HH.out wp.drew).mono ?_); rintro e w4 ⟨rfl, f4⟩; have F4 := Lib.hid (F3.out.drew.then_ f4 (fun _ h => h.elim)); have Ba4 := Lib.hid (f4.blk (blk_drew Ba3.out) (fun h => h)); have Bn4 := Lib.hid (f4.blk (blk_drew Bn3.out) (fun h => h)); have Bz4 := Lib.hid (f4.blk (blk_drew Bz3.out) (fun h => h)); have Bx4 := Lib.hid (f4.blk (blk_drew Bx3.out) (fun h => h)); have By4 := Lib.hid (f4.blk (blk_drew By3.out) (fun h => h)); have q0 := blk_cell Ba4.out 0 rfl; have q1 := blk_cell Ba4.out 1 rfl; have q2 := blk_cell Ba4.out 2 rfl; have q3 := blk_cell Ba4.out 3 rfl; have q4 := blk_cell Ba4.out 4 rfl; have q5 := blk_cell Ba4.out 5 rfl; have q6 := blk_cell Ba4.out 6 rfl; have q7 := blk_cell Ba4.out 7 rfl; have q8 := blk_cell Ba4.out 8 rfl; have q9 := blk_cell Ba4.out 9 rfl; have q10 := blk_cell Ba4.out 10 rfl; have q11 := blk_cell Ba4.out 11 rfl; have q12 := blk_cell Ba4.out 12 rfl; have q13 := blk_cell Ba4.out 13 rfl; have n0 := blk_cell Bn4.out 0 rfl; have n1 := blk_cell Bn4.out 1 rfl; clear f4)
          | (go_at_call 46; (with_reducible refine (HLs.out _).mono ?_); rintro e w5 ⟨rfl, f5⟩; have F5 := Lib.hid (F4.out.then_ f5 (fun _ h => h.elim)); have Ba5 := Lib.hid (f5.blk Ba4.out (fun h => h)); have Bn5 := Lib.hid (f5.blk Bn4.out (fun h => h)); have Bz5 := Lib.hid (f5.blk Bz4.out (fun h => h)); have Bx5 := Lib.hid (f5.blk Bx4.out (fun h => h)); have By5 := Lib.hid (f5.blk By4.out (fun h => h)); have q0 := blk_cell Ba5.out 0 rfl; have q1 := blk_cell Ba5.out 1 rfl; have q2 := blk_cell Ba5.out 2 rfl; have q3 := blk_cell Ba5.out 3 rfl; have q4 := blk_cell Ba5.out 4 rfl; have q5 := blk_cell Ba5.out 5 rfl; have q6 := blk_cell Ba5.out 6 rfl; have q7 := blk_cell Ba5.out 7 rfl; have q8 := blk_cell Ba5.out 8 rfl; have q9 := blk_cell Ba5.out 9 rfl; have q10 := blk_cell Ba5.out 10 rfl; have q11 := blk_cell Ba5.out 11 rfl; have q12 := blk_cell Ba5.out 12 rfl; have q13 := blk_cell Ba5.out 13 rfl; have n0 := blk_cell Bn5.out 0 rfl; have n1 := blk_cell Bn5.out 1 rfl; clear f5))
      go_wp2_with fail
      go_meet
      exact ⟨rfl, Ba5.out, Bn5.out, Bz5.out, Bx5.out, By5.out, F5.out⟩
  case rest =>
  clear q0 q1 q2 q3 q4 q5 q6 q7 q8 q9 q10 q11 q12 q13 n0 n1
  obtain ⟨rfl, hba, hbn, hbz, hbx, hby, hff⟩ := hcut
  have Ba5 := Lib.hid hba
  have Bn5 := Lib.hid hbn
  have Bz5 := Lib.hid hbz
  have Bx5 := Lib.hid hbx
  have By5 := Lib.hid hby
  have F5 := Lib.hid hff
  clear hba hbn hbz hbx hby hff hf hfo
  obtain ⟨c, hc⟩ : ∃ c, (fo && ls) = c := ⟨_, rfl⟩
  rw [hc] at HMA HMR ⊢
  clear hc
  obtain ⟨wq, hwq⟩ : ∃ W : World, W = wc := ⟨_, rfl⟩
  subst hwq
  cases c
  · have HV2 := Lib.hid (show MR = 0 from HMR.out.symm)
    cases pn
    · have HV1 := Lib.hid (show MA = updA a false n false from HMA.out.symm)
      have x0 := blk_cell Bx5.out 0 rfl; have x1 := blk_cell Bx5.out 1 rfl; have y0 := blk_cell By5.out 0 rfl; have y1 := blk_cell By5.out 1 rfl
      have n0 := blk_cell Bn5.out 0 rfl; have n1 := blk_cell Bn5.out 1 rfl
      have HPd := Lib.hid (plus_any wq a.cq n ha.out.cq hn.out)
      obtain ⟨s, hs⟩ : ∃ s, nadd a.cq n = s := ⟨_, rfl⟩
      rw [hs] at HPd
      have HSs := Lib.hid hs
      clear hs
      go_wp2_with fail
      refine HPd.out.mono ?_
      rintro e w6 ⟨rfl, f6⟩
      have F6 := Lib.hid (F5.out.then_ f6 (fun _ h => h.elim))
      have Ba6 := Lib.hid (f6.blk Ba5.out (fun h => h))
      have Bn6 := Lib.hid (f6.blk Bn5.out (fun h => h))
      have Bz6 := Lib.hid (f6.blk Bz5.out (fun h => h))
      have Bx6 := Lib.hid (f6.blk Bx5.out (fun h => h))
      have By6 := Lib.hid (f6.blk By5.out (fun h => h))
      clear f6
      go_wp2_with (first
        | ((refine wpList_store_row rfl 24 (.tmp 11) (.tmp 71) rfl (w.heap.size + 1 + 1 + 1 + 1) #[.int .u64 s.hi, .int .u64 s.lo] rfl rfl By6.out rfl rfl (by simp [Value.oneCell']) ?_); intro w7 hb7 f7; have F7 := Lib.hid (F6.out.then_ f7 (fun j hj => .inr (by omega))); have Ba7 := Lib.hid (f7.blk Ba6.out (by omega)); have Bz7 := Lib.hid (f7.blk Bz6.out (by omega)); have Bx7 := f7.blk Bx6.out (by omega); have u0 := blk_cell hb7 0 rfl; have u1 := blk_cell hb7 1 rfl; have v0 := blk_cell Bx7 0 rfl; have v1 := blk_cell Bx7 1 rfl; have HU := Lib.hid hb7; have HVv := Lib.hid Bx7; clear f7 hb7 Bx7)
        | ((refine wpList_store_part rfl 24 (.tmp 79) (.tmp 78) rfl w.heap.size 6 #[.int .u64 a.cp.hi, .int .u64 a.cp.lo] rfl rfl Ba7.out (by show 6 + 2 ≤ 14; omega) rfl (by simp [Value.oneCell']) ?_); intro w10 hb10 f10; have Ba10 := Lib.hid (show w10.heap[w.heap.size]? = some (.cells #[.int .u64 a.id.hi, .int .u64 a.id.lo, .int .u64 a.dp.hi, .int .u64 a.dp.lo, .int .u64 a.dq.hi, .int .u64 a.dq.lo, .int .u64 a.cp.hi, .int .u64 a.cp.lo, .int .u64 a.cq.hi, .int .u64 a.cq.lo, .int .i64 a.ledger, .int .i64 a.code, .int .i64 a.flags, .int .i64 a.stamp] 26 (0, 0)) from hb10); have F10 := Lib.hid (F7.out.then_ f10 (fun j hj => .inr (Nat.le_of_eq hj.symm))); have Bz10 := Lib.hid (f10.blk Bz7.out (by omega)); have hu := f10.blk HU.out (by omega); have hv := f10.blk HVv.out (by omega); have u0 := blk_cell hu 0 rfl; have u1 := blk_cell hu 1 rfl; have v0 := blk_cell hv 0 rfl; have v1 := blk_cell hv 1 rfl; clear hb10 f10 hu hv)
        | ((refine wpList_store_part rfl 24 (.tmp 81) (.tmp 80) rfl w.heap.size 8 #[.int .u64 s.hi, .int .u64 s.lo] rfl rfl Ba10.out (by show 8 + 2 ≤ 14; omega) rfl (by simp [Value.oneCell']) ?_); intro w11 hb11 f11; have Ba11 := Lib.hid (show w11.heap[w.heap.size]? = some (.cells #[.int .u64 a.id.hi, .int .u64 a.id.lo, .int .u64 a.dp.hi, .int .u64 a.dp.lo, .int .u64 a.dq.hi, .int .u64 a.dq.lo, .int .u64 a.cp.hi, .int .u64 a.cp.lo, .int .u64 s.hi, .int .u64 s.lo, .int .i64 a.ledger, .int .i64 a.code, .int .i64 a.flags, .int .i64 a.stamp] 26 (0, 0)) from hb11); have F11 := Lib.hid (F10.out.then_ f11 (fun j hj => .inr (Nat.le_of_eq hj.symm))); have Bz11 := Lib.hid (f11.blk Bz10.out (by omega)); clear hb11 f11)
        | ((with_reducible refine wpList_load_row_w ?lw 26 _ rfl w.heap.size rfl 26 _ _ _ Ba11.out Tryd.underlying26 rfl rfl ?_); (case lw => rfl))
        | ((refine wpList_store_row rfl 26 (.tmp 8) (.tmp 82) rfl (w.heap.size + 1 + 1) #[.int .u64 a.id.hi, .int .u64 a.id.lo, .int .u64 a.dp.hi, .int .u64 a.dp.lo, .int .u64 a.dq.hi, .int .u64 a.dq.lo, .int .u64 a.cp.hi, .int .u64 a.cp.lo, .int .u64 s.hi, .int .u64 s.lo, .int .i64 a.ledger, .int .i64 a.code, .int .i64 a.flags, .int .i64 a.stamp] rfl rfl Bz11.out rfl rfl (by simp [Value.oneCell']) ?_); intro w9 hb9 f9; have HB9 := Lib.hid hb9; have F9 := Lib.hid f9; clear hb9 f9)
        | fail)
      refine bodyPost_ret (results_cell2 (p := 8) (q := 9) rfl _ _ (w.heap.size + 1 + 1) 26 _ (0, 0) _ rfl HB9.out Tryd.underlying26 rfl rfl) rfl ?_
      exact ⟨by rw [HV1.out, HV2.out, ← HSs.out]; rfl, F11.out.then_ F9.out (fun k hk => .inr (by omega))⟩

    · have HV1 := Lib.hid (show MA = updA a false n true from HMA.out.symm)
      have x0 := blk_cell Bx5.out 0 rfl; have x1 := blk_cell Bx5.out 1 rfl; have y0 := blk_cell By5.out 0 rfl; have y1 := blk_cell By5.out 1 rfl
      have n0 := blk_cell Bn5.out 0 rfl; have n1 := blk_cell Bn5.out 1 rfl
      have HPd := Lib.hid (plus_any wq a.cp n ha.out.cp hn.out)
      obtain ⟨s, hs⟩ : ∃ s, nadd a.cp n = s := ⟨_, rfl⟩
      rw [hs] at HPd
      have HSs := Lib.hid hs
      clear hs
      go_wp2_with fail
      refine HPd.out.mono ?_
      rintro e w6 ⟨rfl, f6⟩
      have F6 := Lib.hid (F5.out.then_ f6 (fun _ h => h.elim))
      have Ba6 := Lib.hid (f6.blk Ba5.out (fun h => h))
      have Bn6 := Lib.hid (f6.blk Bn5.out (fun h => h))
      have Bz6 := Lib.hid (f6.blk Bz5.out (fun h => h))
      have Bx6 := Lib.hid (f6.blk Bx5.out (fun h => h))
      have By6 := Lib.hid (f6.blk By5.out (fun h => h))
      clear f6
      go_wp2_with (first
        | ((refine wpList_store_row rfl 24 (.tmp 10) (.tmp 65) rfl (w.heap.size + 1 + 1 + 1) #[.int .u64 s.hi, .int .u64 s.lo] rfl rfl Bx6.out rfl rfl (by simp [Value.oneCell']) ?_); intro w7 hb7 f7; have F7 := Lib.hid (F6.out.then_ f7 (fun j hj => .inr (by omega))); have Ba7 := Lib.hid (f7.blk Ba6.out (by omega)); have Bz7 := Lib.hid (f7.blk Bz6.out (by omega)); have By7 := f7.blk By6.out (by omega); have u0 := blk_cell hb7 0 rfl; have u1 := blk_cell hb7 1 rfl; have v0 := blk_cell By7 0 rfl; have v1 := blk_cell By7 1 rfl; have HU := Lib.hid hb7; have HVv := Lib.hid By7; clear f7 hb7 By7)
        | ((refine wpList_store_part rfl 24 (.tmp 79) (.tmp 78) rfl w.heap.size 6 #[.int .u64 s.hi, .int .u64 s.lo] rfl rfl Ba7.out (by show 6 + 2 ≤ 14; omega) rfl (by simp [Value.oneCell']) ?_); intro w10 hb10 f10; have Ba10 := Lib.hid (show w10.heap[w.heap.size]? = some (.cells #[.int .u64 a.id.hi, .int .u64 a.id.lo, .int .u64 a.dp.hi, .int .u64 a.dp.lo, .int .u64 a.dq.hi, .int .u64 a.dq.lo, .int .u64 s.hi, .int .u64 s.lo, .int .u64 a.cq.hi, .int .u64 a.cq.lo, .int .i64 a.ledger, .int .i64 a.code, .int .i64 a.flags, .int .i64 a.stamp] 26 (0, 0)) from hb10); have F10 := Lib.hid (F7.out.then_ f10 (fun j hj => .inr (Nat.le_of_eq hj.symm))); have Bz10 := Lib.hid (f10.blk Bz7.out (by omega)); have hu := f10.blk HU.out (by omega); have hv := f10.blk HVv.out (by omega); have u0 := blk_cell hu 0 rfl; have u1 := blk_cell hu 1 rfl; have v0 := blk_cell hv 0 rfl; have v1 := blk_cell hv 1 rfl; clear hb10 f10 hu hv)
        | ((refine wpList_store_part rfl 24 (.tmp 81) (.tmp 80) rfl w.heap.size 8 #[.int .u64 a.cq.hi, .int .u64 a.cq.lo] rfl rfl Ba10.out (by show 8 + 2 ≤ 14; omega) rfl (by simp [Value.oneCell']) ?_); intro w11 hb11 f11; have Ba11 := Lib.hid (show w11.heap[w.heap.size]? = some (.cells #[.int .u64 a.id.hi, .int .u64 a.id.lo, .int .u64 a.dp.hi, .int .u64 a.dp.lo, .int .u64 a.dq.hi, .int .u64 a.dq.lo, .int .u64 s.hi, .int .u64 s.lo, .int .u64 a.cq.hi, .int .u64 a.cq.lo, .int .i64 a.ledger, .int .i64 a.code, .int .i64 a.flags, .int .i64 a.stamp] 26 (0, 0)) from hb11); have F11 := Lib.hid (F10.out.then_ f11 (fun j hj => .inr (Nat.le_of_eq hj.symm))); have Bz11 := Lib.hid (f11.blk Bz10.out (by omega)); clear hb11 f11)
        | ((with_reducible refine wpList_load_row_w ?lw 26 _ rfl w.heap.size rfl 26 _ _ _ Ba11.out Tryd.underlying26 rfl rfl ?_); (case lw => rfl))
        | ((refine wpList_store_row rfl 26 (.tmp 8) (.tmp 82) rfl (w.heap.size + 1 + 1) #[.int .u64 a.id.hi, .int .u64 a.id.lo, .int .u64 a.dp.hi, .int .u64 a.dp.lo, .int .u64 a.dq.hi, .int .u64 a.dq.lo, .int .u64 s.hi, .int .u64 s.lo, .int .u64 a.cq.hi, .int .u64 a.cq.lo, .int .i64 a.ledger, .int .i64 a.code, .int .i64 a.flags, .int .i64 a.stamp] rfl rfl Bz11.out rfl rfl (by simp [Value.oneCell']) ?_); intro w9 hb9 f9; have HB9 := Lib.hid hb9; have F9 := Lib.hid f9; clear hb9 f9)
        | fail)
      refine bodyPost_ret (results_cell2 (p := 8) (q := 9) rfl _ _ (w.heap.size + 1 + 1) 26 _ (0, 0) _ rfl HB9.out Tryd.underlying26 rfl rfl) rfl ?_
      exact ⟨by rw [HV1.out, HV2.out, ← HSs.out]; rfl, F11.out.then_ F9.out (fun k hk => .inr (by omega))⟩

  · have HV1 := Lib.hid (show MA = a from HMA.out.symm)
    have HV2 := Lib.hid (show MR = 34 from HMR.out.symm)
    go_wp2_with (first
      | ((with_reducible refine wpList_load_row_w ?lw 26 _ rfl w.heap.size rfl 26 _ _ _ Ba5.out Tryd.underlying26 rfl rfl ?_); (case lw => rfl))
      | ((refine wpList_store_row rfl 26 (.tmp 8) (.tmp 59) rfl (w.heap.size + 1 + 1) #[.int .u64 a.id.hi, .int .u64 a.id.lo, .int .u64 a.dp.hi, .int .u64 a.dp.lo, .int .u64 a.dq.hi, .int .u64 a.dq.lo, .int .u64 a.cp.hi, .int .u64 a.cp.lo, .int .u64 a.cq.hi, .int .u64 a.cq.lo, .int .i64 a.ledger, .int .i64 a.code, .int .i64 a.flags, .int .i64 a.stamp] rfl rfl Bz5.out rfl rfl (by simp [Value.oneCell']) ?_); intro w9 hb9 f9; have HB9 := Lib.hid hb9; have F9 := Lib.hid f9; clear hb9 f9)
      | fail)
    refine bodyPost_ret (results_cell2 (p := 8) (q := 9) rfl _ _ (w.heap.size + 1 + 1) 26 _ (0, 0) _ rfl HB9.out Tryd.underlying26 rfl rfl) rfl ?_
    exact ⟨by rw [HV1.out, HV2.out]; rfl, F5.out.then_ F9.out (fun k hk => .inr (by omega))⟩

end Go.Proofs.YtjchjpmgbmeohaaDoor

/- A row that a block's first cell holds as a slice, and owns: grown, cut, written. No program in sight. -/
set_option linter.unusedSimpArgs false
set_option linter.unusedVariables false
namespace Go.Proofs.YtjchjpmgbmeohaaDoor
open Go.RowKit

/-- Block b: a slice, which owns its row of n things (vs), and other cells; S: its blocks. -/
def Rw (w : World) (S : Nat → Prop) (b : Nat) (T et : TypeId) (sz : Nat) (rest : List Value) (n : Nat) (vs : List Value) : Prop :=
  ∃ v, w.heap[b]? = some (.cells (v :: rest).toArray T (0, 0)) ∧ w.ownsRow 0 et sz v n vs ∧ S b ∧ (∀ k, v.ownBlock = some k → S k ∧ k ≠ b) ∧ ∀ k, S k → k < w.heap.size

section
variable {w w' : World} {S S2 : Nat → Prop} {b : Nat} {T et : TypeId} {sz : Nat} {rest : List Value} {n : Nat} {vs : List Value}
theorem Rw.fr (h : Rw w S b T et sz rest n vs) (hf : Fr S2 w w') (hd : ∀ k, S k → ¬ S2 k) : Rw w' S b T et sz rest n vs := by
  obtain ⟨v, hb, ho, hg, hv, hl⟩ := h
  exact ⟨v, hf.blk hb (hd _ hg), own_fr ho hf (fun k hk => hd _ (hv k hk).1), hg, hv, fun k hk => Nat.lt_of_lt_of_le (hl k hk) hf.size⟩
theorem Rw.alloc (h : Rw w S b T et sz rest n vs) (o : Obj) : Rw (w.alloc o) S b T et sz rest n vs := h.fr ((Fr.refl (fun _ => False) w).alloc o) (fun _ _ h => h)
theorem Rw.drew (h : Rw w S b T et sz rest n vs) : Rw w.drew S b T et sz rest n vs := h
theorem Rw.lt (h : Rw w S b T et sz rest n vs) {k : Nat} (hk : S k) : k < w.heap.size := by
  obtain ⟨v, _, _, _, _, hl⟩ := h
  exact hl k hk
theorem Rw.at_ (h : Rw w S b T et sz rest n vs) : S b := by
  obtain ⟨v, _, _, hb, _, _⟩ := h
  exact hb
/-- The set may be any that holds it. -/
theorem Rw.mono (h : Rw w S b T et sz rest n vs) (hs : ∀ k, S k → S2 k) (hl : ∀ k, S2 k → k < w.heap.size) : Rw w S2 b T et sz rest n vs := by
  obtain ⟨v, hb, ho, hg, hv, _⟩ := h
  exact ⟨v, hb, ho, hs _ hg, fun k hk => ⟨hs _ (hv k hk).1, (hv k hk).2⟩, hl⟩

/-- What an append and the store of the new slice leave. -/
theorem rw_push {W0 w2 : World} {cap2 N : Nat} {a2 : Option Addr} {v : Value} {xs : List Value} (hb : w.heap[b]? = some (.cells (v :: rest).toArray T (0, 0)))
    (hSb : S b) (hSv : ∀ k, v.ownBlock = some k → S k ∧ k ≠ b) (hl : ∀ k, S k → k < w.heap.size) (h0 : Fr (fun _ => False) w W0)
    (hown2 : w2.ownsRow 0 et sz (.slice a2 N cap2) N xs) (hf2 : Fr (fun k => v.ownBlock = some k) W0 w2) (hat2 : ∀ k, (Value.slice a2 N cap2).ownBlock = some k → v.ownBlock = some k ∨ W0.heap.size ≤ k) :
    Rw (w2.setCell ⟨b, 0, none⟩ (.slice a2 N cap2)) (Gro S w (w2.setCell ⟨b, 0, none⟩ (.slice a2 N cap2))) b T et sz rest N xs ∧ Fr S w (w2.setCell ⟨b, 0, none⟩ (.slice a2 N cap2)) := by
  have hs0 := h0.size
  have hs2 := hf2.size
  have hblt := hl b hSb
  have hne : ¬ v.ownBlock = some b := fun he => (hSv b he).2 rfl
  have hb2 : w2.heap[b]? = some (.cells (v :: rest).toArray T (0, 0)) := hf2.blk (h0.blk hb (fun h => h)) hne
  have h2g : ∀ k, (Value.slice a2 N cap2).ownBlock = some k → k ≠ b := fun k hk => by rcases hat2 k hk with h | h; (exact (hSv k h).2); omega
  have hfr : Fr S w w2 := (h0.mono (fun _ h => h.elim)).then_ hf2 (fun k hk => .inl (hSv k hk).1)
  have hsz : (w2.setCell ⟨b, 0, none⟩ (.slice a2 N cap2)).heap.size = w2.heap.size := by simp [World.setCell]
  refine ⟨⟨.slice a2 N cap2, ?_, own_fr hown2 ((Fr.refl (fun k => k = b) w2).setCell (.inl rfl) _) (fun k hk => h2g k hk), .inl hSb, fun k hk => ?_, fun k hk => ?_⟩, hfr.setCell (p := ⟨b, 0, none⟩) (.inl hSb) _⟩
  · have h := blk_set hb2 0 (.slice a2 N cap2)
    simpa using h
  · have hk2 := own_lt hown2 hk
    refine ⟨?_, h2g k hk⟩
    rcases hat2 k hk with h | h
    · exact .inl (hSv k h).1
    · exact .inr ⟨by omega, by omega⟩
  · rcases hk with h | h
    · have := hl k h; omega
    · exact h.2

theorem own_some {v : Value} (h : w.ownsRow 0 et sz v n vs) (hn : 0 < n) : ∃ g cap, v = .slice (some ⟨g, 0, none⟩) n cap := by
  rcases h.2 with ⟨_, h0⟩ | ⟨g, cap, cur, rfl, _⟩
  · omega
  · exact ⟨g, cap, rfl⟩
/-- A slice, cut short, owns what is left. -/
theorem own_cut {v : Value} (h : w.ownsRow 0 et sz v n vs) {a : Option Addr} {cap m : Nat} (hv : v = .slice a n cap) (hm : m ≤ n) : w.ownsRow 0 et sz (.slice a m cap) m (vs.take (m * sz)) := by
  subst hv
  have hlen : (vs.take (m * sz)).length = m * sz := by rw [List.length_take, h.1]; exact Nat.min_eq_left (Nat.mul_le_mul_right _ hm)
  refine ⟨hlen, ?_⟩
  rcases h.2 with ⟨hv, h0⟩ | ⟨g, cp, cur, hv, hbg, hg, hnc, hcm, hcs, htake⟩
  · simp only [Value.slice.injEq] at hv
    obtain ⟨rfl, _, rfl⟩ := hv
    exact .inl ⟨by rw [show m = 0 by omega], by omega⟩
  · simp only [Value.slice.injEq] at hv
    obtain ⟨rfl, _, rfl⟩ := hv
    refine .inr ⟨g, cap, cur, rfl, hbg, hg, by omega, hcm, hcs, ?_⟩
    rw [← htake, List.take_take, Nat.min_eq_left (Nat.mul_le_mul_right _ hm)]
/-- .. and the store of the cut slice. -/
theorem rw_cut {v : Value} {a : Option Addr} {cap m : Nat} (hb : w.heap[b]? = some (.cells (v :: rest).toArray T (0, 0))) (ho : w.ownsRow 0 et sz v n vs) (hSb : S b) (hSv : ∀ k, v.ownBlock = some k → S k ∧ k ≠ b) (hl : ∀ k, S k → k < w.heap.size)
    (hv : v = .slice a n cap) (hm : m ≤ n) : Rw (w.setCell ⟨b, 0, none⟩ (.slice a m cap)) S b T et sz rest m (vs.take (m * sz)) ∧ Fr S w (w.setCell ⟨b, 0, none⟩ (.slice a m cap)) := by
  have e : ∀ k, (Value.slice a m cap).ownBlock = some k → v.ownBlock = some k := fun k hk => by
    subst hv
    cases a with
    | none => simp [Value.ownBlock] at hk
    | some x => exact hk
  refine ⟨⟨.slice a m cap, ?_, own_fr (own_cut ho hv hm) ((Fr.refl (fun k => k = b) w).setCell (.inl rfl) _) (fun k hk => (hSv k (e k hk)).2), hSb, fun k hk => hSv k (e k hk), fun k hk => ?_⟩, (Fr.refl S w).setCell (p := ⟨b, 0, none⟩) (.inl hSb) _⟩
  · have h := blk_set hb 0 (.slice a m cap)
    simpa using h
  · have := hl k hk
    simpa [World.setCell] using this
/-- A thing of the row is written. -/
theorem rw_put {g cap j : Nat} {u : Value} (hb : w.heap[b]? = some (.cells (Value.slice (some ⟨g, 0, none⟩) n cap :: rest).toArray T (0, 0))) (ho : w.ownsRow 0 et sz (.slice (some ⟨g, 0, none⟩) n cap) n vs) (hSb : S b)
    (hSv : ∀ k, (Value.slice (some ⟨g, 0, none⟩) n cap).ownBlock = some k → S k ∧ k ≠ b) (hl : ∀ k, S k → k < w.heap.size) :
    Rw (w.setCell ⟨g, j, none⟩ u) S b T et sz rest n (vs.set j u) ∧ Fr S w (w.setCell ⟨g, j, none⟩ u) := by
  obtain ⟨ho2, _⟩ := ho.stored j u
  have hg := hSv g rfl
  refine ⟨⟨_, blk_far2 hb (fun e => hg.2 e.symm) u, ho2, hSb, hSv, fun k hk => ?_⟩, (Fr.refl S w).setCell (p := ⟨g, j, none⟩) (.inl hg.1) _⟩
  have := hl k hk
  simpa [World.setCell] using this
end

/-- append(s, x), x laid in a block of its own just before, at a plain region's list. -/
theorem wpList_append_fresh {P : Program} {ops : Array Oper} {rest : List Oper} {o : Oper} {a : Act} {Q : Exit → Act → World → Prop} (w w0 : World) (hgd : o.guard = none) (s x : Operand) (t : TypeId)
    (ho : o.op = .call { callee := .builtin .append, args := #[s, x], argTypes := #[t, t] })
    (e : TypeId) (i : TypeInfo) (z : Value) (size bytes : Nat) (ht : P.underlying t = some (.slice e)) (hi : P.info? e = some i) (hz : i.zero = some z)
    (hsize : i.size = size) (hby : i.bytes = bytes) (hzs : z.cells.size = size) (hsz : 0 < size)
    (v : Value) (n : Nat) (xs : List Value) (hs : a.eval s = v) (hown : w0.ownsRow 0 e size v n xs) (us : Array Value) (hw : w = w0.alloc (.cells us e)) (hx : a.eval x = .slice (some ⟨w0.heap.size, 0, none⟩) 1 1)
    (hus : us.size = size) (h1 : ∀ u ∈ us.toList, u.oneCell' = true) (hb : (n + 1) * bytes ≤ 140737488355328) (hn : n + 1 ≤ 140737488355328)
    (h : ∀ g cap w', w'.ownsRow 0 e size (.slice (some ⟨g, 0, none⟩) (n + 1) cap) (n + 1) (xs ++ us.toList) → Fr (fun k => v.ownBlock = some k) w w' → (∀ k, (Value.slice (some ⟨g, 0, none⟩) (n + 1) cap).ownBlock = some k → v.ownBlock = some k ∨ w.heap.size ≤ k) → wpList P ops Q rest (a.put o.dst (.slice (some ⟨g, 0, none⟩) (n + 1) cap)) w') : wpList P ops Q (o :: rest) a w := by
  subst hw
  refine wpList_append_lies _ hgd s x t ho 0 e i z size bytes ht hi hz hsize hby hzs hsz v n xs hs (hown.alloc _) ⟨w0.heap.size, 0, none⟩ 1 1 us.toList hx (by simp [hus]) (fun j u hu => ?_) h1 (by omega) (by unfold maxLen; omega) hb (Nat.zero_le _) _ rfl
    (fun g cap w' h1 h2 h3 h4 => h g cap w' h1 (Fr.grownBy h2 |>.mono fun k hk => hk.symm) (fun k hk => own_slice_lies hk h3))
  have hadd : (⟨w0.heap.size, 0, none⟩ : Addr).add j = ⟨w0.heap.size, j, none⟩ := by unfold Addr.add; split <;> simp_all
  rw [hadd]
  refine blk_cell (c := us) (t := e) (f := (0, 0)) (heap_alloc_new w0 _) j (by simpa using hu)
end Go.Proofs.YtjchjpmgbmeohaaDoor

/- Books' log and its list of accounts. -/
set_option linter.unusedSimpArgs false
set_option linter.unusedVariables false
namespace Go.Proofs.YtjchjpmgbmeohaaDoor
open Go.RowKit

theorem Tryd.infoFn : (Tryd.prog.info? 1).map (fun i => (i.zero, i.size, i.bytes)) = some (some .nilFunc, 1, 8) := by kernel_rfl
theorem Tryd.infoAcc : (Tryd.prog.info? 26).map (fun i => (i.zero, i.size, i.bytes)) = some (some (.agg #[.int .u64 0, .int .u64 0, .int .u64 0, .int .u64 0, .int .u64 0, .int .u64 0, .int .u64 0, .int .u64 0, .int .u64 0, .int .u64 0, .int .i64 0, .int .i64 0, .int .i64 0, .int .i64 0]), 14, 112) := by kernel_rfl
/-- The log, in the state's block. -/
abbrev LogAt (w : World) (G : Nat → Prop) (B : Nat) (rest : List Value) (n : Nat) (vs : List Value) : Prop := Rw w G B 100 1 1 rest n vs
abbrev AccL (w : World) (S : Nat → Prop) (L B : Nat) (xs : List Acc) : Prop := Rw w S L 137 26 14 [.pointer (some ⟨B, 0, none⟩)] xs.length (xs.flatMap Acc.cells)
set_option maxHeartbeats 1600000 in
theorem keepB (w : World) (G : Nat → Prop) (g : Nat) (rest : List Value) (n : Nat) (vs : List Value) (fn : Fn) (fs cs : Array Value) (h : LogAt w G g rest n vs) (hn : n ≤ 1000000) :
    Calls Tryd.prog 58 #[.pointer (some ⟨g, 0, none⟩), .func fn fs cs] w fun r w' => r = .returned (.tuple #[]) ∧ LogAt w' (Gro G w w') g rest (n + 1) (vs ++ [.func fn fs cs]) ∧ Fr G w w' := by
  obtain ⟨i0, hi, hz0, hz1, hz2⟩ := info_parts Tryd.infoFn
  obtain ⟨v, hb, ho, hG, hS, hl⟩ := h
  have c0 := blk_cell hb 0 rfl
  have Hb := Lib.hid hb
  have Ho := Lib.hid ho
  have Hg := Lib.hid hG
  have Hs := Lib.hid hS
  have Hl := Lib.hid hl
  have Hne := Lib.hid (show ¬ v.ownBlock = some g from fun he => (Hs.out g he).2 rfl)
  have ca := blk_cell (heap_alloc_new w (.cells #[.func fn fs cs] 1)) 0 rfl
  clear hb ho hG hS hl
  go_enter Tryd.func58, Tryd.ntmps58
  go_wp2_with (at_builtin; go_must (refine wpList_append_fresh _ w rfl (.tmp 10) (.tmp 12) 88 rfl 1 i0 .nilFunc 1 8 Tryd.underlying88 hi hz0 hz1 hz2 rfl (by decide) v n _ rfl Ho.out #[.func fn fs cs] rfl rfl rfl (by intro x hx; simp at hx; subst hx; rfl) (by omega) (by omega) ?_; intro g2 cap2 w2 hown2 hf2 hat2; have hb' := hf2.blk (blk_alloc Hb.out _) Hne.out; have c0' := blk_cell hb' 0 rfl; have f0' := blk_free hb' 0; have HR := Lib.hid (rw_push Hb.out Hg.out Hs.out Hl.out ((Fr.refl _ w).alloc (.cells #[.func fn fs cs] 1)) hown2 hf2 hat2); clear hb' hown2 hf2 hat2))
  go_end0
  exact ⟨rfl, HR.out.1, HR.out.2⟩
theorem accLen (w : World) (S : Nat → Prop) (L B : Nat) (xs : List Acc) (h : AccL w S L B xs) :
    Calls Tryd.prog 54 #[.pointer (some ⟨L, 0, none⟩)] w fun e w' => e = .returned (.int .i64 xs.length) ∧ w' = w := by
  obtain ⟨v, hb, ho, -, -, -⟩ := h
  obtain ⟨a, cap, rfl, -, -⟩ := own_form ho
  have c0 := blk_cell hb 0 rfl
  clear hb ho
  go_enter Tryd.func54, Tryd.ntmps54
  go_wp2
  go_ret
  exact ⟨rfl, rfl⟩
def addFn (L1 N1 : Nat) : Value := .func (.func 98) #[] #[.pointer (some ⟨L1, 0, none⟩), .pointer (some ⟨N1, 0, none⟩)]
set_option maxRecDepth 4000 in
set_option maxHeartbeats 3200000 in
theorem accAdd (w : World) (S G : Nat → Prop) (L B : Nat) (rest : List Value) (xs : List Acc) (a : Acc) (n : Nat) (vs : List Value) (hl : AccL w S L B xs) (hg : LogAt w G B rest n vs) (hd : ∀ k, S k → ¬ G k) (hx : xs.length ≤ 100000) (hn : n ≤ 100000) :
    Calls Tryd.prog 61 #[.pointer (some ⟨L, 0, none⟩), .agg #[.int .u64 a.id.hi, .int .u64 a.id.lo, .int .u64 a.dp.hi, .int .u64 a.dp.lo, .int .u64 a.dq.hi, .int .u64 a.dq.lo, .int .u64 a.cp.hi, .int .u64 a.cp.lo, .int .u64 a.cq.hi, .int .u64 a.cq.lo, .int .i64 a.ledger, .int .i64 a.code, .int .i64 a.flags, .int .i64 a.stamp]] w fun r w' => r = .returned (.int .i64 xs.length) ∧ ∃ m, w.heap.size + 3 ≤ m ∧ m ≤ w'.heap.size ∧ AccL w' (fun k => S k ∨ (w.heap.size + 3 ≤ k ∧ k < m)) L B (xs ++ [a]) ∧ LogAt w' (fun k => G k ∨ (m ≤ k ∧ k < w'.heap.size)) B rest (n + 1) (vs ++ [addFn w.heap.size (w.heap.size + 1 + 1)]) ∧ Fr (fun k => S k ∨ G k) w w' ∧ w'.heap[w.heap.size]? = some (.cells #[.pointer (some ⟨L, 0, none⟩)] 91 (0, 0)) ∧ w'.heap[w.heap.size + 1 + 1]? = some (.cells #[.int .i64 xs.length] 3 (0, 0)) := by
  obtain ⟨i0, hi, hz0, hz1, hz2⟩ := info_parts Tryd.infoAcc
  have hmf : ∀ (fn : Fn) (first cap : Array Value) (w : World), (Instr.makeFunc fn first cap).run Tryd.prog w = .ok (.func fn first cap) w := fun _ _ _ _ => rfl
  have HL := Lib.hid hl
  have HGg := Lib.hid hg
  have HD := Lib.hid hd
  obtain ⟨v, hb, ho, hS, hSv, hlt⟩ := hl
  obtain ⟨a0, cap, rfl, hc, -⟩ := own_form ho
  have c0 := blk_cell hb 0 rfl
  have f0 := blk_free hb 0
  have hLlt := blk_lt hb
  have F3 := Lib.hid ((((Fr.refl (fun _ => False) w).alloc (.cells #[.pointer (some ⟨L, 0, none⟩)] 91)).alloc (.cells #[.int .u64 a.id.hi, .int .u64 a.id.lo, .int .u64 a.dp.hi, .int .u64 a.dp.lo, .int .u64 a.dq.hi, .int .u64 a.dq.lo, .int .u64 a.cp.hi, .int .u64 a.cp.lo, .int .u64 a.cq.hi, .int .u64 a.cq.lo, .int .i64 a.ledger, .int .i64 a.code, .int .i64 a.flags, .int .i64 a.stamp] 26)).alloc (.cells #[.int .i64 xs.length] 3))
  have Hb := Lib.hid (F3.out.blk hb (fun h => h))
  have Ho := Lib.hid (own_fr ho F3.out (fun _ _ h => h))
  have Hs := Lib.hid hS
  have Hsv := Lib.hid hSv
  have Hlt := Lib.hid hlt
  have HZ := Lib.hid (show (((w.alloc (.cells #[.pointer (some ⟨L, 0, none⟩)] 91)).alloc (.cells #[.int .u64 a.id.hi, .int .u64 a.id.lo, .int .u64 a.dp.hi, .int .u64 a.dp.lo, .int .u64 a.dq.hi, .int .u64 a.dq.lo, .int .u64 a.cp.hi, .int .u64 a.cp.lo, .int .u64 a.cq.hi, .int .u64 a.cq.lo, .int .i64 a.ledger, .int .i64 a.code, .int .i64 a.flags, .int .i64 a.stamp] 26)).alloc (.cells #[.int .i64 xs.length] 3)).heap.size = w.heap.size + 3 from by simp)
  have Hl3 := Lib.hid (show ∀ k, S k → k < (((w.alloc (.cells #[.pointer (some ⟨L, 0, none⟩)] 91)).alloc (.cells #[.int .u64 a.id.hi, .int .u64 a.id.lo, .int .u64 a.dp.hi, .int .u64 a.dp.lo, .int .u64 a.dq.hi, .int .u64 a.dq.lo, .int .u64 a.cp.hi, .int .u64 a.cp.lo, .int .u64 a.cq.hi, .int .u64 a.cq.lo, .int .i64 a.ledger, .int .i64 a.code, .int .i64 a.flags, .int .i64 a.stamp] 26)).alloc (.cells #[.int .i64 xs.length] 3)).heap.size from fun k hk => by have := hlt k hk; have := HZ.out; omega)
  have Hn := Lib.hid (show (xs ++ [a]).flatMap Acc.cells = xs.flatMap Acc.cells ++ (#[.int .u64 a.id.hi, .int .u64 a.id.lo, .int .u64 a.dp.hi, .int .u64 a.dp.lo, .int .u64 a.dq.hi, .int .u64 a.dq.lo, .int .u64 a.cp.hi, .int .u64 a.cp.lo, .int .u64 a.cq.hi, .int .u64 a.cq.lo, .int .i64 a.ledger, .int .i64 a.code, .int .i64 a.flags, .int .i64 a.stamp] : Array Value).toList from by rw [List.flatMap_append]; simp [Acc.cells])
  have Hn2 := Lib.hid (show (xs ++ [a]).length = xs.length + 1 from by simp)
  have B0 := Lib.hid (blk_alloc (blk_alloc (heap_alloc_new w (.cells #[.pointer (some ⟨L, 0, none⟩)] 91)) (.cells #[.int .u64 a.id.hi, .int .u64 a.id.lo, .int .u64 a.dp.hi, .int .u64 a.dp.lo, .int .u64 a.dq.hi, .int .u64 a.dq.lo, .int .u64 a.cp.hi, .int .u64 a.cp.lo, .int .u64 a.cq.hi, .int .u64 a.cq.lo, .int .i64 a.ledger, .int .i64 a.code, .int .i64 a.flags, .int .i64 a.stamp] 26)) (.cells #[.int .i64 xs.length] 3))
  have B1 := Lib.hid (blk_alloc (blk1 w (.cells #[.pointer (some ⟨L, 0, none⟩)] 91) (.cells #[.int .u64 a.id.hi, .int .u64 a.id.lo, .int .u64 a.dp.hi, .int .u64 a.dp.lo, .int .u64 a.dq.hi, .int .u64 a.dq.lo, .int .u64 a.cp.hi, .int .u64 a.cp.lo, .int .u64 a.cq.hi, .int .u64 a.cq.lo, .int .i64 a.ledger, .int .i64 a.code, .int .i64 a.flags, .int .i64 a.stamp] 26)) (.cells #[.int .i64 xs.length] 3))
  have B2 := Lib.hid (blk2 w (.cells #[.pointer (some ⟨L, 0, none⟩)] 91) (.cells #[.int .u64 a.id.hi, .int .u64 a.id.lo, .int .u64 a.dp.hi, .int .u64 a.dp.lo, .int .u64 a.dq.hi, .int .u64 a.dq.lo, .int .u64 a.cp.hi, .int .u64 a.cp.lo, .int .u64 a.cq.hi, .int .u64 a.cq.lo, .int .i64 a.ledger, .int .i64 a.code, .int .i64 a.flags, .int .i64 a.stamp] 26) (.cells #[.int .i64 xs.length] 3))
  have Hne := Lib.hid (show ¬ (Value.slice a0 xs.length cap).ownBlock = some L from fun he => (hSv L he).2 rfl)
  have Hng := Lib.hid (show ∀ k, w.heap.size ≤ k → ¬ (Value.slice a0 xs.length cap).ownBlock = some k from fun k h1 he => by have := hlt _ (hSv _ he).1; omega)
  clear hb ho hlt hS hSv hg hd
  go_enter Tryd.func61, Tryd.ntmps61
  go_upto_region 4 with fail
  go_cut [] from 6 (fun w' => AccL w' (Gro S (((w.alloc (.cells #[.pointer (some ⟨L, 0, none⟩)] 91)).alloc (.cells #[.int .u64 a.id.hi, .int .u64 a.id.lo, .int .u64 a.dp.hi, .int .u64 a.dp.lo, .int .u64 a.dq.hi, .int .u64 a.dq.lo, .int .u64 a.cp.hi, .int .u64 a.cp.lo, .int .u64 a.cq.hi, .int .u64 a.cq.lo, .int .i64 a.ledger, .int .i64 a.code, .int .i64 a.flags, .int .i64 a.stamp] 26)).alloc (.cells #[.int .i64 xs.length] 3)) w') L B (xs ++ [a]) ∧ Fr S (((w.alloc (.cells #[.pointer (some ⟨L, 0, none⟩)] 91)).alloc (.cells #[.int .u64 a.id.hi, .int .u64 a.id.lo, .int .u64 a.dp.hi, .int .u64 a.dp.lo, .int .u64 a.dq.hi, .int .u64 a.dq.lo, .int .u64 a.cp.hi, .int .u64 a.cp.lo, .int .u64 a.cq.hi, .int .u64 a.cq.lo, .int .i64 a.ledger, .int .i64 a.code, .int .i64 a.flags, .int .i64 a.stamp] 26)).alloc (.cells #[.int .i64 xs.length] 3)) w')
  case first =>
    have c0w := blk_cell Hb.out 0 rfl
    have p0w := blk_cell B0.out 0 rfl
    have a0w := blk_cell B1.out 0 rfl; have a1w := blk_cell B1.out 1 rfl; have a2w := blk_cell B1.out 2 rfl; have a3w := blk_cell B1.out 3 rfl; have a4w := blk_cell B1.out 4 rfl; have a5w := blk_cell B1.out 5 rfl; have a6w := blk_cell B1.out 6 rfl; have a7w := blk_cell B1.out 7 rfl; have a8w := blk_cell B1.out 8 rfl; have a9w := blk_cell B1.out 9 rfl; have a10w := blk_cell B1.out 10 rfl; have a11w := blk_cell B1.out 11 rfl; have a12w := blk_cell B1.out 12 rfl; have a13w := blk_cell B1.out 13 rfl
    have c0x := blk_cell (blk_alloc Hb.out (.cells #[.int .u64 a.id.hi, .int .u64 a.id.lo, .int .u64 a.dp.hi, .int .u64 a.dp.lo, .int .u64 a.dq.hi, .int .u64 a.dq.lo, .int .u64 a.cp.hi, .int .u64 a.cp.lo, .int .u64 a.cq.hi, .int .u64 a.cq.lo, .int .i64 a.ledger, .int .i64 a.code, .int .i64 a.flags, .int .i64 a.stamp] 26)) 0 rfl
    have p0x := blk_cell (blk_alloc B0.out (.cells #[.int .u64 a.id.hi, .int .u64 a.id.lo, .int .u64 a.dp.hi, .int .u64 a.dp.lo, .int .u64 a.dq.hi, .int .u64 a.dq.lo, .int .u64 a.cp.hi, .int .u64 a.cp.lo, .int .u64 a.cq.hi, .int .u64 a.cq.lo, .int .i64 a.ledger, .int .i64 a.code, .int .i64 a.flags, .int .i64 a.stamp] 26)) 0 rfl
    have f0x := blk_free (blk_alloc Hb.out (.cells #[.int .u64 a.id.hi, .int .u64 a.id.lo, .int .u64 a.dp.hi, .int .u64 a.dp.lo, .int .u64 a.dq.hi, .int .u64 a.dq.lo, .int .u64 a.cp.hi, .int .u64 a.cp.lo, .int .u64 a.cq.hi, .int .u64 a.cq.lo, .int .i64 a.ledger, .int .i64 a.code, .int .i64 a.flags, .int .i64 a.stamp] 26)) 0
    go_region_law (first | (refine step_append_fresh _ (((w.alloc (.cells #[.pointer (some ⟨L, 0, none⟩)] 91)).alloc (.cells #[.int .u64 a.id.hi, .int .u64 a.id.lo, .int .u64 a.dp.hi, .int .u64 a.dp.lo, .int .u64 a.dq.hi, .int .u64 a.dq.lo, .int .u64 a.cp.hi, .int .u64 a.cp.lo, .int .u64 a.cq.hi, .int .u64 a.cq.lo, .int .i64 a.ledger, .int .i64 a.code, .int .i64 a.flags, .int .i64 a.stamp] 26)).alloc (.cells #[.int .i64 xs.length] 3)).drew rfl (.tmp 17) (.tmp 19) 42 rfl 26 i0 (.agg #[.int .u64 0, .int .u64 0, .int .u64 0, .int .u64 0, .int .u64 0, .int .u64 0, .int .u64 0, .int .u64 0, .int .u64 0, .int .u64 0, .int .i64 0, .int .i64 0, .int .i64 0, .int .i64 0]) 14 112 Tryd.underlying42 hi hz0 hz1 hz2 rfl (by decide) (.slice a0 xs.length cap) xs.length _ (by simp only [Act.eval, Act.put]; rfl) Ho.out.drew #[.int .u64 a.id.hi, .int .u64 a.id.lo, .int .u64 a.dp.hi, .int .u64 a.dp.lo, .int .u64 a.dq.hi, .int .u64 a.dq.lo, .int .u64 a.cp.hi, .int .u64 a.cp.lo, .int .u64 a.cq.hi, .int .u64 a.cq.lo, .int .i64 a.ledger, .int .i64 a.code, .int .i64 a.flags, .int .i64 a.stamp] rfl (by simp [Act.eval, Act.put]) rfl (by intro u hu; simp at hu; rcases hu with rfl | rfl | rfl | rfl | rfl | rfl | rfl | rfl | rfl | rfl | rfl | rfl | rfl | rfl <;> rfl) (by omega) (by omega) ?_; intro g2 cap2 w2 hown2 hf2 hat2; have hb' := hf2.blk (blk_alloc (w := (((w.alloc (.cells #[.pointer (some ⟨L, 0, none⟩)] 91)).alloc (.cells #[.int .u64 a.id.hi, .int .u64 a.id.lo, .int .u64 a.dp.hi, .int .u64 a.dp.lo, .int .u64 a.dq.hi, .int .u64 a.dq.lo, .int .u64 a.cp.hi, .int .u64 a.cp.lo, .int .u64 a.cq.hi, .int .u64 a.cq.lo, .int .i64 a.ledger, .int .i64 a.code, .int .i64 a.flags, .int .i64 a.stamp] 26)).alloc (.cells #[.int .i64 xs.length] 3)).drew) Hb.out _) Hne.out; have c0' := blk_cell hb' 0 rfl; have f0' := blk_free hb' 0; have p0' := blk_cell (hf2.blk (blk_alloc (w := (((w.alloc (.cells #[.pointer (some ⟨L, 0, none⟩)] 91)).alloc (.cells #[.int .u64 a.id.hi, .int .u64 a.id.lo, .int .u64 a.dp.hi, .int .u64 a.dp.lo, .int .u64 a.dq.hi, .int .u64 a.dq.lo, .int .u64 a.cp.hi, .int .u64 a.cp.lo, .int .u64 a.cq.hi, .int .u64 a.cq.lo, .int .i64 a.ledger, .int .i64 a.code, .int .i64 a.flags, .int .i64 a.stamp] 26)).alloc (.cells #[.int .i64 xs.length] 3)).drew) B0.out _) (Hng.out _ (Nat.le_refl _))) 0 rfl))
    all_goals
      have HR := Lib.hid (rw_push Hb.out Hs.out Hsv.out Hl3.out ((Fr.refl _ (((w.alloc (.cells #[.pointer (some ⟨L, 0, none⟩)] 91)).alloc (.cells #[.int .u64 a.id.hi, .int .u64 a.id.lo, .int .u64 a.dp.hi, .int .u64 a.dp.lo, .int .u64 a.dq.hi, .int .u64 a.dq.lo, .int .u64 a.cp.hi, .int .u64 a.cp.lo, .int .u64 a.cq.hi, .int .u64 a.cq.lo, .int .i64 a.ledger, .int .i64 a.code, .int .i64 a.flags, .int .i64 a.stamp] 26)).alloc (.cells #[.int .i64 xs.length] 3))).drew.alloc (.cells #[.int .u64 a.id.hi, .int .u64 a.id.lo, .int .u64 a.dp.hi, .int .u64 a.dp.lo, .int .u64 a.dq.hi, .int .u64 a.dq.lo, .int .u64 a.cp.hi, .int .u64 a.cp.lo, .int .u64 a.cq.hi, .int .u64 a.cq.lo, .int .i64 a.ledger, .int .i64 a.code, .int .i64 a.flags, .int .i64 a.stamp] 26)) hown2 hf2 hat2)
      clear hown2 hf2 hat2
      go_wp2_with fail
      go_meet
      exact ⟨by have h := HR.out.1; unfold AccL; rw [Hn2.out, Hn.out]; exact h, HR.out.2⟩
  case rest =>
  obtain ⟨l2, f2⟩ := hcut
  have L2 := Lib.hid l2
  have F2 := Lib.hid f2
  have HSno := Lib.hid (show ∀ k, w.heap.size ≤ k → ¬ S k from fun k h1 hk => by have := Hlt.out k hk; omega)
  have b0 := f2.blk B0.out (HSno.out _ (Nat.le_refl _))
  have b2 := f2.blk B2.out (HSno.out _ (by omega))
  have d0 := blk_cell b0 0 rfl
  have d2 := blk_cell b2 0 rfl
  have HB2 := Lib.hid b2
  have HB0 := Lib.hid b0
  have hlog : wc.cell? ⟨L, 1, none⟩ = some (.pointer (some ⟨B, 0, none⟩)) := by
    obtain ⟨v, hb, -, -, -, -⟩ := l2
    exact blk_cell hb 1 rfl
  have G2 := Lib.hid (show LogAt wc G B rest n vs from Rw.fr (Rw.fr HGg.out F3.out (fun _ _ h => h)) f2 (fun k hk hs => HD.out k hs hk))
  have HK := Lib.hid (keepB wc G B rest n vs (.func 98) #[] #[.pointer (some ⟨w.heap.size, 0, none⟩), .pointer (some ⟨w.heap.size + 1 + 1, 0, none⟩)] G2.out (by omega))
  have HGlt := Lib.hid (show ∀ k, G k → k < w.heap.size from fun k hk => Rw.lt HGg.out hk)
  have HSz := Lib.hid (show w.heap.size + 3 ≤ wc.heap.size from by have := f2.size; have := HZ.out; omega)
  clear l2 f2 b0 b2
  go_wp2_with fail
  refine HK.out.mono ?_
  rintro e w3 ⟨rfl, g3, f3⟩
  have d2' := blk_cell (f3.blk HB2.out (fun hk => by have := HGlt.out _ hk; omega)) 0 rfl
  have G3 := Lib.hid g3
  have F4 := Lib.hid f3
  clear g3 f3
  go_wp2_with fail
  go_ret
  refine ⟨rfl, wc.heap.size, HSz.out, F4.out.size, ?_, ?_, ?_, F4.out.blk HB0.out (fun hk => by have := HGlt.out _ hk; omega), F4.out.blk HB2.out (fun hk => by have := HGlt.out _ hk; omega)⟩
  · have h := Rw.fr L2.out F4.out (fun k hk hgk => ?_)
    · refine Rw.mono h (fun k hk => hk.imp id (fun h => ⟨by have := HZ.out; have := h.1; omega, h.2⟩)) (fun k hk => ?_)
      rcases hk with hk | hk
      · exact Nat.lt_of_lt_of_le (Hlt.out k hk) (Nat.le_trans (by have := HSz.out; omega) F4.out.size)
      · exact Nat.lt_of_lt_of_le hk.2 F4.out.size
    · rcases hk with hk | hk
      · exact HD.out k hk hgk
      · have := HGlt.out k hgk; have := hk.1; have := HZ.out; omega
  · exact Rw.mono G3.out (fun k hk => hk) (fun k hk => hk.elim (fun h => Nat.lt_of_lt_of_le (HGlt.out k h) (Nat.le_trans (by have := HSz.out; omega) F4.out.size)) (fun h => h.2))
  · exact (((F3.out.mono (fun k h => h.elim)).then_ F2.out (fun k hk => .inl (.inl hk))) : Fr (fun k => S k ∨ G k) w wc) |>.then_ F4.out (fun k hk => .inl (.inr hk))
end Go.Proofs.YtjchjpmgbmeohaaDoor

/- append from whatever source; where the new row lies. -/
set_option linter.unusedSimpArgs false
set_option linter.unusedVariables false
namespace Go.Proofs.YtjchjpmgbmeohaaDoor
open Go.RowKit

theorem fr_setRow (w : World) (g : Nat) (c : Array Value) : Fr (fun k => some g = some k) w (w.setRow g c) :=
  ⟨rfl, rfl, rfl, Nat.le_of_eq (by simp [World.setRow]), fun k _ hk => setRow_other w g k _ (fun e => hk (by rw [e]))⟩

section
variable {P : Program} (w : World)
theorem run_append_src_lies (t tx ty e : TypeId) (i : TypeInfo) (z : Value) (size bytes : Nat) (ht : P.underlying t = some (.slice e)) (hi : P.info? e = some i) (hz : i.zero = some z)
    (hsize : i.size = size) (hby : i.bytes = bytes) (hzs : z.cells.size = size) (hsz : 0 < size)
    (v : Value) (n : Nat) (xs : List Value) (hown : w.ownsRow 0 e size v n xs) (x : Value) (m : Nat) (news : List Value) (hs : Src P size tx x m news w)
    (hn : n + m ≤ 140737488355328) (hb : (n + m) * bytes ≤ 140737488355328) :
    ∃ a cap w', (Builtin.append_ #[t, tx] ty #[v, x]).run P w = .ok (.slice a (n + m) cap) w' ∧ w'.ownsRow 0 e size (.slice a (n + m) cap) (n + m) (xs ++ news) ∧
      Fr (fun k => v.ownBlock = some k) w w' ∧ (∀ k, (Value.slice a (n + m) cap).ownBlock = some k → v.ownBlock = some k ∨ w.heap.size ≤ k) := by
  subst hsize
  subst hby
  have hm63 : n + m ≤ maxLen := by unfold maxLen; omega
  have hlen : (xs ++ news).length = (n + m) * i.size := by rw [List.length_append, hown.1, hs.newsLen, Nat.add_mul]
  have grown : ∀ (old : Nat), old < n + m →
      (w.drew.alloc (.cells ((xs ++ news).toArray ++ Builtin.zeroCells z.cells (grownCap w (n + m) old e - (n + m))) e)).ownsRow 0 e i.size
        (.slice (some ⟨w.heap.size, 0, none⟩) (n + m) (grownCap w (n + m) old e)) (n + m) (xs ++ news) := by
    intro old ho
    refine ⟨hlen, .inr ⟨w.heap.size, _, _, rfl, Nat.zero_le _, heap_alloc_new w.drew _, grownCap_ge w (n + m) old e, grownCap_le_maxLen w (n + m) old e hm63, ?_, ?_⟩⟩
    · have hge := grownCap_ge w (n + m) old e
      simp only [Array.size_append, List.size_toArray, size_zeroCells, hzs, hlen, ← Nat.add_mul]
      congr 1
      omega
    · simp only [Array.toList_append]
      rw [← hlen]
      exact List.take_left
  have frg : ∀ (o : Obj) (S : Nat → Prop), Fr S w (w.drew.alloc o) := fun o S => ((Fr.refl S w).drew).alloc o
  rcases hown.2 with ⟨rfl, rfl⟩ | ⟨g, cp, cur, rfl, hbg, hg, hnc, hcm, hcs, htake⟩
  · have hx : xs = [] := List.eq_nil_of_length_eq_zero (by simpa using hown.1)
    subst hx
    by_cases hm : m = 0
    · subst hm
      have hnw : news = [] := List.eq_nil_of_length_eq_zero (by simpa using hs.newsLen)
      subst hnw
      refine ⟨none, 0, w, ?_, World.ownsRow_nil w 0 e i.size, Fr.refl _ w, fun k hk => by simp [Value.ownBlock] at hk⟩
      rcases hs.kind with ⟨e', hk⟩ | hk <;> simp [Builtin.append_, run_underlying ht, run_underlying hk, sizeOf, typeInfo, hi, hs.len, hs.cells]
    · have hr := run_append_grow_src (P := P) w t tx ty e i z ht hi hz none 0 0 [] (run_firstCells_none w.drew i.size 0 0 0) x m news hs (by omega) (by omega) (growslice_fits (by omega) (by simpa using hb))
      have hgr := grown 0 (by omega)
      exact ⟨_, _, _, hr, hgr, frg _ _, fun k hk => .inr (by simp [Value.ownBlock] at hk; omega)⟩
  · by_cases hroom : n + m ≤ cp
    · have hfit : n * i.size + news.length ≤ cur.size := by rw [hs.newsLen, hcs, ← Nat.add_mul]; exact Nat.mul_le_mul_right _ hroom
      have hst := run_storeCells_at P g (n * i.size) e news 0 cur w hg (by simpa using hfit) hs.one
      simp only [Nat.add_zero] at hst
      have hr : (Builtin.append_ #[t, tx] ty #[.slice (some ⟨g, 0, none⟩) n cp, x]).run P w =
          .ok (.slice (some ⟨g, 0, none⟩) (n + m) cp) (w.setRow g (cur.toList.take (n * i.size) ++ news ++ cur.toList.drop (n * i.size + news.length)).toArray) := by
        rcases hs.kind with ⟨e', hk⟩ | hk <;> simp [Builtin.append_, run_underlying ht, run_underlying hk, sizeOf, typeInfo, hi, hs.len, hroom, hs.cells, Addr.add_lit, hst]
      refine ⟨_, _, _, hr, ⟨hlen, .inr ⟨g, cp, _, rfl, hbg, setRow_heap w g cur _ e _ hg, hroom, hcm, ?_, ?_⟩⟩, fr_setRow w g _, fun k hk => .inl hk⟩
      · simp only [List.size_toArray, List.length_append, List.length_take, List.length_drop, Array.length_toList]
        omega
      · rw [htake, ← hlen]
        exact List.take_left
    · have holds : ∀ j u, xs[j]? = some u → w.cell? ((⟨g, 0, none⟩ : Addr).add j) = some u := hown.cells (g := g) rfl
      have hr := run_append_grow_src (P := P) w t tx ty e i z ht hi hz (some ⟨g, 0, none⟩) n cp xs (run_firstCells_some w.drew i.size n ⟨g, 0, none⟩ n cp xs hown.1 (by simpa using holds)) x m news hs (by omega) (by omega) (growslice_fits (by omega) hb)
      have hgr := grown cp (by omega)
      exact ⟨_, _, _, hr, hgr, frg _ _, fun k hk => .inr (by simp [Value.ownBlock] at hk; omega)⟩

theorem wp_append_src {o : Oper} {a : Act} {K : Act → World → Prop} {Q : Exit → Act → World → Prop} (sl xo : Operand) (t tx : TypeId)
    (ho : o.op = .call { callee := .builtin .append, args := #[sl, xo], argTypes := #[t, tx] })
    (e : TypeId) (i : TypeInfo) (z : Value) (size bytes : Nat) (ht : P.underlying t = some (.slice e)) (hi : P.info? e = some i) (hz : i.zero = some z)
    (hsize : i.size = size) (hby : i.bytes = bytes) (hzs : z.cells.size = size) (hsz : 0 < size)
    (v : Value) (n : Nat) (xs : List Value) (hv : a.eval sl = v) (hown : w.ownsRow 0 e size v n xs) (x : Value) (m : Nat) (news : List Value) (hx : a.eval xo = x) (hs : Src P size tx x m news w)
    (hn : n + m ≤ 140737488355328) (hb : (n + m) * bytes ≤ 140737488355328)
    (h : ∀ g cap w', w'.ownsRow 0 e size (.slice g (n + m) cap) (n + m) (xs ++ news) → Fr (fun k => v.ownBlock = some k) w w' → (∀ k, (Value.slice g (n + m) cap).ownBlock = some k → v.ownBlock = some k ∨ w.heap.size ≤ k) → K (a.put o.dst (.slice g (n + m) cap)) w') : o.wp P a w K Q := by
  obtain ⟨g, cap, w', hr, h2, h3, h4⟩ := run_append_src_lies (P := P) w t tx o.type e i z size bytes ht hi hz hsize hby hzs hsz v n xs hown x m news hs hn hb
  unfold Oper.wp execOp
  simp only [ho, resolve, invoke, builtin, Sem.run_bind, Sem.run_pure, Result.andThen_ok, List.map_toArray, List.map_cons, List.map_nil, hv, hx, hr]
  exact h g cap w' h2 h3 h4
theorem wpList_append_src {ops : Array Oper} {rest : List Oper} {o : Oper} {a : Act} {Q : Exit → Act → World → Prop} (hgd : o.guard = none) (sl xo : Operand) (t tx : TypeId)
    (ho : o.op = .call { callee := .builtin .append, args := #[sl, xo], argTypes := #[t, tx] })
    (e : TypeId) (i : TypeInfo) (z : Value) (size bytes : Nat) (ht : P.underlying t = some (.slice e)) (hi : P.info? e = some i) (hz : i.zero = some z)
    (hsize : i.size = size) (hby : i.bytes = bytes) (hzs : z.cells.size = size) (hsz : 0 < size)
    (v : Value) (n : Nat) (xs : List Value) (hv : a.eval sl = v) (hown : w.ownsRow 0 e size v n xs) (x : Value) (m : Nat) (news : List Value) (hx : a.eval xo = x) (hs : Src P size tx x m news w)
    (hn : n + m ≤ 140737488355328) (hb : (n + m) * bytes ≤ 140737488355328)
    (h : ∀ g cap w', w'.ownsRow 0 e size (.slice g (n + m) cap) (n + m) (xs ++ news) → Fr (fun k => v.ownBlock = some k) w w' → (∀ k, (Value.slice g (n + m) cap).ownBlock = some k → v.ownBlock = some k ∨ w.heap.size ≤ k) → wpList P ops Q rest (a.put o.dst (.slice g (n + m) cap)) w') : wpList P ops Q (o :: rest) a w :=
  wpList_plain hgd fun _ hK => wp_append_src w sl xo t tx ho e i z size bytes ht hi hz hsize hby hzs hsz v n xs hv hown x m news hx hs hn hb fun g cap w' h1 h2 h3 => hK _ _ (h g cap w' h1 h2 h3)
theorem step_append_src {ops : Array Oper} {o : Oper} {a : Act} {K : Act → World → Prop} {Q : Exit → Act → World → Prop} {E : Prop} (hgd : o.guard = none) (sl xo : Operand) (t tx : TypeId)
    (ho : o.op = .call { callee := .builtin .append, args := #[sl, xo], argTypes := #[t, tx] })
    (e : TypeId) (i : TypeInfo) (z : Value) (size bytes : Nat) (ht : P.underlying t = some (.slice e)) (hi : P.info? e = some i) (hz : i.zero = some z)
    (hsize : i.size = size) (hby : i.bytes = bytes) (hzs : z.cells.size = size) (hsz : 0 < size)
    (v : Value) (n : Nat) (xs : List Value) (hv : a.eval sl = v) (hown : w.ownsRow 0 e size v n xs) (x : Value) (m : Nat) (news : List Value) (hx : a.eval xo = x) (hs : Src P size tx x m news w)
    (hn : n + m ≤ 140737488355328) (hb : (n + m) * bytes ≤ 140737488355328)
    (h : ∀ g cap w', w'.ownsRow 0 e size (.slice g (n + m) cap) (n + m) (xs ++ news) → Fr (fun k => v.ownBlock = some k) w w' → (∀ k, (Value.slice g (n + m) cap).ownBlock = some k → v.ownBlock = some k ∨ w.heap.size ≤ k) → K (a.put o.dst (.slice g (n + m) cap)) w') :
    if Region.wanted o (yielded ops a.tmps) = true then Oper.wp P o a w K Q else E := by
  have hw : Region.wanted o (yielded ops a.tmps) = true := by simp [Region.wanted, hgd]
  rw [if_pos hw]
  exact wp_append_src w sl xo t tx ho e i z size bytes ht hi hz hsize hby hzs hsz v n xs hv hown x m news hx hs hn hb h
end
end Go.Proofs.YtjchjpmgbmeohaaDoor

/- Bytes and numbers: or of what doesn't overlap; bytes as a number. No program in sight. -/
set_option linter.unusedSimpArgs false
set_option linter.unusedVariables false
namespace Go.Proofs.YtjchjpmgbmeohaaDoor
open Go.RowKit

theorem toNat_ofInt64 (z : Int) : ((BitVec.ofInt 64 z).toNat : Int) = z % 18446744073709551616 := by
  rw [BitVec.toNat_ofInt]
  have := Int.emod_nonneg z (show (18446744073709551616 : Int) ≠ 0 by decide)
  simp
  omega
theorem wrap64_mod (z : Int) : wrap64 z % 18446744073709551616 = z % 18446744073709551616 := by unfold wrap64; omega

theorem pow8_le {k : Nat} (hk : k < 8) : (2 : Nat) ^ (8 * k) * 256 ≤ 2 ^ 64 := by
  have : (2 : Nat) ^ (8 * k) * 256 = 2 ^ (8 * k + 8) := by rw [Nat.pow_add]
  rw [this]
  exact Nat.pow_le_pow_right (by decide) (by omega)

theorem or_nat {x c k : Nat} (hx : x < 2 ^ (8 * k)) : x ||| (c * 2 ^ (8 * k)) = x + c * 2 ^ (8 * k) := by
  have := Nat.two_pow_add_eq_or_of_lt hx c
  rw [Nat.mul_comm c, Nat.add_comm, this, Nat.or_comm]

/-- The toNat of the or of two numbers that don't overlap. -/
theorem or_bv {x c : Int} {k : Nat} (hk : k < 8) (hx0 : 0 ≤ x) (hx : x < 2 ^ (8 * k)) (hc0 : 0 ≤ c) (hc : c < 256) (a b : Int) (ha : a % 18446744073709551616 = x % 18446744073709551616) (hb : b % 18446744073709551616 = (c * 2 ^ (8 * k)) % 18446744073709551616) :
    ((BitVec.ofInt 64 a ||| BitVec.ofInt 64 b).toNat : Int) = x + c * 2 ^ (8 * k) := by
  obtain ⟨X, rfl⟩ := Int.eq_ofNat_of_zero_le hx0
  obtain ⟨C, rfl⟩ := Int.eq_ofNat_of_zero_le hc0
  have hX : X < 2 ^ (8 * k) := by exact_mod_cast hx
  have hC : C < 256 := by omega
  have hp := pow8_le hk
  have h2 : C * 2 ^ (8 * k) ≤ 255 * 2 ^ (8 * k) := Nat.mul_le_mul_right _ (by omega)
  have hXl : X < 18446744073709551616 := by omega
  have hCl : C * 2 ^ (8 * k) < 18446744073709551616 := by omega
  have e1 : (BitVec.ofInt 64 a).toNat = X := by
    have := toNat_ofInt64 a
    rw [ha] at this; omega
  have e2 : (BitVec.ofInt 64 b).toNat = C * 2 ^ (8 * k) := by
    have := toNat_ofInt64 b
    rw [hb] at this
    have e : ((C : Int) * 2 ^ (8 * k)) = ((C * 2 ^ (8 * k) : Nat) : Int) := by simp
    rw [e] at this; omega
  rw [BitVec.toNat_or, e1, e2, or_nat hX]
  simp

theorem or_i64 {x c : Int} {k : Nat} (hk : k < 8) (hx0 : 0 ≤ x) (hx : x < 2 ^ (8 * k)) (hc0 : 0 ≤ c) (hc : c < 256) :
    bits .or .i64 (wrap64 x) (wrap64 (c * 2 ^ (8 * k))) = wrap64 (x + c * 2 ^ (8 * k)) := by
  show IntKind.i64.wrap _ = _
  have h := or_bv hk hx0 hx hc0 hc _ _ (wrap64_mod x) (wrap64_mod (c * 2 ^ (8 * k)))
  have e : ((BitVec.ofInt IntKind.i64.bits (wrap64 x) ||| BitVec.ofInt IntKind.i64.bits (wrap64 (c * 2 ^ (8 * k)))).toNat : Int) = x + c * 2 ^ (8 * k) := h
  rw [IntKind.wrap_i64, e]
  simp only [wrap64]

theorem or_u64 {x c : Int} {k : Nat} (hk : k < 8) (hx0 : 0 ≤ x) (hx : x < 2 ^ (8 * k)) (hc0 : 0 ≤ c) (hc : c < 256) :
    bits .or .u64 x (c * 2 ^ (8 * k)) = x + c * 2 ^ (8 * k) := by
  show IntKind.u64.wrap _ = _
  have h := or_bv hk hx0 hx hc0 hc x (c * 2 ^ (8 * k)) rfl rfl
  have e : ((BitVec.ofInt IntKind.u64.bits x ||| BitVec.ofInt IntKind.u64.bits (c * 2 ^ (8 * k))).toNat : Int) = x + c * 2 ^ (8 * k) := h
  rw [IntKind.wrap_u64, e]
  have hp := pow8_le hk
  have ep : ((2 ^ (8 * k) : Nat) : Int) = (2 : Int) ^ (8 * k) := by rw [Int.natCast_pow]; rfl
  have h0 : (2 : Int) ^ (8 * k) * 256 ≤ 18446744073709551616 := by rw [← ep]; omega
  have h00 : 0 ≤ (2 : Int) ^ (8 * k) := by rw [← ep]; omega
  have h3 : c * 2 ^ (8 * k) ≤ 255 * 2 ^ (8 * k) := Int.mul_le_mul_of_nonneg_right (by omega) h00
  have h4 : 0 ≤ c * 2 ^ (8 * k) := Int.mul_nonneg hc0 h00
  omega

/-- Numbers that are bytes. -/
def Bytes (l : List Int) : Prop := ∀ x ∈ l, 0 ≤ x ∧ x < 256
theorem Bytes.take {l : List Int} (h : Bytes l) (n : Nat) : Bytes (l.take n) := fun x hx => h x (List.mem_of_mem_take hx)
theorem Bytes.drop {l : List Int} (h : Bytes l) (n : Nat) : Bytes (l.drop n) := fun x hx => h x (List.mem_of_mem_drop hx)
theorem Bytes.append {l m : List Int} (h : Bytes l) (k : Bytes m) : Bytes (l ++ m) := fun x hx => (List.mem_append.1 hx).elim (h x) (k x)
theorem Bytes.nil : Bytes [] := fun _ h => by cases h
theorem Bytes.cons {c : Int} {l : List Int} (hc : 0 ≤ c ∧ c < 256) (h : Bytes l) : Bytes (c :: l) := fun x hx => by
  rcases List.mem_cons.1 hx with rfl | h2
  · exact hc
  · exact h x h2

/-- Bytes as a number, the lowest first. -/
def le : List Int → Int
  | [] => 0
  | c :: r => c + 256 * le r
theorem le_snoc (l : List Int) (c : Int) : le (l ++ [c]) = le l + c * 2 ^ (8 * l.length) := by
  induction l with
  | nil => simp [le]
  | cons a r ih =>
    simp only [List.cons_append, le, ih, List.length_cons]
    have e : (2 : Int) ^ (8 * (r.length + 1)) = 256 * 2 ^ (8 * r.length) := by
      rw [show 8 * (r.length + 1) = 8 + 8 * r.length by omega, Int.pow_add]; rfl
    rw [e, Int.mul_add, Int.add_assoc, ← Int.mul_assoc, ← Int.mul_assoc, Int.mul_comm c 256]
theorem le_bd {l : List Int} (h : Bytes l) : 0 ≤ le l ∧ le l < 2 ^ (8 * l.length) := by
  induction l with
  | nil => simp [le]
  | cons a r ih =>
    have h1 := h a (List.mem_cons_self ..)
    have h2 := ih (fun x hx => h x (List.mem_cons_of_mem _ hx))
    have e : (2 : Int) ^ (8 * (r.length + 1)) = 256 * 2 ^ (8 * r.length) := by
      rw [show 8 * (r.length + 1) = 8 + 8 * r.length by omega, Int.pow_add]; rfl
    simp only [le, List.length_cons, e]
    omega
theorem take_snoc {l : List Int} {k : Nat} (h : k < l.length) : l.take (k + 1) = l.take k ++ [l[k]] := by
  rw [List.take_succ_eq_append_getElem h]
/-- One more byte. -/
theorem le_take_succ {l : List Int} {k : Nat} (h : k < l.length) : le (l.take (k + 1)) = le (l.take k) + l[k] * 2 ^ (8 * k) := by
  rw [take_snoc h, le_snoc]
  simp [Nat.min_eq_left (Nat.le_of_lt h)]
theorem wrap_u64_shift {c : Int} {k : Nat} (hk : k < 8) (hc0 : 0 ≤ c) (hc : c < 256) : IntKind.u64.wrap (c * 2 ^ (8 * k)) = c * 2 ^ (8 * k) := by
  have hp := pow8_le hk
  have ep : ((2 ^ (8 * k) : Nat) : Int) = (2 : Int) ^ (8 * k) := by rw [Int.natCast_pow]; rfl
  have h0 : (2 : Int) ^ (8 * k) * 256 ≤ 18446744073709551616 := by rw [← ep]; omega
  have h00 : 0 ≤ (2 : Int) ^ (8 * k) := by rw [← ep]; omega
  have h3 : c * 2 ^ (8 * k) ≤ 255 * 2 ^ (8 * k) := Int.mul_le_mul_of_nonneg_right (by omega) h00
  have h4 : 0 ≤ c * 2 ^ (8 * k) := Int.mul_nonneg hc0 h00
  rw [IntKind.wrap_u64]
  omega
/-- One more byte, as the program puts it on. -/
theorem or_u64_take {l : List Int} (hB : Bytes l) {k : Nat} (hk : k < 8) (h : k < l.length) : bits .or .u64 (le (l.take k)) (IntKind.u64.wrap (l[k] * 2 ^ (8 * k))) = le (l.take (k + 1)) := by
  have hb := le_bd (hB.take k)
  have hc := hB l[k] (List.getElem_mem h)
  rw [List.length_take, Nat.min_eq_left (Nat.le_of_lt h)] at hb
  rw [wrap_u64_shift hk hc.1 hc.2, or_u64 hk hb.1 hb.2 hc.1 hc.2, ← le_take_succ h]
end Go.Proofs.YtjchjpmgbmeohaaDoor

/- Package probe: a name's bits, mixed. -/
set_option linter.unusedSimpArgs false
set_option linter.unusedVariables false
namespace Go.Proofs.YtjchjpmgbmeohaaDoor
open Go.RowKit

def mixA (x : Nm) : Int := bits .xor .u64 (bits .xor .u64 x.lo (IntKind.u64.wrap (x.hi * 2147483648))) (x.hi / 8589934592)
def mixB (x : Nm) : Int := IntKind.u64.wrap (mixA x * 11400714819323198485)
def mix (x : Nm) : Int := bits .xor .u64 (mixB x) (mixB x / 536870912)
theorem u64_in (z : Int) : 0 ≤ IntKind.u64.wrap z ∧ IntKind.u64.wrap z < 18446744073709551616 := by rw [IntKind.wrap_u64]; omega
theorem mix_in (x : Nm) : 0 ≤ mix x ∧ mix x < 18446744073709551616 := u64_in _
theorem spread_any (w : World) (x : Nm) : Calls Tryd.prog 106 #[.agg #[.int .u64 x.hi, .int .u64 x.lo]] w fun e w' => e = .returned (.int .u64 (mix x)) ∧ Fr (fun _ => False) w w' := by
  go_enter Tryd.func106, Tryd.ntmps106
  go_wp2_with fail
  go_ret
  exact ⟨rfl, by repeat (first | (with_reducible exact Fr.refl _ _) | (with_reducible refine Fr.drew ?_) | (with_reducible refine Fr.drewN ?_ _) | (with_reducible refine Fr.alloc ?_ _) | (with_reducible refine Fr.set1 ?_ _) | (with_reducible refine Fr.setNew ?_ (by omega) _))⟩
theorem and_mask {x : Int} {n e : Nat} (hn : n = 2 ^ e) (he : e ≤ 40) (h0 : 0 ≤ x) (h1 : x < 18446744073709551616) : bits .and .u64 x ((n : Int) - 1) = x % n := by
  obtain ⟨X, rfl⟩ := Int.eq_ofNat_of_zero_le h0
  have hp : 0 < n := by rw [hn]; exact Nat.two_pow_pos e
  have hnl : n ≤ 2 ^ 40 := by rw [hn]; exact Nat.pow_le_pow_right (by decide) he
  have hnl2 : n ≤ 1099511627776 := by simpa using hnl
  have e1 : (BitVec.ofInt 64 (X : Int)).toNat = X := by
    have := toNat_ofInt64 (X : Int)
    omega
  have e2 : (BitVec.ofInt 64 ((n : Int) - 1)).toNat = n - 1 := by
    have := toNat_ofInt64 ((n : Int) - 1)
    omega
  show IntKind.u64.wrap (((BitVec.ofInt 64 (X : Int) &&& BitVec.ofInt 64 ((n : Int) - 1)).toNat : Nat) : Int) = _
  rw [BitVec.toNat_and, e1, e2, hn, Nat.and_two_pow_sub_one_eq_mod, IntKind.wrap_u64, ← hn]
  have hm : X % n < n := Nat.mod_lt _ hp
  have hc : ((X % n : Nat) : Int) = (X : Int) % n := Int.natCast_emod X n
  omega
end Go.Proofs.YtjchjpmgbmeohaaDoor
