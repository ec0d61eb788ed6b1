/- books' Debit, Credit. -/
import Derived.Test.YtjchjpmgbmeohaaDoorBkH
import Derived.Test.YtjchjpmgbmeohaaDoorLoads
import Derived.Deep.QuietTactic
import Derived.BigQuiet
set_option linter.unusedSimpArgs false
set_option linter.unusedVariables false
namespace Go.Proofs.YtjchjpmgbmeohaaDoor
open Go.RowKit

theorem haveN_ok {a : Acc} {d : Bool} (h : a.ok) : (haveN a d).ok := by
  unfold haveN
  split
  · exact nsub_ok h.cq (ntot_ok h.dp h.dq)
  · exact nsub_ok h.dq (ntot_ok h.cp h.cq)
def ovf (x y n : Nm) : Bool := nfit x y && nfit (nadd x y) n
theorem sums3 {x y n : Nm} (hx : x.ok) : (sums ⟨0, 0⟩ [x, y, n]).isSome = ovf x y n := by
  have h0 : nadd ⟨0, 0⟩ x = x := by
    have h := Nm.v_in hx
    unfold nadd
    rw [show (⟨0, 0⟩ : Nm).v = 0 from rfl, Int.zero_add, if_pos h.2, Nm.of_v hx]
  have h1 : nfit ⟨0, 0⟩ x = true := by
    have h := Nm.v_in hx
    unfold nfit
    rw [show (⟨0, 0⟩ : Nm).v = 0 from rfl, Int.zero_add]
    exact decide_eq_true h.2
  simp only [sums, h1, h0, if_true, ovf]
  cases nfit x y
  · rfl
  · simp only [if_true, Bool.true_and]
    cases nfit (nadd x y) n <;> rfl
def flagOn (a : Acc) (debit : Bool) : Bool := bits .and .i64 a.flags (if debit = true then 2 else 4) != 0
def updA (a : Acc) (debit : Bool) (n : Nm) (pn : Bool) : Acc :=
  if debit = true then (if pn = true then { a with dp := nadd a.dp n } else { a with dq := nadd a.dq n })
  else (if pn = true then { a with cp := nadd a.cp n } else { a with cq := nadd a.cq n })
def moreA (a : Acc) (debit : Bool) (n : Nm) (pn : Bool) : Acc :=
  if ovf (if debit = true then a.dp else a.cp) (if debit = true then a.dq else a.cq) n = true then (if (flagOn a debit && nless (haveN a debit) n) = true then a else updA a debit n pn) else a
def moreR (a : Acc) (debit : Bool) (n : Nm) : Int :=
  if ovf (if debit = true then a.dp else a.cp) (if debit = true then a.dq else a.cq) n = true then (if (flagOn a debit && nless (haveN a debit) n) = true then (if debit = true then 33 else 34) else 0) else 32

set_option maxRecDepth 4000 in
set_option maxHeartbeats 6400000 in
theorem Debit_any (w : World) (a : Acc) (n : Nm) (pn : Bool) (ha0 : a.ok) (hn0 : n.ok) (hm : Most w) :
    Calls Tryd.prog 11 #[.agg #[.int .u64 a.id.hi, .int .u64 a.id.lo, .int .u64 a.dp.hi, .int .u64 a.dp.lo, .int .u64 a.dq.hi, .int .u64 a.dq.lo, .int .u64 a.cp.hi, .int .u64 a.cp.lo, .int .u64 a.cq.hi, .int .u64 a.cq.lo, .int .i64 a.ledger, .int .i64 a.code, .int .i64 a.flags, .int .i64 a.stamp], .agg #[.int .u64 n.hi, .int .u64 n.lo], .bool pn] w fun e w' => e = .returned (.tuple #[(moreA a true n pn).val, .int .i64 (moreR a true n)]) ∧ Fr (fun _ => False) w w' := by
  have ha := Lib.hid ha0
  have hn := Lib.hid hn0
  have HM := Lib.hid hm
  have Ba := Lib.hid (blk_alloc (blk_alloc (blk_alloc (heap_alloc_new w (.cells #[.int .u64 a.id.hi, .int .u64 a.id.lo, .int .u64 a.dp.hi, .int .u64 a.dp.lo, .int .u64 a.dq.hi, .int .u64 a.dq.lo, .int .u64 a.cp.hi, .int .u64 a.cp.lo, .int .u64 a.cq.hi, .int .u64 a.cq.lo, .int .i64 a.ledger, .int .i64 a.code, .int .i64 a.flags, .int .i64 a.stamp] 26)) (.cells #[.int .u64 n.hi, .int .u64 n.lo] 24)) (.cells #[.int .u64 0, .int .u64 0, .int .u64 0, .int .u64 0, .int .u64 0, .int .u64 0, .int .u64 0, .int .u64 0, .int .u64 0, .int .u64 0, .int .i64 0, .int .i64 0, .int .i64 0, .int .i64 0] 26)) (.cells #[.int .u64 a.dp.hi, .int .u64 a.dp.lo, .int .u64 a.dq.hi, .int .u64 a.dq.lo, .int .u64 n.hi, .int .u64 n.lo] 24))
  have Bn := Lib.hid (blk_alloc (blk_alloc (blk1 w (.cells #[.int .u64 a.id.hi, .int .u64 a.id.lo, .int .u64 a.dp.hi, .int .u64 a.dp.lo, .int .u64 a.dq.hi, .int .u64 a.dq.lo, .int .u64 a.cp.hi, .int .u64 a.cp.lo, .int .u64 a.cq.hi, .int .u64 a.cq.lo, .int .i64 a.ledger, .int .i64 a.code, .int .i64 a.flags, .int .i64 a.stamp] 26) (.cells #[.int .u64 n.hi, .int .u64 n.lo] 24)) (.cells #[.int .u64 0, .int .u64 0, .int .u64 0, .int .u64 0, .int .u64 0, .int .u64 0, .int .u64 0, .int .u64 0, .int .u64 0, .int .u64 0, .int .i64 0, .int .i64 0, .int .i64 0, .int .i64 0] 26)) (.cells #[.int .u64 a.dp.hi, .int .u64 a.dp.lo, .int .u64 a.dq.hi, .int .u64 a.dq.lo, .int .u64 n.hi, .int .u64 n.lo] 24))
  have Bz := Lib.hid (blk_alloc (blk2 w (.cells #[.int .u64 a.id.hi, .int .u64 a.id.lo, .int .u64 a.dp.hi, .int .u64 a.dp.lo, .int .u64 a.dq.hi, .int .u64 a.dq.lo, .int .u64 a.cp.hi, .int .u64 a.cp.lo, .int .u64 a.cq.hi, .int .u64 a.cq.lo, .int .i64 a.ledger, .int .i64 a.code, .int .i64 a.flags, .int .i64 a.stamp] 26) (.cells #[.int .u64 n.hi, .int .u64 n.lo] 24) (.cells #[.int .u64 0, .int .u64 0, .int .u64 0, .int .u64 0, .int .u64 0, .int .u64 0, .int .u64 0, .int .u64 0, .int .u64 0, .int .u64 0, .int .i64 0, .int .i64 0, .int .i64 0, .int .i64 0] 26)) (.cells #[.int .u64 a.dp.hi, .int .u64 a.dp.lo, .int .u64 a.dq.hi, .int .u64 a.dq.lo, .int .u64 n.hi, .int .u64 n.lo] 24))
  have Br := Lib.hid (blk3 w (.cells #[.int .u64 a.id.hi, .int .u64 a.id.lo, .int .u64 a.dp.hi, .int .u64 a.dp.lo, .int .u64 a.dq.hi, .int .u64 a.dq.lo, .int .u64 a.cp.hi, .int .u64 a.cp.lo, .int .u64 a.cq.hi, .int .u64 a.cq.lo, .int .i64 a.ledger, .int .i64 a.code, .int .i64 a.flags, .int .i64 a.stamp] 26) (.cells #[.int .u64 n.hi, .int .u64 n.lo] 24) (.cells #[.int .u64 0, .int .u64 0, .int .u64 0, .int .u64 0, .int .u64 0, .int .u64 0, .int .u64 0, .int .u64 0, .int .u64 0, .int .u64 0, .int .i64 0, .int .i64 0, .int .i64 0, .int .i64 0] 26) (.cells #[.int .u64 a.dp.hi, .int .u64 a.dp.lo, .int .u64 a.dq.hi, .int .u64 a.dq.lo, .int .u64 n.hi, .int .u64 n.lo] 24))
  have FA := Lib.hid (((((Fr.refl (fun _ => False) w).alloc (.cells #[.int .u64 a.id.hi, .int .u64 a.id.lo, .int .u64 a.dp.hi, .int .u64 a.dp.lo, .int .u64 a.dq.hi, .int .u64 a.dq.lo, .int .u64 a.cp.hi, .int .u64 a.cp.lo, .int .u64 a.cq.hi, .int .u64 a.cq.lo, .int .i64 a.ledger, .int .i64 a.code, .int .i64 a.flags, .int .i64 a.stamp] 26)).alloc (.cells #[.int .u64 n.hi, .int .u64 n.lo] 24)).alloc (.cells #[.int .u64 0, .int .u64 0, .int .u64 0, .int .u64 0, .int .u64 0, .int .u64 0, .int .u64 0, .int .u64 0, .int .u64 0, .int .u64 0, .int .i64 0, .int .i64 0, .int .i64 0, .int .i64 0] 26)).alloc (.cells #[.int .u64 a.dp.hi, .int .u64 a.dp.lo, .int .u64 a.dq.hi, .int .u64 a.dq.lo, .int .u64 n.hi, .int .u64 n.lo] 24))
  have hrow : Row ((((w.alloc (.cells #[.int .u64 a.id.hi, .int .u64 a.id.lo, .int .u64 a.dp.hi, .int .u64 a.dp.lo, .int .u64 a.dq.hi, .int .u64 a.dq.lo, .int .u64 a.cp.hi, .int .u64 a.cp.lo, .int .u64 a.cq.hi, .int .u64 a.cq.lo, .int .i64 a.ledger, .int .i64 a.code, .int .i64 a.flags, .int .i64 a.stamp] 26)).alloc (.cells #[.int .u64 n.hi, .int .u64 n.lo] 24)).alloc (.cells #[.int .u64 0, .int .u64 0, .int .u64 0, .int .u64 0, .int .u64 0, .int .u64 0, .int .u64 0, .int .u64 0, .int .u64 0, .int .u64 0, .int .i64 0, .int .i64 0, .int .i64 0, .int .i64 0] 26)).alloc (.cells #[.int .u64 a.dp.hi, .int .u64 a.dp.lo, .int .u64 a.dq.hi, .int .u64 a.dq.lo, .int .u64 n.hi, .int .u64 n.lo] 24)) (some ⟨w.heap.size + 1 + 1 + 1, 0, none⟩) ([a.dp, a.dq, n].flatMap Nm.cells) := fun j u hu => ⟨_, _, rfl, by rw [Nat.zero_add]; exact blk_cell Br.out j (by simpa [Nm.cells] using hu)⟩
  have HSm := Lib.hid (sum_any ((((w.alloc (.cells #[.int .u64 a.id.hi, .int .u64 a.id.lo, .int .u64 a.dp.hi, .int .u64 a.dp.lo, .int .u64 a.dq.hi, .int .u64 a.dq.lo, .int .u64 a.cp.hi, .int .u64 a.cp.lo, .int .u64 a.cq.hi, .int .u64 a.cq.lo, .int .i64 a.ledger, .int .i64 a.code, .int .i64 a.flags, .int .i64 a.stamp] 26)).alloc (.cells #[.int .u64 n.hi, .int .u64 n.lo] 24)).alloc (.cells #[.int .u64 0, .int .u64 0, .int .u64 0, .int .u64 0, .int .u64 0, .int .u64 0, .int .u64 0, .int .u64 0, .int .u64 0, .int .u64 0, .int .i64 0, .int .i64 0, .int .i64 0, .int .i64 0] 26)).alloc (.cells #[.int .u64 a.dp.hi, .int .u64 a.dp.lo, .int .u64 a.dq.hi, .int .u64 a.dq.lo, .int .u64 n.hi, .int .u64 n.lo] 24)) (some ⟨w.heap.size + 1 + 1 + 1, 0, none⟩) 3 [a.dp, a.dq, n] hrow (by
    intro z hz
    simp only [List.mem_cons, List.not_mem_nil, or_false] at hz
    rcases hz with rfl | rfl | rfl
    · exact ha0.dp
    · exact ha0.dq
    · exact hn0) (by simp))
  rw [sums3 ha0.dp] at HSm
  obtain ⟨V, hV⟩ : ∃ V, sumV [a.dp, a.dq, n] = V := ⟨_, rfl⟩
  obtain ⟨ok, hok⟩ : ∃ ok, ovf a.dp a.dq n = ok := ⟨_, rfl⟩
  rw [hV, hok] at HSm
  obtain ⟨f, hf⟩ : ∃ f, bits .and .i64 a.flags 2 = f := ⟨_, rfl⟩
  obtain ⟨fo, hfo⟩ : ∃ fo, (f != 0) = fo := ⟨_, rfl⟩
  have HH := Lib.hid (fun W (h : Fr (fun _ => False) w W) => have_any W a true ha0 (HM.out.fr h (fun h => h)))
  have HLs := Lib.hid (fun W => nless_any W (haveN a true) n (haveN_ok ha0) hn0)
  obtain ⟨hv, hhv⟩ : ∃ h, haveN a true = h := ⟨_, rfl⟩
  obtain ⟨ls, hls⟩ : ∃ l, nless hv n = l := ⟨_, rfl⟩
  obtain ⟨MA, hMA⟩ : ∃ m, moreA a true n pn = m := ⟨_, rfl⟩
  obtain ⟨MR, hMR⟩ : ∃ m, moreR a true n = m := ⟨_, rfl⟩
  rw [hhv] at HH HLs
  rw [hls] at HLs
  rw [hMA, hMR]
  have HMA := Lib.hid (show (if ok = true then (if (fo && ls) = true then a else updA a true n pn) else a) = MA from by rw [← hMA, moreA, flagOn]; simp only [if_pos, if_true, Bool.false_eq_true, if_false, reduceIte, hok, hf, hfo, hhv, hls])
  have HMR := Lib.hid (show (if ok = true then (if (fo && ls) = true then 33 else 0) else 32) = MR from by rw [← hMR, moreR, flagOn]; simp only [if_pos, if_true, Bool.false_eq_true, if_false, reduceIte, hok, hf, hfo, hhv, hls])
  clear hV hok hhv hls hMA hMR ha0 hn0 hm hrow
  cases ok
  · have HV1 := Lib.hid (show MA = a from HMA.out.symm)
    have HV2 := Lib.hid (show MR = 32 from HMR.out.symm)
    clear hf hfo
    go_enter Tryd.func11, Tryd.ntmps11
    go_wp2_with fail
    refine HSm.out.mono ?_
    rintro e w2 ⟨rfl, f2⟩
    have F3 := Lib.hid ((FA.out.then_ f2 (fun _ h => h.elim)).alloc (.cells #[.int .u64 V.hi, .int .u64 V.lo] 24))
    have Ba3 := Lib.hid (blk_alloc (f2.blk Ba.out (fun h => h)) (.cells #[.int .u64 V.hi, .int .u64 V.lo] 24))
    have Bz3 := Lib.hid (blk_alloc (f2.blk Bz.out (fun h => h)) (.cells #[.int .u64 V.hi, .int .u64 V.lo] 24))
    clear f2
    go_wp2_with (first
      | ((with_reducible refine wpList_load_row_w ?lw 26 _ rfl w.heap.size rfl 26 _ _ _ Ba3.out Tryd.underlying26 rfl rfl ?_); (case lw => rfl))
      | ((refine wpList_store_row rfl 26 (.tmp 6) (.tmp 22) rfl (w.heap.size + 1 + 1) #[.int .u64 a.id.hi, .int .u64 a.id.lo, .int .u64 a.dp.hi, .int .u64 a.dp.lo, .int .u64 a.dq.hi, .int .u64 a.dq.lo, .int .u64 a.cp.hi, .int .u64 a.cp.lo, .int .u64 a.cq.hi, .int .u64 a.cq.lo, .int .i64 a.ledger, .int .i64 a.code, .int .i64 a.flags, .int .i64 a.stamp] rfl rfl Bz3.out rfl rfl (by simp [Value.oneCell']) ?_); intro w9 hb9 f9; have HB9 := Lib.hid hb9; have F9 := Lib.hid f9; clear hb9 f9)
      | fail)
    refine bodyPost_ret (results_cell2 (p := 6) (q := 7) rfl _ _ (w.heap.size + 1 + 1) 26 _ (0, 0) _ rfl HB9.out Tryd.underlying26 rfl rfl) rfl ?_
    exact ⟨by rw [HV1.out, HV2.out]; rfl, F3.out.then_ F9.out (fun k hk => .inr (by omega))⟩
  go_enter Tryd.func11, Tryd.ntmps11
  go_wp2_with fail
  refine HSm.out.mono ?_
  rintro e w2 ⟨rfl, f2⟩
  have F3 := Lib.hid ((FA.out.then_ f2 (fun _ h => h.elim)).alloc (.cells #[.int .u64 V.hi, .int .u64 V.lo] 24))
  have Ba3 := Lib.hid (blk_alloc (f2.blk Ba.out (fun h => h)) (.cells #[.int .u64 V.hi, .int .u64 V.lo] 24))
  have Bn3 := Lib.hid (blk_alloc (f2.blk Bn.out (fun h => h)) (.cells #[.int .u64 V.hi, .int .u64 V.lo] 24))
  have Bz3 := Lib.hid (blk_alloc (f2.blk Bz.out (fun h => h)) (.cells #[.int .u64 V.hi, .int .u64 V.lo] 24))
  clear f2
  obtain ⟨wp, hwp⟩ : ∃ W, w2.alloc (.cells #[.int .u64 V.hi, .int .u64 V.lo] 24) = W := ⟨_, rfl⟩
  rw [hwp] at F3 Ba3 Bn3 Bz3
  have q0 := blk_cell Ba3.out 0 rfl; have q1 := blk_cell Ba3.out 1 rfl; have q2 := blk_cell Ba3.out 2 rfl; have q3 := blk_cell Ba3.out 3 rfl; have q4 := blk_cell Ba3.out 4 rfl; have q5 := blk_cell Ba3.out 5 rfl; have q6 := blk_cell Ba3.out 6 rfl; have q7 := blk_cell Ba3.out 7 rfl; have q8 := blk_cell Ba3.out 8 rfl; have q9 := blk_cell Ba3.out 9 rfl; have q10 := blk_cell Ba3.out 10 rfl; have q11 := blk_cell Ba3.out 11 rfl; have q12 := blk_cell Ba3.out 12 rfl; have q13 := blk_cell Ba3.out 13 rfl
  have n0 := blk_cell Bn3.out 0 rfl; have n1 := blk_cell Bn3.out 1 rfl
  go_upto_region 4 with fail
  (try rw [hwp])
  clear hwp
  go_cut [32] from 23 (fun c w' => c = .bool (fo && ls) ∧ w'.heap[w.heap.size]? = some (.cells #[.int .u64 a.id.hi, .int .u64 a.id.lo, .int .u64 a.dp.hi, .int .u64 a.dp.lo, .int .u64 a.dq.hi, .int .u64 a.dq.lo, .int .u64 a.cp.hi, .int .u64 a.cp.lo, .int .u64 a.cq.hi, .int .u64 a.cq.lo, .int .i64 a.ledger, .int .i64 a.code, .int .i64 a.flags, .int .i64 a.stamp] 26 (0, 0)) ∧ w'.heap[w.heap.size + 1]? = some (.cells #[.int .u64 n.hi, .int .u64 n.lo] 24 (0, 0)) ∧ w'.heap[w.heap.size + 1 + 1]? = some (.cells #[.int .u64 0, .int .u64 0, .int .u64 0, .int .u64 0, .int .u64 0, .int .u64 0, .int .u64 0, .int .u64 0, .int .u64 0, .int .u64 0, .int .i64 0, .int .i64 0, .int .i64 0, .int .i64 0] 26 (0, 0)) ∧ Fr (fun _ => False) w w')
  case first =>
    cases fo
    · go_quiet (fail)
      go_wp2_with fail
      go_meet
      exact ⟨rfl, Ba3.out, Bn3.out, Bz3.out, F3.out.drewN _⟩
    · go_region_held3 (fun w' => w'.cell? ⟨w.heap.size, 0, none⟩ = some (Value.int .u64 a.id.hi) ∧ w'.cell? ⟨w.heap.size, 1, none⟩ = some (Value.int .u64 a.id.lo) ∧ w'.cell? ⟨w.heap.size, 2, none⟩ = some (Value.int .u64 a.dp.hi) ∧ w'.cell? ⟨w.heap.size, 3, none⟩ = some (Value.int .u64 a.dp.lo) ∧ w'.cell? ⟨w.heap.size, 4, none⟩ = some (Value.int .u64 a.dq.hi) ∧ w'.cell? ⟨w.heap.size, 5, none⟩ = some (Value.int .u64 a.dq.lo) ∧ w'.cell? ⟨w.heap.size, 6, none⟩ = some (Value.int .u64 a.cp.hi) ∧ w'.cell? ⟨w.heap.size, 7, none⟩ = some (Value.int .u64 a.cp.lo) ∧ w'.cell? ⟨w.heap.size, 8, none⟩ = some (Value.int .u64 a.cq.hi) ∧ w'.cell? ⟨w.heap.size, 9, none⟩ = some (Value.int .u64 a.cq.lo) ∧ w'.cell? ⟨w.heap.size, 10, none⟩ = some (Value.int .i64 a.ledger) ∧ w'.cell? ⟨w.heap.size, 11, none⟩ = some (Value.int .i64 a.code) ∧ w'.cell? ⟨w.heap.size, 12, none⟩ = some (Value.int .i64 a.flags) ∧ w'.cell? ⟨w.heap.size, 13, none⟩ = some (Value.int .i64 a.stamp) ∧ w'.cell? ⟨w.heap.size + 1, 0, none⟩ = some (Value.int .u64 n.hi) ∧ w'.cell? ⟨w.heap.size + 1, 1, none⟩ = some (Value.int .u64 n.lo))
        (first | exact ⟨q0, q1, q2, q3, q4, q5, q6, q7, q8, q9, q10, q11, q12, q13, n0, n1⟩ | go_keep)
        (first
          | (go_at_call 13; (with_reducible refine (HH.out wp.drew F3.out.drew).mono ?_); rintro e w4 ⟨rfl, f4⟩; have F4 := Lib.hid (F3.out.drew.then_ f4 (fun _ h => h.elim)); have Ba4 := Lib.hid (f4.blk (blk_drew Ba3.out) (fun h => h)); have Bn4 := Lib.hid (f4.blk (blk_drew Bn3.out) (fun h => h)); have Bz4 := Lib.hid (f4.blk (blk_drew Bz3.out) (fun h => h)); have q0 := blk_cell Ba4.out 0 rfl; have q1 := blk_cell Ba4.out 1 rfl; have q2 := blk_cell Ba4.out 2 rfl; have q3 := blk_cell Ba4.out 3 rfl; have q4 := blk_cell Ba4.out 4 rfl; have q5 := blk_cell Ba4.out 5 rfl; have q6 := blk_cell Ba4.out 6 rfl; have q7 := blk_cell Ba4.out 7 rfl; have q8 := blk_cell Ba4.out 8 rfl; have q9 := blk_cell Ba4.out 9 rfl; have q10 := blk_cell Ba4.out 10 rfl; have q11 := blk_cell Ba4.out 11 rfl; have q12 := blk_cell Ba4.out 12 rfl; have q13 := blk_cell Ba4.out 13 rfl; have n0 := blk_cell Bn4.out 0 rfl; have n1 := blk_cell Bn4.out 1 rfl; clear f4)
          | (go_at_call 43; (with_reducible refine (HLs.out _).mono ?_); rintro e w5 ⟨rfl, f5⟩; have F5 := Lib.hid (F4.out.then_ f5 (fun _ h => h.elim)); have Ba5 := Lib.hid (f5.blk Ba4.out (fun h => h)); have Bn5 := Lib.hid (f5.blk Bn4.out (fun h => h)); have Bz5 := Lib.hid (f5.blk Bz4.out (fun h => h)); have q0 := blk_cell Ba5.out 0 rfl; have q1 := blk_cell Ba5.out 1 rfl; have q2 := blk_cell Ba5.out 2 rfl; have q3 := blk_cell Ba5.out 3 rfl; have q4 := blk_cell Ba5.out 4 rfl; have q5 := blk_cell Ba5.out 5 rfl; have q6 := blk_cell Ba5.out 6 rfl; have q7 := blk_cell Ba5.out 7 rfl; have q8 := blk_cell Ba5.out 8 rfl; have q9 := blk_cell Ba5.out 9 rfl; have q10 := blk_cell Ba5.out 10 rfl; have q11 := blk_cell Ba5.out 11 rfl; have q12 := blk_cell Ba5.out 12 rfl; have q13 := blk_cell Ba5.out 13 rfl; have n0 := blk_cell Bn5.out 0 rfl; have n1 := blk_cell Bn5.out 1 rfl; clear f5))
      go_wp2_with fail
      go_meet
      exact ⟨rfl, Ba5.out, Bn5.out, Bz5.out, F5.out⟩
  case rest =>
  clear q0 q1 q2 q3 q4 q5 q6 q7 q8 q9 q10 q11 q12 q13 n0 n1
  obtain ⟨rfl, hba, hbn, hbz, hff⟩ := hcut
  have Ba5 := Lib.hid hba
  have Bn5 := Lib.hid hbn
  have Bz5 := Lib.hid hbz
  have F5 := Lib.hid hff
  clear hba hbn hbz hff hf hfo
  obtain ⟨c, hc⟩ : ∃ c, (fo && ls) = c := ⟨_, rfl⟩
  rw [hc] at HMA HMR ⊢
  clear hc
  obtain ⟨wq, hwq⟩ : ∃ W : World, W = wc := ⟨_, rfl⟩
  subst hwq
  cases c
  · have HV2 := Lib.hid (show MR = 0 from HMR.out.symm)
    cases pn
    · have HV1 := Lib.hid (show MA = updA a true n false from HMA.out.symm)
      have q2 := blk_cell Ba5.out 2 rfl; have q3 := blk_cell Ba5.out 3 rfl; have q4 := blk_cell Ba5.out 4 rfl; have q5 := blk_cell Ba5.out 5 rfl
      have n0 := blk_cell Bn5.out 0 rfl; have n1 := blk_cell Bn5.out 1 rfl
      have HPd := Lib.hid (nadd_any wq a.dq n ha.out.dq hn.out)
      obtain ⟨s, hs⟩ : ∃ s, nadd a.dq n = s := ⟨_, rfl⟩
      rw [hs] at HPd
      have HSs := Lib.hid hs
      clear hs
      go_wp2_with fail
      refine HPd.out.mono ?_
      rintro e w6 ⟨rfl, f6⟩
      have F6 := Lib.hid (F5.out.then_ f6 (fun _ h => h.elim))
      have Ba6 := Lib.hid (f6.blk Ba5.out (fun h => h))
      have Bz6 := Lib.hid (f6.blk Bz5.out (fun h => h))
      clear f6
      go_wp2_with (first
        | ((refine wpList_store_part rfl 24 (.tmp 50) (.tmp 48) rfl w.heap.size 4 #[.int .u64 s.hi, .int .u64 s.lo] rfl rfl Ba6.out (by show 4 + 2 ≤ 14; omega) rfl (by simp [Value.oneCell']) ?_); intro w7 hb7 f7; have Ba7 := Lib.hid (show w7.heap[w.heap.size]? = some (.cells #[.int .u64 a.id.hi, .int .u64 a.id.lo, .int .u64 a.dp.hi, .int .u64 a.dp.lo, .int .u64 s.hi, .int .u64 s.lo, .int .u64 a.cp.hi, .int .u64 a.cp.lo, .int .u64 a.cq.hi, .int .u64 a.cq.lo, .int .i64 a.ledger, .int .i64 a.code, .int .i64 a.flags, .int .i64 a.stamp] 26 (0, 0)) from hb7); have F7 := Lib.hid (F6.out.then_ f7 (fun j hj => .inr (Nat.le_of_eq hj.symm))); have Bz7 := Lib.hid (f7.blk Bz6.out (by omega)); clear hb7 f7)
        | ((with_reducible refine wpList_load_row_w ?lw 26 _ rfl w.heap.size rfl 26 _ _ _ Ba7.out Tryd.underlying26 rfl rfl ?_); (case lw => rfl))
        | ((refine wpList_store_row rfl 26 (.tmp 6) (.tmp 51) rfl (w.heap.size + 1 + 1) #[.int .u64 a.id.hi, .int .u64 a.id.lo, .int .u64 a.dp.hi, .int .u64 a.dp.lo, .int .u64 s.hi, .int .u64 s.lo, .int .u64 a.cp.hi, .int .u64 a.cp.lo, .int .u64 a.cq.hi, .int .u64 a.cq.lo, .int .i64 a.ledger, .int .i64 a.code, .int .i64 a.flags, .int .i64 a.stamp] rfl rfl Bz7.out rfl rfl (by simp [Value.oneCell']) ?_); intro w9 hb9 f9; have HB9 := Lib.hid hb9; have F9 := Lib.hid f9; clear hb9 f9)
        | fail)
      refine bodyPost_ret (results_cell2 (p := 6) (q := 7) rfl _ _ (w.heap.size + 1 + 1) 26 _ (0, 0) _ rfl HB9.out Tryd.underlying26 rfl rfl) rfl ?_
      exact ⟨by rw [HV1.out, HV2.out, ← HSs.out]; rfl, F7.out.then_ F9.out (fun k hk => .inr (by omega))⟩

    · have HV1 := Lib.hid (show MA = updA a true n true from HMA.out.symm)
      have q2 := blk_cell Ba5.out 2 rfl; have q3 := blk_cell Ba5.out 3 rfl; have q4 := blk_cell Ba5.out 4 rfl; have q5 := blk_cell Ba5.out 5 rfl
      have n0 := blk_cell Bn5.out 0 rfl; have n1 := blk_cell Bn5.out 1 rfl
      have HPd := Lib.hid (nadd_any wq a.dp n ha.out.dp hn.out)
      obtain ⟨s, hs⟩ : ∃ s, nadd a.dp n = s := ⟨_, rfl⟩
      rw [hs] at HPd
      have HSs := Lib.hid hs
      clear hs
      go_wp2_with fail
      refine HPd.out.mono ?_
      rintro e w6 ⟨rfl, f6⟩
      have F6 := Lib.hid (F5.out.then_ f6 (fun _ h => h.elim))
      have Ba6 := Lib.hid (f6.blk Ba5.out (fun h => h))
      have Bz6 := Lib.hid (f6.blk Bz5.out (fun h => h))
      clear f6
      go_wp2_with (first
        | ((refine wpList_store_part rfl 24 (.tmp 42) (.tmp 40) rfl w.heap.size 2 #[.int .u64 s.hi, .int .u64 s.lo] rfl rfl Ba6.out (by show 2 + 2 ≤ 14; omega) rfl (by simp [Value.oneCell']) ?_); intro w7 hb7 f7; have Ba7 := Lib.hid (show w7.heap[w.heap.size]? = some (.cells #[.int .u64 a.id.hi, .int .u64 a.id.lo, .int .u64 s.hi, .int .u64 s.lo, .int .u64 a.dq.hi, .int .u64 a.dq.lo, .int .u64 a.cp.hi, .int .u64 a.cp.lo, .int .u64 a.cq.hi, .int .u64 a.cq.lo, .int .i64 a.ledger, .int .i64 a.code, .int .i64 a.flags, .int .i64 a.stamp] 26 (0, 0)) from hb7); have F7 := Lib.hid (F6.out.then_ f7 (fun j hj => .inr (Nat.le_of_eq hj.symm))); have Bz7 := Lib.hid (f7.blk Bz6.out (by omega)); clear hb7 f7)
        | ((with_reducible refine wpList_load_row_w ?lw 26 _ rfl w.heap.size rfl 26 _ _ _ Ba7.out Tryd.underlying26 rfl rfl ?_); (case lw => rfl))
        | ((refine wpList_store_row rfl 26 (.tmp 6) (.tmp 51) rfl (w.heap.size + 1 + 1) #[.int .u64 a.id.hi, .int .u64 a.id.lo, .int .u64 s.hi, .int .u64 s.lo, .int .u64 a.dq.hi, .int .u64 a.dq.lo, .int .u64 a.cp.hi, .int .u64 a.cp.lo, .int .u64 a.cq.hi, .int .u64 a.cq.lo, .int .i64 a.ledger, .int .i64 a.code, .int .i64 a.flags, .int .i64 a.stamp] rfl rfl Bz7.out rfl rfl (by simp [Value.oneCell']) ?_); intro w9 hb9 f9; have HB9 := Lib.hid hb9; have F9 := Lib.hid f9; clear hb9 f9)
        | fail)
      refine bodyPost_ret (results_cell2 (p := 6) (q := 7) rfl _ _ (w.heap.size + 1 + 1) 26 _ (0, 0) _ rfl HB9.out Tryd.underlying26 rfl rfl) rfl ?_
      exact ⟨by rw [HV1.out, HV2.out, ← HSs.out]; rfl, F7.out.then_ F9.out (fun k hk => .inr (by omega))⟩

  · have HV1 := Lib.hid (show MA = a from HMA.out.symm)
    have HV2 := Lib.hid (show MR = 33 from HMR.out.symm)
    go_wp2_with (first
      | ((with_reducible refine wpList_load_row_w ?lw 26 _ rfl w.heap.size rfl 26 _ _ _ Ba5.out Tryd.underlying26 rfl rfl ?_); (case lw => rfl))
      | ((refine wpList_store_row rfl 26 (.tmp 6) (.tmp 33) rfl (w.heap.size + 1 + 1) #[.int .u64 a.id.hi, .int .u64 a.id.lo, .int .u64 a.dp.hi, .int .u64 a.dp.lo, .int .u64 a.dq.hi, .int .u64 a.dq.lo, .int .u64 a.cp.hi, .int .u64 a.cp.lo, .int .u64 a.cq.hi, .int .u64 a.cq.lo, .int .i64 a.ledger, .int .i64 a.code, .int .i64 a.flags, .int .i64 a.stamp] rfl rfl Bz5.out rfl rfl (by simp [Value.oneCell']) ?_); intro w9 hb9 f9; have HB9 := Lib.hid hb9; have F9 := Lib.hid f9; clear hb9 f9)
      | fail)
    refine bodyPost_ret (results_cell2 (p := 6) (q := 7) rfl _ _ (w.heap.size + 1 + 1) 26 _ (0, 0) _ rfl HB9.out Tryd.underlying26 rfl rfl) rfl ?_
    exact ⟨by rw [HV1.out, HV2.out]; rfl, F5.out.then_ F9.out (fun k hk => .inr (by omega))⟩

set_option maxRecDepth 4000 in
set_option maxHeartbeats 6400000 in
theorem Credit_any (w : World) (a : Acc) (n : Nm) (pn : Bool) (ha0 : a.ok) (hn0 : n.ok) (hm : Most w) :
    Calls Tryd.prog 10 #[.agg #[.int .u64 a.id.hi, .int .u64 a.id.lo, .int .u64 a.dp.hi, .int .u64 a.dp.lo, .int .u64 a.dq.hi, .int .u64 a.dq.lo, .int .u64 a.cp.hi, .int .u64 a.cp.lo, .int .u64 a.cq.hi, .int .u64 a.cq.lo, .int .i64 a.ledger, .int .i64 a.code, .int .i64 a.flags, .int .i64 a.stamp], .agg #[.int .u64 n.hi, .int .u64 n.lo], .bool pn] w fun e w' => e = .returned (.tuple #[(moreA a false n pn).val, .int .i64 (moreR a false n)]) ∧ Fr (fun _ => False) w w' := by
  have ha := Lib.hid ha0
  have hn := Lib.hid hn0
  have HM := Lib.hid hm
  have Ba := Lib.hid (blk_alloc (blk_alloc (blk_alloc (heap_alloc_new w (.cells #[.int .u64 a.id.hi, .int .u64 a.id.lo, .int .u64 a.dp.hi, .int .u64 a.dp.lo, .int .u64 a.dq.hi, .int .u64 a.dq.lo, .int .u64 a.cp.hi, .int .u64 a.cp.lo, .int .u64 a.cq.hi, .int .u64 a.cq.lo, .int .i64 a.ledger, .int .i64 a.code, .int .i64 a.flags, .int .i64 a.stamp] 26)) (.cells #[.int .u64 n.hi, .int .u64 n.lo] 24)) (.cells #[.int .u64 0, .int .u64 0, .int .u64 0, .int .u64 0, .int .u64 0, .int .u64 0, .int .u64 0, .int .u64 0, .int .u64 0, .int .u64 0, .int .i64 0, .int .i64 0, .int .i64 0, .int .i64 0] 26)) (.cells #[.int .u64 a.cp.hi, .int .u64 a.cp.lo, .int .u64 a.cq.hi, .int .u64 a.cq.lo, .int .u64 n.hi, .int .u64 n.lo] 24))
  have Bn := Lib.hid (blk_alloc (blk_alloc (blk1 w (.cells #[.int .u64 a.id.hi, .int .u64 a.id.lo, .int .u64 a.dp.hi, .int .u64 a.dp.lo, .int .u64 a.dq.hi, .int .u64 a.dq.lo, .int .u64 a.cp.hi, .int .u64 a.cp.lo, .int .u64 a.cq.hi, .int .u64 a.cq.lo, .int .i64 a.ledger, .int .i64 a.code, .int .i64 a.flags, .int .i64 a.stamp] 26) (.cells #[.int .u64 n.hi, .int .u64 n.lo] 24)) (.cells #[.int .u64 0, .int .u64 0, .int .u64 0, .int .u64 0, .int .u64 0, .int .u64 0, .int .u64 0, .int .u64 0, .int .u64 0, .int .u64 0, .int .i64 0, .int .i64 0, .int .i64 0, .int .i64 0] 26)) (.cells #[.int .u64 a.cp.hi, .int .u64 a.cp.lo, .int .u64 a.cq.hi, .int .u64 a.cq.lo, .int .u64 n.hi, .int .u64 n.lo] 24))
  have Bz := Lib.hid (blk_alloc (blk2 w (.cells #[.int .u64 a.id.hi, .int .u64 a.id.lo, .int .u64 a.dp.hi, .int .u64 a.dp.lo, .int .u64 a.dq.hi, .int .u64 a.dq.lo, .int .u64 a.cp.hi, .int .u64 a.cp.lo, .int .u64 a.cq.hi, .int .u64 a.cq.lo, .int .i64 a.ledger, .int .i64 a.code, .int .i64 a.flags, .int .i64 a.stamp] 26) (.cells #[.int .u64 n.hi, .int .u64 n.lo] 24) (.cells #[.int .u64 0, .int .u64 0, .int .u64 0, .int .u64 0, .int .u64 0, .int .u64 0, .int .u64 0, .int .u64 0, .int .u64 0, .int .u64 0, .int .i64 0, .int .i64 0, .int .i64 0, .int .i64 0] 26)) (.cells #[.int .u64 a.cp.hi, .int .u64 a.cp.lo, .int .u64 a.cq.hi, .int .u64 a.cq.lo, .int .u64 n.hi, .int .u64 n.lo] 24))
  have Br := Lib.hid (blk3 w (.cells #[.int .u64 a.id.hi, .int .u64 a.id.lo, .int .u64 a.dp.hi, .int .u64 a.dp.lo, .int .u64 a.dq.hi, .int .u64 a.dq.lo, .int .u64 a.cp.hi, .int .u64 a.cp.lo, .int .u64 a.cq.hi, .int .u64 a.cq.lo, .int .i64 a.ledger, .int .i64 a.code, .int .i64 a.flags, .int .i64 a.stamp] 26) (.cells #[.int .u64 n.hi, .int .u64 n.lo] 24) (.cells #[.int .u64 0, .int .u64 0, .int .u64 0, .int .u64 0, .int .u64 0, .int .u64 0, .int .u64 0, .int .u64 0, .int .u64 0, .int .u64 0, .int .i64 0, .int .i64 0, .int .i64 0, .int .i64 0] 26) (.cells #[.int .u64 a.cp.hi, .int .u64 a.cp.lo, .int .u64 a.cq.hi, .int .u64 a.cq.lo, .int .u64 n.hi, .int .u64 n.lo] 24))
  have FA := Lib.hid (((((Fr.refl (fun _ => False) w).alloc (.cells #[.int .u64 a.id.hi, .int .u64 a.id.lo, .int .u64 a.dp.hi, .int .u64 a.dp.lo, .int .u64 a.dq.hi, .int .u64 a.dq.lo, .int .u64 a.cp.hi, .int .u64 a.cp.lo, .int .u64 a.cq.hi, .int .u64 a.cq.lo, .int .i64 a.ledger, .int .i64 a.code, .int .i64 a.flags, .int .i64 a.stamp] 26)).alloc (.cells #[.int .u64 n.hi, .int .u64 n.lo] 24)).alloc (.cells #[.int .u64 0, .int .u64 0, .int .u64 0, .int .u64 0, .int .u64 0, .int .u64 0, .int .u64 0, .int .u64 0, .int .u64 0, .int .u64 0, .int .i64 0, .int .i64 0, .int .i64 0, .int .i64 0] 26)).alloc (.cells #[.int .u64 a.cp.hi, .int .u64 a.cp.lo, .int .u64 a.cq.hi, .int .u64 a.cq.lo, .int .u64 n.hi, .int .u64 n.lo] 24))
  have hrow : Row ((((w.alloc (.cells #[.int .u64 a.id.hi, .int .u64 a.id.lo, .int .u64 a.dp.hi, .int .u64 a.dp.lo, .int .u64 a.dq.hi, .int .u64 a.dq.lo, .int .u64 a.cp.hi, .int .u64 a.cp.lo, .int .u64 a.cq.hi, .int .u64 a.cq.lo, .int .i64 a.ledger, .int .i64 a.code, .int .i64 a.flags, .int .i64 a.stamp] 26)).alloc (.cells #[.int .u64 n.hi, .int .u64 n.lo] 24)).alloc (.cells #[.int .u64 0, .int .u64 0, .int .u64 0, .int .u64 0, .int .u64 0, .int .u64 0, .int .u64 0, .int .u64 0, .int .u64 0, .int .u64 0, .int .i64 0, .int .i64 0, .int .i64 0, .int .i64 0] 26)).alloc (.cells #[.int .u64 a.cp.hi, .int .u64 a.cp.lo, .int .u64 a.cq.hi, .int .u64 a.cq.lo, .int .u64 n.hi, .int .u64 n.lo] 24)) (some ⟨w.heap.size + 1 + 1 + 1, 0, none⟩) ([a.cp, a.cq, n].flatMap Nm.cells) := fun j u hu => ⟨_, _, rfl, by rw [Nat.zero_add]; exact blk_cell Br.out j (by simpa [Nm.cells] using hu)⟩
  have HSm := Lib.hid (sum_any ((((w.alloc (.cells #[.int .u64 a.id.hi, .int .u64 a.id.lo, .int .u64 a.dp.hi, .int .u64 a.dp.lo, .int .u64 a.dq.hi, .int .u64 a.dq.lo, .int .u64 a.cp.hi, .int .u64 a.cp.lo, .int .u64 a.cq.hi, .int .u64 a.cq.lo, .int .i64 a.ledger, .int .i64 a.code, .int .i64 a.flags, .int .i64 a.stamp] 26)).alloc (.cells #[.int .u64 n.hi, .int .u64 n.lo] 24)).alloc (.cells #[.int .u64 0, .int .u64 0, .int .u64 0, .int .u64 0, .int .u64 0, .int .u64 0, .int .u64 0, .int .u64 0, .int .u64 0, .int .u64 0, .int .i64 0, .int .i64 0, .int .i64 0, .int .i64 0] 26)).alloc (.cells #[.int .u64 a.cp.hi, .int .u64 a.cp.lo, .int .u64 a.cq.hi, .int .u64 a.cq.lo, .int .u64 n.hi, .int .u64 n.lo] 24)) (some ⟨w.heap.size + 1 + 1 + 1, 0, none⟩) 3 [a.cp, a.cq, n] hrow (by
    intro z hz
    simp only [List.mem_cons, List.not_mem_nil, or_false] at hz
    rcases hz with rfl | rfl | rfl
    · exact ha0.cp
    · exact ha0.cq
    · exact hn0) (by simp))
  rw [sums3 ha0.cp] at HSm
  obtain ⟨V, hV⟩ : ∃ V, sumV [a.cp, a.cq, n] = V := ⟨_, rfl⟩
  obtain ⟨ok, hok⟩ : ∃ ok, ovf a.cp a.cq n = ok := ⟨_, rfl⟩
  rw [hV, hok] at HSm
  obtain ⟨f, hf⟩ : ∃ f, bits .and .i64 a.flags 4 = f := ⟨_, rfl⟩
  obtain ⟨fo, hfo⟩ : ∃ fo, (f != 0) = fo := ⟨_, rfl⟩
  have HH := Lib.hid (fun W (h : Fr (fun _ => False) w W) => have_any W a false ha0 (HM.out.fr h (fun h => h)))
  have HLs := Lib.hid (fun W => nless_any W (haveN a false) n (haveN_ok ha0) hn0)
  obtain ⟨hv, hhv⟩ : ∃ h, haveN a false = h := ⟨_, rfl⟩
  obtain ⟨ls, hls⟩ : ∃ l, nless hv n = l := ⟨_, rfl⟩
  obtain ⟨MA, hMA⟩ : ∃ m, moreA a false n pn = m := ⟨_, rfl⟩
  obtain ⟨MR, hMR⟩ : ∃ m, moreR a false n = m := ⟨_, rfl⟩
  rw [hhv] at HH HLs
  rw [hls] at HLs
  rw [hMA, hMR]
  have HMA := Lib.hid (show (if ok = true then (if (fo && ls) = true then a else updA a false n pn) else a) = MA from by rw [← hMA, moreA, flagOn]; simp only [if_pos, if_true, Bool.false_eq_true, if_false, reduceIte, hok, hf, hfo, hhv, hls])
  have HMR := Lib.hid (show (if ok = true then (if (fo && ls) = true then 34 else 0) else 32) = MR from by rw [← hMR, moreR, flagOn]; simp only [if_pos, if_true, Bool.false_eq_true, if_false, reduceIte, hok, hf, hfo, hhv, hls])
  clear hV hok hhv hls hMA hMR ha0 hn0 hm hrow
  cases ok
  · have HV1 := Lib.hid (show MA = a from HMA.out.symm)
    have HV2 := Lib.hid (show MR = 32 from HMR.out.symm)
    clear hf hfo
    go_enter Tryd.func10, Tryd.ntmps10
    go_wp2_with fail
    refine HSm.out.mono ?_
    rintro e w2 ⟨rfl, f2⟩
    have F3 := Lib.hid ((FA.out.then_ f2 (fun _ h => h.elim)).alloc (.cells #[.int .u64 V.hi, .int .u64 V.lo] 24))
    have Ba3 := Lib.hid (blk_alloc (f2.blk Ba.out (fun h => h)) (.cells #[.int .u64 V.hi, .int .u64 V.lo] 24))
    have Bz3 := Lib.hid (blk_alloc (f2.blk Bz.out (fun h => h)) (.cells #[.int .u64 V.hi, .int .u64 V.lo] 24))
    clear f2
    go_wp2_with (first
      | ((with_reducible refine wpList_load_row_w ?lw 26 _ rfl w.heap.size rfl 26 _ _ _ Ba3.out Tryd.underlying26 rfl rfl ?_); (case lw => rfl))
      | ((refine wpList_store_row rfl 26 (.tmp 6) (.tmp 22) rfl (w.heap.size + 1 + 1) #[.int .u64 a.id.hi, .int .u64 a.id.lo, .int .u64 a.dp.hi, .int .u64 a.dp.lo, .int .u64 a.dq.hi, .int .u64 a.dq.lo, .int .u64 a.cp.hi, .int .u64 a.cp.lo, .int .u64 a.cq.hi, .int .u64 a.cq.lo, .int .i64 a.ledger, .int .i64 a.code, .int .i64 a.flags, .int .i64 a.stamp] rfl rfl Bz3.out rfl rfl (by simp [Value.oneCell']) ?_); intro w9 hb9 f9; have HB9 := Lib.hid hb9; have F9 := Lib.hid f9; clear hb9 f9)
      | fail)
    refine bodyPost_ret (results_cell2 (p := 6) (q := 7) rfl _ _ (w.heap.size + 1 + 1) 26 _ (0, 0) _ rfl HB9.out Tryd.underlying26 rfl rfl) rfl ?_
    exact ⟨by rw [HV1.out, HV2.out]; rfl, F3.out.then_ F9.out (fun k hk => .inr (by omega))⟩
  go_enter Tryd.func10, Tryd.ntmps10
  go_wp2_with fail
  refine HSm.out.mono ?_
  rintro e w2 ⟨rfl, f2⟩
  have F3 := Lib.hid ((FA.out.then_ f2 (fun _ h => h.elim)).alloc (.cells #[.int .u64 V.hi, .int .u64 V.lo] 24))
  have Ba3 := Lib.hid (blk_alloc (f2.blk Ba.out (fun h => h)) (.cells #[.int .u64 V.hi, .int .u64 V.lo] 24))
  have Bn3 := Lib.hid (blk_alloc (f2.blk Bn.out (fun h => h)) (.cells #[.int .u64 V.hi, .int .u64 V.lo] 24))
  have Bz3 := Lib.hid (blk_alloc (f2.blk Bz.out (fun h => h)) (.cells #[.int .u64 V.hi, .int .u64 V.lo] 24))
  clear f2
  obtain ⟨wp, hwp⟩ : ∃ W, w2.alloc (.cells #[.int .u64 V.hi, .int .u64 V.lo] 24) = W := ⟨_, rfl⟩
  rw [hwp] at F3 Ba3 Bn3 Bz3
  have q0 := blk_cell Ba3.out 0 rfl; have q1 := blk_cell Ba3.out 1 rfl; have q2 := blk_cell Ba3.out 2 rfl; have q3 := blk_cell Ba3.out 3 rfl; have q4 := blk_cell Ba3.out 4 rfl; have q5 := blk_cell Ba3.out 5 rfl; have q6 := blk_cell Ba3.out 6 rfl; have q7 := blk_cell Ba3.out 7 rfl; have q8 := blk_cell Ba3.out 8 rfl; have q9 := blk_cell Ba3.out 9 rfl; have q10 := blk_cell Ba3.out 10 rfl; have q11 := blk_cell Ba3.out 11 rfl; have q12 := blk_cell Ba3.out 12 rfl; have q13 := blk_cell Ba3.out 13 rfl
  have n0 := blk_cell Bn3.out 0 rfl; have n1 := blk_cell Bn3.out 1 rfl
  go_upto_region 4 with fail
  (try rw [hwp])
  clear hwp
  go_cut [32] from 23 (fun c w' => c = .bool (fo && ls) ∧ w'.heap[w.heap.size]? = some (.cells #[.int .u64 a.id.hi, .int .u64 a.id.lo, .int .u64 a.dp.hi, .int .u64 a.dp.lo, .int .u64 a.dq.hi, .int .u64 a.dq.lo, .int .u64 a.cp.hi, .int .u64 a.cp.lo, .int .u64 a.cq.hi, .int .u64 a.cq.lo, .int .i64 a.ledger, .int .i64 a.code, .int .i64 a.flags, .int .i64 a.stamp] 26 (0, 0)) ∧ w'.heap[w.heap.size + 1]? = some (.cells #[.int .u64 n.hi, .int .u64 n.lo] 24 (0, 0)) ∧ w'.heap[w.heap.size + 1 + 1]? = some (.cells #[.int .u64 0, .int .u64 0, .int .u64 0, .int .u64 0, .int .u64 0, .int .u64 0, .int .u64 0, .int .u64 0, .int .u64 0, .int .u64 0, .int .i64 0, .int .i64 0, .int .i64 0, .int .i64 0] 26 (0, 0)) ∧ Fr (fun _ => False) w w')
  case first =>
    cases fo
    · go_quiet (fail)
      go_wp2_with fail
      go_meet
      exact ⟨rfl, Ba3.out, Bn3.out, Bz3.out, F3.out.drewN _⟩
    · go_region_held3 (fun w' => w'.cell? ⟨w.heap.size, 0, none⟩ = some (Value.int .u64 a.id.hi) ∧ w'.cell? ⟨w.heap.size, 1, none⟩ = some (Value.int .u64 a.id.lo) ∧ w'.cell? ⟨w.heap.size, 2, none⟩ = some (Value.int .u64 a.dp.hi) ∧ w'.cell? ⟨w.heap.size, 3, none⟩ = some (Value.int .u64 a.dp.lo) ∧ w'.cell? ⟨w.heap.size, 4, none⟩ = some (Value.int .u64 a.dq.hi) ∧ w'.cell? ⟨w.heap.size, 5, none⟩ = some (Value.int .u64 a.dq.lo) ∧ w'.cell? ⟨w.heap.size, 6, none⟩ = some (Value.int .u64 a.cp.hi) ∧ w'.cell? ⟨w.heap.size, 7, none⟩ = some (Value.int .u64 a.cp.lo) ∧ w'.cell? ⟨w.heap.size, 8, none⟩ = some (Value.int .u64 a.cq.hi) ∧ w'.cell? ⟨w.heap.size, 9, none⟩ = some (Value.int .u64 a.cq.lo) ∧ w'.cell? ⟨w.heap.size, 10, none⟩ = some (Value.int .i64 a.ledger) ∧ w'.cell? ⟨w.heap.size, 11, none⟩ = some (Value.int .i64 a.code) ∧ w'.cell? ⟨w.heap.size, 12, none⟩ = some (Value.int .i64 a.flags) ∧ w'.cell? ⟨w.heap.size, 13, none⟩ = some (Value.int .i64 a.stamp) ∧ w'.cell? ⟨w.heap.size + 1, 0, none⟩ = some (Value.int .u64 n.hi) ∧ w'.cell? ⟨w.heap.size + 1, 1, none⟩ = some (Value.int .u64 n.lo))
        (first | exact ⟨q0, q1, q2, q3, q4, q5, q6, q7, q8, q9, q10, q11, q12, q13, n0, n1⟩ | go_keep)
        (first
          | (go_at_call 13; (with_reducible refine (HH.out wp.drew F3.out.drew).mono ?_); rintro e w4 ⟨rfl, f4⟩; have F4 := Lib.hid (F3.out.drew.then_ f4 (fun _ h => h.elim)); have Ba4 := Lib.hid (f4.blk (blk_drew Ba3.out) (fun h => h)); have Bn4 := Lib.hid (f4.blk (blk_drew Bn3.out) (fun h => h)); have Bz4 := Lib.hid (f4.blk (blk_drew Bz3.out) (fun h => h)); have q0 := blk_cell Ba4.out 0 rfl; have q1 := blk_cell Ba4.out 1 rfl; have q2 := blk_cell Ba4.out 2 rfl; have q3 := blk_cell Ba4.out 3 rfl; have q4 := blk_cell Ba4.out 4 rfl; have q5 := blk_cell Ba4.out 5 rfl; have q6 := blk_cell Ba4.out 6 rfl; have q7 := blk_cell Ba4.out 7 rfl; have q8 := blk_cell Ba4.out 8 rfl; have q9 := blk_cell Ba4.out 9 rfl; have q10 := blk_cell Ba4.out 10 rfl; have q11 := blk_cell Ba4.out 11 rfl; have q12 := blk_cell Ba4.out 12 rfl; have q13 := blk_cell Ba4.out 13 rfl; have n0 := blk_cell Bn4.out 0 rfl; have n1 := blk_cell Bn4.out 1 rfl; clear f4)
          | (go_at_call 43; (with_reducible refine (HLs.out _).mono ?_); rintro e w5 ⟨rfl, f5⟩; have F5 := Lib.hid (F4.out.then_ f5 (fun _ h => h.elim)); have Ba5 := Lib.hid (f5.blk Ba4.out (fun h => h)); have Bn5 := Lib.hid (f5.blk Bn4.out (fun h => h)); have Bz5 := Lib.hid (f5.blk Bz4.out (fun h => h)); have q0 := blk_cell Ba5.out 0 rfl; have q1 := blk_cell Ba5.out 1 rfl; have q2 := blk_cell Ba5.out 2 rfl; have q3 := blk_cell Ba5.out 3 rfl; have q4 := blk_cell Ba5.out 4 rfl; have q5 := blk_cell Ba5.out 5 rfl; have q6 := blk_cell Ba5.out 6 rfl; have q7 := blk_cell Ba5.out 7 rfl; have q8 := blk_cell Ba5.out 8 rfl; have q9 := blk_cell Ba5.out 9 rfl; have q10 := blk_cell Ba5.out 10 rfl; have q11 := blk_cell Ba5.out 11 rfl; have q12 := blk_cell Ba5.out 12 rfl; have q13 := blk_cell Ba5.out 13 rfl; have n0 := blk_cell Bn5.out 0 rfl; have n1 := blk_cell Bn5.out 1 rfl; clear f5))
      go_wp2_with fail
      go_meet
      exact ⟨rfl, Ba5.out, Bn5.out, Bz5.out, F5.out⟩
  case rest =>
  clear q0 q1 q2 q3 q4 q5 q6 q7 q8 q9 q10 q11 q12 q13 n0 n1
  obtain ⟨rfl, hba, hbn, hbz, hff⟩ := hcut
  have Ba5 := Lib.hid hba
  have Bn5 := Lib.hid hbn
  have Bz5 := Lib.hid hbz
  have F5 := Lib.hid hff
  clear hba hbn hbz hff hf hfo
  obtain ⟨c, hc⟩ : ∃ c, (fo && ls) = c := ⟨_, rfl⟩
  rw [hc] at HMA HMR ⊢
  clear hc
  obtain ⟨wq, hwq⟩ : ∃ W : World, W = wc := ⟨_, rfl⟩
  subst hwq
  cases c
  · have HV2 := Lib.hid (show MR = 0 from HMR.out.symm)
    cases pn
    · have HV1 := Lib.hid (show MA = updA a false n false from HMA.out.symm)
      have q6 := blk_cell Ba5.out 6 rfl; have q7 := blk_cell Ba5.out 7 rfl; have q8 := blk_cell Ba5.out 8 rfl; have q9 := blk_cell Ba5.out 9 rfl
      have n0 := blk_cell Bn5.out 0 rfl; have n1 := blk_cell Bn5.out 1 rfl
      have HPd := Lib.hid (nadd_any wq a.cq n ha.out.cq hn.out)
      obtain ⟨s, hs⟩ : ∃ s, nadd a.cq n = s := ⟨_, rfl⟩
      rw [hs] at HPd
      have HSs := Lib.hid hs
      clear hs
      go_wp2_with fail
      refine HPd.out.mono ?_
      rintro e w6 ⟨rfl, f6⟩
      have F6 := Lib.hid (F5.out.then_ f6 (fun _ h => h.elim))
      have Ba6 := Lib.hid (f6.blk Ba5.out (fun h => h))
      have Bz6 := Lib.hid (f6.blk Bz5.out (fun h => h))
      clear f6
      go_wp2_with (first
        | ((refine wpList_store_part rfl 24 (.tmp 50) (.tmp 48) rfl w.heap.size 8 #[.int .u64 s.hi, .int .u64 s.lo] rfl rfl Ba6.out (by show 8 + 2 ≤ 14; omega) rfl (by simp [Value.oneCell']) ?_); intro w7 hb7 f7; have Ba7 := Lib.hid (show w7.heap[w.heap.size]? = some (.cells #[.int .u64 a.id.hi, .int .u64 a.id.lo, .int .u64 a.dp.hi, .int .u64 a.dp.lo, .int .u64 a.dq.hi, .int .u64 a.dq.lo, .int .u64 a.cp.hi, .int .u64 a.cp.lo, .int .u64 s.hi, .int .u64 s.lo, .int .i64 a.ledger, .int .i64 a.code, .int .i64 a.flags, .int .i64 a.stamp] 26 (0, 0)) from hb7); have F7 := Lib.hid (F6.out.then_ f7 (fun j hj => .inr (Nat.le_of_eq hj.symm))); have Bz7 := Lib.hid (f7.blk Bz6.out (by omega)); clear hb7 f7)
        | ((with_reducible refine wpList_load_row_w ?lw 26 _ rfl w.heap.size rfl 26 _ _ _ Ba7.out Tryd.underlying26 rfl rfl ?_); (case lw => rfl))
        | ((refine wpList_store_row rfl 26 (.tmp 6) (.tmp 51) rfl (w.heap.size + 1 + 1) #[.int .u64 a.id.hi, .int .u64 a.id.lo, .int .u64 a.dp.hi, .int .u64 a.dp.lo, .int .u64 a.dq.hi, .int .u64 a.dq.lo, .int .u64 a.cp.hi, .int .u64 a.cp.lo, .int .u64 s.hi, .int .u64 s.lo, .int .i64 a.ledger, .int .i64 a.code, .int .i64 a.flags, .int .i64 a.stamp] rfl rfl Bz7.out rfl rfl (by simp [Value.oneCell']) ?_); intro w9 hb9 f9; have HB9 := Lib.hid hb9; have F9 := Lib.hid f9; clear hb9 f9)
        | fail)
      refine bodyPost_ret (results_cell2 (p := 6) (q := 7) rfl _ _ (w.heap.size + 1 + 1) 26 _ (0, 0) _ rfl HB9.out Tryd.underlying26 rfl rfl) rfl ?_
      exact ⟨by rw [HV1.out, HV2.out, ← HSs.out]; rfl, F7.out.then_ F9.out (fun k hk => .inr (by omega))⟩

    · have HV1 := Lib.hid (show MA = updA a false n true from HMA.out.symm)
      have q6 := blk_cell Ba5.out 6 rfl; have q7 := blk_cell Ba5.out 7 rfl; have q8 := blk_cell Ba5.out 8 rfl; have q9 := blk_cell Ba5.out 9 rfl
      have n0 := blk_cell Bn5.out 0 rfl; have n1 := blk_cell Bn5.out 1 rfl
      have HPd := Lib.hid (nadd_any wq a.cp n ha.out.cp hn.out)
      obtain ⟨s, hs⟩ : ∃ s, nadd a.cp n = s := ⟨_, rfl⟩
      rw [hs] at HPd
      have HSs := Lib.hid hs
      clear hs
      go_wp2_with fail
      refine HPd.out.mono ?_
      rintro e w6 ⟨rfl, f6⟩
      have F6 := Lib.hid (F5.out.then_ f6 (fun _ h => h.elim))
      have Ba6 := Lib.hid (f6.blk Ba5.out (fun h => h))
      have Bz6 := Lib.hid (f6.blk Bz5.out (fun h => h))
      clear f6
      go_wp2_with (first
        | ((refine wpList_store_part rfl 24 (.tmp 42) (.tmp 40) rfl w.heap.size 6 #[.int .u64 s.hi, .int .u64 s.lo] rfl rfl Ba6.out (by show 6 + 2 ≤ 14; omega) rfl (by simp [Value.oneCell']) ?_); intro w7 hb7 f7; have Ba7 := Lib.hid (show w7.heap[w.heap.size]? = some (.cells #[.int .u64 a.id.hi, .int .u64 a.id.lo, .int .u64 a.dp.hi, .int .u64 a.dp.lo, .int .u64 a.dq.hi, .int .u64 a.dq.lo, .int .u64 s.hi, .int .u64 s.lo, .int .u64 a.cq.hi, .int .u64 a.cq.lo, .int .i64 a.ledger, .int .i64 a.code, .int .i64 a.flags, .int .i64 a.stamp] 26 (0, 0)) from hb7); have F7 := Lib.hid (F6.out.then_ f7 (fun j hj => .inr (Nat.le_of_eq hj.symm))); have Bz7 := Lib.hid (f7.blk Bz6.out (by omega)); clear hb7 f7)
        | ((with_reducible refine wpList_load_row_w ?lw 26 _ rfl w.heap.size rfl 26 _ _ _ Ba7.out Tryd.underlying26 rfl rfl ?_); (case lw => rfl))
        | ((refine wpList_store_row rfl 26 (.tmp 6) (.tmp 51) rfl (w.heap.size + 1 + 1) #[.int .u64 a.id.hi, .int .u64 a.id.lo, .int .u64 a.dp.hi, .int .u64 a.dp.lo, .int .u64 a.dq.hi, .int .u64 a.dq.lo, .int .u64 s.hi, .int .u64 s.lo, .int .u64 a.cq.hi, .int .u64 a.cq.lo, .int .i64 a.ledger, .int .i64 a.code, .int .i64 a.flags, .int .i64 a.stamp] rfl rfl Bz7.out rfl rfl (by simp [Value.oneCell']) ?_); intro w9 hb9 f9; have HB9 := Lib.hid hb9; have F9 := Lib.hid f9; clear hb9 f9)
        | fail)
      refine bodyPost_ret (results_cell2 (p := 6) (q := 7) rfl _ _ (w.heap.size + 1 + 1) 26 _ (0, 0) _ rfl HB9.out Tryd.underlying26 rfl rfl) rfl ?_
      exact ⟨by rw [HV1.out, HV2.out, ← HSs.out]; rfl, F7.out.then_ F9.out (fun k hk => .inr (by omega))⟩

  · have HV1 := Lib.hid (show MA = a from HMA.out.symm)
    have HV2 := Lib.hid (show MR = 34 from HMR.out.symm)
    go_wp2_with (first
      | ((with_reducible refine wpList_load_row_w ?lw 26 _ rfl w.heap.size rfl 26 _ _ _ Ba5.out Tryd.underlying26 rfl rfl ?_); (case lw => rfl))
      | ((refine wpList_store_row rfl 26 (.tmp 6) (.tmp 33) rfl (w.heap.size + 1 + 1) #[.int .u64 a.id.hi, .int .u64 a.id.lo, .int .u64 a.dp.hi, .int .u64 a.dp.lo, .int .u64 a.dq.hi, .int .u64 a.dq.lo, .int .u64 a.cp.hi, .int .u64 a.cp.lo, .int .u64 a.cq.hi, .int .u64 a.cq.lo, .int .i64 a.ledger, .int .i64 a.code, .int .i64 a.flags, .int .i64 a.stamp] rfl rfl Bz5.out rfl rfl (by simp [Value.oneCell']) ?_); intro w9 hb9 f9; have HB9 := Lib.hid hb9; have F9 := Lib.hid f9; clear hb9 f9)
      | fail)
    refine bodyPost_ret (results_cell2 (p := 6) (q := 7) rfl _ _ (w.heap.size + 1 + 1) 26 _ (0, 0) _ rfl HB9.out Tryd.underlying26 rfl rfl) rfl ?_
    exact ⟨by rw [HV1.out, HV2.out]; rfl, F5.out.then_ F9.out (fun k hk => .inr (by omega))⟩

end Go.Proofs.YtjchjpmgbmeohaaDoor
