/- Several texts in one, for the law BooksBack: DoO, BkT, BkU. Each says what it shows; conditions: what each theorem names. -/
import Derived.Test.YtjchjpmgbmeohaaDoorMk13
import Derived.Test.YtjchjpmgbmeohaaDoorMk12
import Derived.Test.YtjchjpmgbmeohaaDoorMk6
import Derived.Deep.RegionHeld3
/- A script of calls among the arguments. -/
set_option linter.unusedSimpArgs false
set_option linter.unusedVariables false
namespace Go.Proofs.YtjchjpmgbmeohaaDoor
open Go.RowKit Go.ChangeShapes Go.WideShapes Go.ChangeAt
set_option maxRecDepth 20000

theorem leafsCl : leafs Tryd.prog 6 53 = some [3, 22, 22, 22, 22, 22, 22, 22, 22, 22, 22, 3, 3, 3, 3, 22, 22, 22, 22, 22, 22, 22, 22, 22, 22, 3, 3, 3, 3, 3, 3, 22, 22, 22, 22, 22, 22, 22, 22, 22, 22, 3, 3, 3, 3, 3, 3, 4, 22, 22, 3] := by kernel_rfl
theorem onesCl : ∀ t' ∈ [3, 22, 22, 22, 22, 22, 22, 22, 22, 22, 22, 3, 3, 3, 3, 22, 22, 22, 22, 22, 22, 22, 22, 22, 22, 3, 3, 3, 3, 3, 3, 22, 22, 22, 22, 22, 22, 22, 22, 22, 22, 3, 3, 3, 3, 3, 3, 4, 22, 22, 3], Tryd.prog.cellsOf t' = 1 := by
  have h : ([3, 22, 22, 22, 22, 22, 22, 22, 22, 22, 22, 3, 3, 3, 3, 22, 22, 22, 22, 22, 22, 22, 22, 22, 22, 3, 3, 3, 3, 3, 3, 22, 22, 22, 22, 22, 22, 22, 22, 22, 22, 3, 3, 3, 3, 3, 3, 4, 22, 22, 3].all fun t => Tryd.prog.cellsOf t == 1) = true := by kernel_rfl
  intro t' ht
  simpa using List.all_eq_true.1 h t' ht
theorem open_cls {H : Type} {enc : TypeId × Value → H} {W : World} {sp : Nat → Bool} {held : Bool} {a : Option Addr} {len cap : Nat} {d : DataW H} {ps : List MemPlace} (h : DataW.Trod enc Tryd.prog W 0 sp held 48 (.slice a len cap) d ps) (hs : Sz Tryd.prog 48 d) :
    ∃ l : List Cl, l.length = len ∧ Scr W a l ∧ l.length ≤ 140737488355328 := by
  obtain ⟨fuel, hf⟩ := h
  rcases open_flat Tryd.underlying48 leafsCl onesCl (by kernel_rfl) (B := 408) (by kernel_rfl) hf hs with ⟨rfl, rfl, rfl⟩ | ⟨ad, rfl, _, _, hb, hel⟩
  · exact ⟨[], rfl, (fun j u hu => by simp at hu), (by simp)⟩
  · obtain ⟨l, e, hq, hr⟩ := rows_of (α := Cl) (f := Cl.cells) (k := 51) (Q := fun _ => True) (by decide) (fun _ => rfl) (fun i hi => by
      obtain ⟨cs, hall, hc⟩ := hel i hi
      cases hall with | cons l0 hall =>
      cases hall with | cons l1 hall =>
      cases hall with | cons l2 hall =>
      cases hall with | cons l3 hall =>
      cases hall with | cons l4 hall =>
      cases hall with | cons l5 hall =>
      cases hall with | cons l6 hall =>
      cases hall with | cons l7 hall =>
      cases hall with | cons l8 hall =>
      cases hall with | cons l9 hall =>
      cases hall with | cons l10 hall =>
      cases hall with | cons l11 hall =>
      cases hall with | cons l12 hall =>
      cases hall with | cons l13 hall =>
      cases hall with | cons l14 hall =>
      cases hall with | cons l15 hall =>
      cases hall with | cons l16 hall =>
      cases hall with | cons l17 hall =>
      cases hall with | cons l18 hall =>
      cases hall with | cons l19 hall =>
      cases hall with | cons l20 hall =>
      cases hall with | cons l21 hall =>
      cases hall with | cons l22 hall =>
      cases hall with | cons l23 hall =>
      cases hall with | cons l24 hall =>
      cases hall with | cons l25 hall =>
      cases hall with | cons l26 hall =>
      cases hall with | cons l27 hall =>
      cases hall with | cons l28 hall =>
      cases hall with | cons l29 hall =>
      cases hall with | cons l30 hall =>
      cases hall with | cons l31 hall =>
      cases hall with | cons l32 hall =>
      cases hall with | cons l33 hall =>
      cases hall with | cons l34 hall =>
      cases hall with | cons l35 hall =>
      cases hall with | cons l36 hall =>
      cases hall with | cons l37 hall =>
      cases hall with | cons l38 hall =>
      cases hall with | cons l39 hall =>
      cases hall with | cons l40 hall =>
      cases hall with | cons l41 hall =>
      cases hall with | cons l42 hall =>
      cases hall with | cons l43 hall =>
      cases hall with | cons l44 hall =>
      cases hall with | cons l45 hall =>
      cases hall with | cons l46 hall =>
      cases hall with | cons l47 hall =>
      cases hall with | cons l48 hall =>
      cases hall with | cons l49 hall =>
      cases hall with | cons l50 hall =>
      cases hall
      obtain ⟨v0, rfl, -⟩ := l0.int Tryd.underlying3
      obtain ⟨v1, rfl, -⟩ := l1.u64 Tryd.underlying22
      obtain ⟨v2, rfl, -⟩ := l2.u64 Tryd.underlying22
      obtain ⟨v3, rfl, -⟩ := l3.u64 Tryd.underlying22
      obtain ⟨v4, rfl, -⟩ := l4.u64 Tryd.underlying22
      obtain ⟨v5, rfl, -⟩ := l5.u64 Tryd.underlying22
      obtain ⟨v6, rfl, -⟩ := l6.u64 Tryd.underlying22
      obtain ⟨v7, rfl, -⟩ := l7.u64 Tryd.underlying22
      obtain ⟨v8, rfl, -⟩ := l8.u64 Tryd.underlying22
      obtain ⟨v9, rfl, -⟩ := l9.u64 Tryd.underlying22
      obtain ⟨v10, rfl, -⟩ := l10.u64 Tryd.underlying22
      obtain ⟨v11, rfl, -⟩ := l11.int Tryd.underlying3
      obtain ⟨v12, rfl, -⟩ := l12.int Tryd.underlying3
      obtain ⟨v13, rfl, -⟩ := l13.int Tryd.underlying3
      obtain ⟨v14, rfl, -⟩ := l14.int Tryd.underlying3
      obtain ⟨v15, rfl, -⟩ := l15.u64 Tryd.underlying22
      obtain ⟨v16, rfl, -⟩ := l16.u64 Tryd.underlying22
      obtain ⟨v17, rfl, -⟩ := l17.u64 Tryd.underlying22
      obtain ⟨v18, rfl, -⟩ := l18.u64 Tryd.underlying22
      obtain ⟨v19, rfl, -⟩ := l19.u64 Tryd.underlying22
      obtain ⟨v20, rfl, -⟩ := l20.u64 Tryd.underlying22
      obtain ⟨v21, rfl, -⟩ := l21.u64 Tryd.underlying22
      obtain ⟨v22, rfl, -⟩ := l22.u64 Tryd.underlying22
      obtain ⟨v23, rfl, -⟩ := l23.u64 Tryd.underlying22
      obtain ⟨v24, rfl, -⟩ := l24.u64 Tryd.underlying22
      obtain ⟨v25, rfl, -⟩ := l25.int Tryd.underlying3
      obtain ⟨v26, rfl, -⟩ := l26.int Tryd.underlying3
      obtain ⟨v27, rfl, -⟩ := l27.int Tryd.underlying3
      obtain ⟨v28, rfl, -⟩ := l28.int Tryd.underlying3
      obtain ⟨v29, rfl, -⟩ := l29.int Tryd.underlying3
      obtain ⟨v30, rfl, -⟩ := l30.int Tryd.underlying3
      obtain ⟨v31, rfl, -⟩ := l31.u64 Tryd.underlying22
      obtain ⟨v32, rfl, -⟩ := l32.u64 Tryd.underlying22
      obtain ⟨v33, rfl, -⟩ := l33.u64 Tryd.underlying22
      obtain ⟨v34, rfl, -⟩ := l34.u64 Tryd.underlying22
      obtain ⟨v35, rfl, -⟩ := l35.u64 Tryd.underlying22
      obtain ⟨v36, rfl, -⟩ := l36.u64 Tryd.underlying22
      obtain ⟨v37, rfl, -⟩ := l37.u64 Tryd.underlying22
      obtain ⟨v38, rfl, -⟩ := l38.u64 Tryd.underlying22
      obtain ⟨v39, rfl, -⟩ := l39.u64 Tryd.underlying22
      obtain ⟨v40, rfl, -⟩ := l40.u64 Tryd.underlying22
      obtain ⟨v41, rfl, -⟩ := l41.int Tryd.underlying3
      obtain ⟨v42, rfl, -⟩ := l42.int Tryd.underlying3
      obtain ⟨v43, rfl, -⟩ := l43.int Tryd.underlying3
      obtain ⟨v44, rfl, -⟩ := l44.int Tryd.underlying3
      obtain ⟨v45, rfl, -⟩ := l45.int Tryd.underlying3
      obtain ⟨v46, rfl, -⟩ := l46.int Tryd.underlying3
      obtain ⟨v47, rfl⟩ := l47.bool Tryd.underlying4
      obtain ⟨v48, rfl, -⟩ := l48.u64 Tryd.underlying22
      obtain ⟨v49, rfl, -⟩ := l49.u64 Tryd.underlying22
      obtain ⟨v50, rfl, -⟩ := l50.int Tryd.underlying3
      exact ⟨⟨v0, ⟨⟨v1, v2⟩, ⟨v3, v4⟩, ⟨v5, v6⟩, ⟨v7, v8⟩, ⟨v9, v10⟩, v11, v12, v13, v14⟩, ⟨⟨v15, v16⟩, ⟨v17, v18⟩, ⟨v19, v20⟩, ⟨v21, v22⟩, ⟨v23, v24⟩, v25, v26, v27, v28, v29, v30⟩, ⟨⟨v31, v32⟩, ⟨v33, v34⟩, ⟨v35, v36⟩, ⟨v37, v38⟩, ⟨v39, v40⟩, v41, v42, v43, v44, v45, v46⟩, v47, ⟨v48, v49⟩, v50⟩, trivial, fun j u hu => hc j u hu⟩)
    exact ⟨l, e, hr, by omega⟩
end Go.Proofs.YtjchjpmgbmeohaaDoor

/- BooksRules: the walk. -/
set_option linter.unusedSimpArgs false
set_option linter.unusedVariables false
namespace Go.Proofs.YtjchjpmgbmeohaaDoor
open Go.RowKit

theorem nless_self (x : Nm) : nless x x = false := by rw [nless, decide_eq_false_iff_not]; omega
theorem moreR_have (a : Acc) (b : Bool) : moreR a b (haveN a b) ≠ 33 ∧ moreR a b (haveN a b) ≠ 34 := by
  rw [moreR, nless_self, Bool.and_false]
  simp only [Bool.false_eq_true, if_false]
  generalize ovf _ _ _ = z
  cases z <;> decide
attribute [-go_sem] loadCells
set_option maxRecDepth 4000 in
set_option maxHeartbeats 6400000 in
theorem rulesT (w : World) (a : Acc) (n : Nm) (pn : Bool) (hm : Most w) (ha : a.ok) (hn : n.ok) : Calls Tryd.prog 3 #[.agg #[.int .u64 a.id.hi, .int .u64 a.id.lo, .int .u64 a.dp.hi, .int .u64 a.dp.lo, .int .u64 a.dq.hi, .int .u64 a.dq.lo, .int .u64 a.cp.hi, .int .u64 a.cp.lo, .int .u64 a.cq.hi, .int .u64 a.cq.lo, .int .i64 a.ledger, .int .i64 a.code, .int .i64 a.flags, .int .i64 a.stamp], .agg #[.int .u64 n.hi, .int .u64 n.lo], .bool true, .bool pn] w fun e w' => e = .returned (.bool true) ∧ Fr (fun _ => False) w w' := by
  have HM := Lib.hid hm
  have Ba := Lib.hid (blk_alloc (heap_alloc_new w (.cells #[.int .u64 a.id.hi, .int .u64 a.id.lo, .int .u64 a.dp.hi, .int .u64 a.dp.lo, .int .u64 a.dq.hi, .int .u64 a.dq.lo, .int .u64 a.cp.hi, .int .u64 a.cp.lo, .int .u64 a.cq.hi, .int .u64 a.cq.lo, .int .i64 a.ledger, .int .i64 a.code, .int .i64 a.flags, .int .i64 a.stamp] 26)) (.cells #[.int .u64 n.hi, .int .u64 n.lo] 24))
  have Bn := Lib.hid (blk1 w (.cells #[.int .u64 a.id.hi, .int .u64 a.id.lo, .int .u64 a.dp.hi, .int .u64 a.dp.lo, .int .u64 a.dq.hi, .int .u64 a.dq.lo, .int .u64 a.cp.hi, .int .u64 a.cp.lo, .int .u64 a.cq.hi, .int .u64 a.cq.lo, .int .i64 a.ledger, .int .i64 a.code, .int .i64 a.flags, .int .i64 a.stamp] 26) (.cells #[.int .u64 n.hi, .int .u64 n.lo] 24))
  have F0 := Lib.hid (((Fr.refl (fun _ => False) w).alloc (.cells #[.int .u64 a.id.hi, .int .u64 a.id.lo, .int .u64 a.dp.hi, .int .u64 a.dp.lo, .int .u64 a.dq.hi, .int .u64 a.dq.lo, .int .u64 a.cp.hi, .int .u64 a.cp.lo, .int .u64 a.cq.hi, .int .u64 a.cq.lo, .int .i64 a.ledger, .int .i64 a.code, .int .i64 a.flags, .int .i64 a.stamp] 26)).alloc (.cells #[.int .u64 n.hi, .int .u64 n.lo] 24))
  have HA := Lib.hid ha
  have HN := Lib.hid hn
  have hq := moreR_have a true
  obtain ⟨hv, hhv⟩ : ∃ h, haveN a true = h := ⟨_, rfl⟩
  rw [hhv] at hq
  have HHv := Lib.hid hhv
  have Hok := Lib.hid (show hv.ok from by rw [← hhv]; exact haveN_ok ha)
  obtain ⟨V, hV⟩ : ∃ V, moreA a true n pn = V := ⟨_, rfl⟩
  obtain ⟨R, hR⟩ : ∃ V, moreR a true n = V := ⟨_, rfl⟩
  obtain ⟨V2, hV2⟩ : ∃ V, moreA a true hv pn = V := ⟨_, rfl⟩
  obtain ⟨R2, hR2⟩ : ∃ V, moreR a true hv = V := ⟨_, rfl⟩
  rw [hR2] at hq
  obtain ⟨hq3, hq4⟩ := hq
  have HX := Lib.hid (show ∀ W, Most W → Calls Tryd.prog 11 #[.agg #[.int .u64 a.id.hi, .int .u64 a.id.lo, .int .u64 a.dp.hi, .int .u64 a.dp.lo, .int .u64 a.dq.hi, .int .u64 a.dq.lo, .int .u64 a.cp.hi, .int .u64 a.cp.lo, .int .u64 a.cq.hi, .int .u64 a.cq.lo, .int .i64 a.ledger, .int .i64 a.code, .int .i64 a.flags, .int .i64 a.stamp], .agg #[.int .u64 n.hi, .int .u64 n.lo], .bool pn] W fun e w' => e = .returned (.tuple #[.agg #[.int .u64 V.id.hi, .int .u64 V.id.lo, .int .u64 V.dp.hi, .int .u64 V.dp.lo, .int .u64 V.dq.hi, .int .u64 V.dq.lo, .int .u64 V.cp.hi, .int .u64 V.cp.lo, .int .u64 V.cq.hi, .int .u64 V.cq.lo, .int .i64 V.ledger, .int .i64 V.code, .int .i64 V.flags, .int .i64 V.stamp], .int .i64 R]) ∧ Fr (fun _ => False) W w' from fun W m => by have h := Debit_any W a n pn ha hn m; rw [hV, hR] at h; exact h)
  have HX2 := Lib.hid (show ∀ W, Most W → Calls Tryd.prog 11 #[.agg #[.int .u64 a.id.hi, .int .u64 a.id.lo, .int .u64 a.dp.hi, .int .u64 a.dp.lo, .int .u64 a.dq.hi, .int .u64 a.dq.lo, .int .u64 a.cp.hi, .int .u64 a.cp.lo, .int .u64 a.cq.hi, .int .u64 a.cq.lo, .int .i64 a.ledger, .int .i64 a.code, .int .i64 a.flags, .int .i64 a.stamp], .agg #[.int .u64 hv.hi, .int .u64 hv.lo], .bool pn] W fun e w' => e = .returned (.tuple #[.agg #[.int .u64 V2.id.hi, .int .u64 V2.id.lo, .int .u64 V2.dp.hi, .int .u64 V2.dp.lo, .int .u64 V2.dq.hi, .int .u64 V2.dq.lo, .int .u64 V2.cp.hi, .int .u64 V2.cp.lo, .int .u64 V2.cq.hi, .int .u64 V2.cq.lo, .int .i64 V2.ledger, .int .i64 V2.code, .int .i64 V2.flags, .int .i64 V2.stamp], .int .i64 R2]) ∧ Fr (fun _ => False) W w' from fun W m => by have h := Debit_any W a hv pn ha Hok.out m; rw [hV2, hR2] at h; exact h)
  have HRf := Lib.hid (show ∀ W, Calls Tryd.prog 12 #[.agg #[.int .u64 a.id.hi, .int .u64 a.id.lo, .int .u64 a.dp.hi, .int .u64 a.dp.lo, .int .u64 a.dq.hi, .int .u64 a.dq.lo, .int .u64 a.cp.hi, .int .u64 a.cp.lo, .int .u64 a.cq.hi, .int .u64 a.cq.lo, .int .i64 a.ledger, .int .i64 a.code, .int .i64 a.flags, .int .i64 a.stamp], .bool true, .agg #[.int .u64 n.hi, .int .u64 n.lo], .bool pn] W fun e w' => e = .returned (.tuple #[.agg #[.int .u64 V.id.hi, .int .u64 V.id.lo, .int .u64 V.dp.hi, .int .u64 V.dp.lo, .int .u64 V.dq.hi, .int .u64 V.dq.lo, .int .u64 V.cp.hi, .int .u64 V.cp.lo, .int .u64 V.cq.hi, .int .u64 V.cq.lo, .int .i64 V.ledger, .int .i64 V.code, .int .i64 V.flags, .int .i64 V.stamp], .int .i64 R]) ∧ Fr (fun _ => False) W w' from fun W => by have h := moreT_any W a n pn ha hn; rw [hV, hR] at h; exact h)
  have HRf2 := Lib.hid (show ∀ W, Calls Tryd.prog 12 #[.agg #[.int .u64 a.id.hi, .int .u64 a.id.lo, .int .u64 a.dp.hi, .int .u64 a.dp.lo, .int .u64 a.dq.hi, .int .u64 a.dq.lo, .int .u64 a.cp.hi, .int .u64 a.cp.lo, .int .u64 a.cq.hi, .int .u64 a.cq.lo, .int .i64 a.ledger, .int .i64 a.code, .int .i64 a.flags, .int .i64 a.stamp], .bool true, .agg #[.int .u64 hv.hi, .int .u64 hv.lo], .bool pn] W fun e w' => e = .returned (.tuple #[.agg #[.int .u64 V2.id.hi, .int .u64 V2.id.lo, .int .u64 V2.dp.hi, .int .u64 V2.dp.lo, .int .u64 V2.dq.hi, .int .u64 V2.dq.lo, .int .u64 V2.cp.hi, .int .u64 V2.cp.lo, .int .u64 V2.cq.hi, .int .u64 V2.cq.lo, .int .i64 V2.ledger, .int .i64 V2.code, .int .i64 V2.flags, .int .i64 V2.stamp], .int .i64 R2]) ∧ Fr (fun _ => False) W w' from fun W => by have h := moreT_any W a hv pn ha Hok.out; rw [hV2, hR2] at h; exact h)
  have HHa := Lib.hid (show ∀ W, Most W → Calls Tryd.prog 13 #[.agg #[.int .u64 a.id.hi, .int .u64 a.id.lo, .int .u64 a.dp.hi, .int .u64 a.dp.lo, .int .u64 a.dq.hi, .int .u64 a.dq.lo, .int .u64 a.cp.hi, .int .u64 a.cp.lo, .int .u64 a.cq.hi, .int .u64 a.cq.lo, .int .i64 a.ledger, .int .i64 a.code, .int .i64 a.flags, .int .i64 a.stamp], .bool true] W fun e w' => e = .returned (.agg #[.int .u64 hv.hi, .int .u64 hv.lo]) ∧ Fr (fun _ => False) W w' from fun W m => by have h := have_any W a true ha m; rw [hhv] at h; exact h)
  have HRh := Lib.hid (show ∀ W, Calls Tryd.prog 14 #[.agg #[.int .u64 a.id.hi, .int .u64 a.id.lo, .int .u64 a.dp.hi, .int .u64 a.dp.lo, .int .u64 a.dq.hi, .int .u64 a.dq.lo, .int .u64 a.cp.hi, .int .u64 a.cp.lo, .int .u64 a.cq.hi, .int .u64 a.cq.lo, .int .i64 a.ledger, .int .i64 a.code, .int .i64 a.flags, .int .i64 a.stamp], .bool true] W fun e w' => e = .returned (.agg #[.int .u64 hv.hi, .int .u64 hv.lo]) ∧ Fr (fun _ => False) W w' from fun W => by have h := refHave_any W a true ha; rw [hhv] at h; exact h)
  clear hm ha hn hhv hV hR hV2 hR2
  obtain ⟨C, hC⟩ : ∃ V, moreA a false n pn = V := ⟨_, rfl⟩
  obtain ⟨cr, hcr⟩ : ∃ V, moreR a false n = V := ⟨_, rfl⟩
  obtain ⟨C2, hC2⟩ : ∃ V, moreA a false hv pn = V := ⟨_, rfl⟩
  obtain ⟨cr2, hcr2⟩ : ∃ V, moreR a false hv = V := ⟨_, rfl⟩
  have HC := Lib.hid (show ∀ W, Most W → Calls Tryd.prog 10 #[.agg #[.int .u64 a.id.hi, .int .u64 a.id.lo, .int .u64 a.dp.hi, .int .u64 a.dp.lo, .int .u64 a.dq.hi, .int .u64 a.dq.lo, .int .u64 a.cp.hi, .int .u64 a.cp.lo, .int .u64 a.cq.hi, .int .u64 a.cq.lo, .int .i64 a.ledger, .int .i64 a.code, .int .i64 a.flags, .int .i64 a.stamp], .agg #[.int .u64 n.hi, .int .u64 n.lo], .bool pn] W fun e w' => e = .returned (.tuple #[.agg #[.int .u64 C.id.hi, .int .u64 C.id.lo, .int .u64 C.dp.hi, .int .u64 C.dp.lo, .int .u64 C.dq.hi, .int .u64 C.dq.lo, .int .u64 C.cp.hi, .int .u64 C.cp.lo, .int .u64 C.cq.hi, .int .u64 C.cq.lo, .int .i64 C.ledger, .int .i64 C.code, .int .i64 C.flags, .int .i64 C.stamp], .int .i64 cr]) ∧ Fr (fun _ => False) W w' from fun W m => by have h := Credit_any W a n pn HA.out HN.out m; rw [hC, hcr] at h; exact h)
  have HC2 := Lib.hid (show ∀ W, Most W → Calls Tryd.prog 10 #[.agg #[.int .u64 a.id.hi, .int .u64 a.id.lo, .int .u64 a.dp.hi, .int .u64 a.dp.lo, .int .u64 a.dq.hi, .int .u64 a.dq.lo, .int .u64 a.cp.hi, .int .u64 a.cp.lo, .int .u64 a.cq.hi, .int .u64 a.cq.lo, .int .i64 a.ledger, .int .i64 a.code, .int .i64 a.flags, .int .i64 a.stamp], .agg #[.int .u64 hv.hi, .int .u64 hv.lo], .bool pn] W fun e w' => e = .returned (.tuple #[.agg #[.int .u64 C2.id.hi, .int .u64 C2.id.lo, .int .u64 C2.dp.hi, .int .u64 C2.dp.lo, .int .u64 C2.dq.hi, .int .u64 C2.dq.lo, .int .u64 C2.cp.hi, .int .u64 C2.cp.lo, .int .u64 C2.cq.hi, .int .u64 C2.cq.lo, .int .i64 C2.ledger, .int .i64 C2.code, .int .i64 C2.flags, .int .i64 C2.stamp], .int .i64 cr2]) ∧ Fr (fun _ => False) W w' from fun W m => by have h := Credit_any W a hv pn HA.out Hok.out m; rw [hC2, hcr2] at h; exact h)
  clear hC hcr hC2 hcr2
  have heA := eqm_Acc
  have heN := eqm_Num
  go_enter Tryd.func3, Tryd.ntmps3
  go_wp2_with fail
  refine (alive15_any _ (HM.out.fr F0.out (fun h => h))).mono ?_
  rintro e w1 ⟨rfl, f1⟩
  have F1 := Lib.hid (F0.out.then_ f1 (fun _ h => h.elim))
  have Ba1 := Lib.hid (f1.blk Ba.out (fun h => h))
  have Bn1 := Lib.hid (f1.blk Bn.out (fun h => h))
  have qa := ld_row (P := Tryd.prog) w.heap.size #[.int .u64 a.id.hi, .int .u64 a.id.lo, .int .u64 a.dp.hi, .int .u64 a.dp.lo, .int .u64 a.dq.hi, .int .u64 a.dq.lo, .int .u64 a.cp.hi, .int .u64 a.cp.lo, .int .u64 a.cq.hi, .int .u64 a.cq.lo, .int .i64 a.ledger, .int .i64 a.code, .int .i64 a.flags, .int .i64 a.stamp] (n := 14) rfl Ba1.out
  have qn := ld_row (P := Tryd.prog) (w.heap.size + 1) #[.int .u64 n.hi, .int .u64 n.lo] (n := 2) rfl Bn1.out
  clear f1
  go_wp2_with fail
  skip
  refine (HC.out _ (HM.out.fr F1.out (fun h => h))).mono ?_
  rintro e w2 ⟨rfl, f2⟩
  have HZ := Lib.hid (show w.heap.size + 2 ≤ w2.heap.size from by have h1 := blk_lt Bn1.out; have h2 := f2.size; omega)
  have F2 := Lib.hid ((F1.out.then_ f2 (fun _ h => h.elim)).alloc (.cells #[.int .u64 C.id.hi, .int .u64 C.id.lo, .int .u64 C.dp.hi, .int .u64 C.dp.lo, .int .u64 C.dq.hi, .int .u64 C.dq.lo, .int .u64 C.cp.hi, .int .u64 C.cp.lo, .int .u64 C.cq.hi, .int .u64 C.cq.lo, .int .i64 C.ledger, .int .i64 C.code, .int .i64 C.flags, .int .i64 C.stamp] 26))
  have Ba_2 := Lib.hid (blk_alloc (f2.blk Ba1.out (fun h => h)) (.cells #[.int .u64 C.id.hi, .int .u64 C.id.lo, .int .u64 C.dp.hi, .int .u64 C.dp.lo, .int .u64 C.dq.hi, .int .u64 C.dq.lo, .int .u64 C.cp.hi, .int .u64 C.cp.lo, .int .u64 C.cq.hi, .int .u64 C.cq.lo, .int .i64 C.ledger, .int .i64 C.code, .int .i64 C.flags, .int .i64 C.stamp] 26))
  have Bn_2 := Lib.hid (blk_alloc (f2.blk Bn1.out (fun h => h)) (.cells #[.int .u64 C.id.hi, .int .u64 C.id.lo, .int .u64 C.dp.hi, .int .u64 C.dp.lo, .int .u64 C.dq.hi, .int .u64 C.dq.lo, .int .u64 C.cp.hi, .int .u64 C.cp.lo, .int .u64 C.cq.hi, .int .u64 C.cq.lo, .int .i64 C.ledger, .int .i64 C.code, .int .i64 C.flags, .int .i64 C.stamp] 26))
  have Bp_2 := Lib.hid (heap_alloc_new w2 (.cells #[.int .u64 C.id.hi, .int .u64 C.id.lo, .int .u64 C.dp.hi, .int .u64 C.dp.lo, .int .u64 C.dq.hi, .int .u64 C.dq.lo, .int .u64 C.cp.hi, .int .u64 C.cp.lo, .int .u64 C.cq.hi, .int .u64 C.cq.lo, .int .i64 C.ledger, .int .i64 C.code, .int .i64 C.flags, .int .i64 C.stamp] 26))
  have qa_3 := ld_row (P := Tryd.prog) w.heap.size #[.int .u64 a.id.hi, .int .u64 a.id.lo, .int .u64 a.dp.hi, .int .u64 a.dp.lo, .int .u64 a.dq.hi, .int .u64 a.dq.lo, .int .u64 a.cp.hi, .int .u64 a.cp.lo, .int .u64 a.cq.hi, .int .u64 a.cq.lo, .int .i64 a.ledger, .int .i64 a.code, .int .i64 a.flags, .int .i64 a.stamp] (n := 14) rfl Ba_2.out
  have qn_3 := ld_row (P := Tryd.prog) (w.heap.size + 1) #[.int .u64 n.hi, .int .u64 n.lo] (n := 2) rfl Bn_2.out
  have qp_3 := ld_row (P := Tryd.prog) (w2.heap.size) #[.int .u64 C.id.hi, .int .u64 C.id.lo, .int .u64 C.dp.hi, .int .u64 C.dp.lo, .int .u64 C.dq.hi, .int .u64 C.dq.lo, .int .u64 C.cp.hi, .int .u64 C.cp.lo, .int .u64 C.cq.hi, .int .u64 C.cq.lo, .int .i64 C.ledger, .int .i64 C.code, .int .i64 C.flags, .int .i64 C.stamp] (n := 14) rfl Bp_2.out
  clear f2
  have HLtp := HZ
  go_wp2_with fail
  refine (HX.out _ (HM.out.fr F2.out (fun h => h))).mono ?_
  rintro e w4 ⟨rfl, f4⟩
  have F4 := Lib.hid (F2.out.then_ f4 (fun _ h => h.elim))
  have Ba_4 := Lib.hid (f4.blk Ba_2.out (fun h => h))
  have Bn_4 := Lib.hid (f4.blk Bn_2.out (fun h => h))
  have Bp_4 := Lib.hid (f4.blk Bp_2.out (fun h => h))
  clear f4
  have Da_5 := Lib.hid (show ¬ w.heap.size = (w2.heap.size) from by have := blk_lt Ba_4.out; have := HLtp.out; omega)
  have Dn_5 := Lib.hid (show ¬ (w.heap.size + 1) = (w2.heap.size) from by have := blk_lt Bn_4.out; have := HLtp.out; omega)
  go_wp2_with (first | ((refine wpList_store_row rfl 26 (.tmp 9) (.tmp 33) rfl (w2.heap.size) #[.int .u64 V.id.hi, .int .u64 V.id.lo, .int .u64 V.dp.hi, .int .u64 V.dp.lo, .int .u64 V.dq.hi, .int .u64 V.dq.lo, .int .u64 V.cp.hi, .int .u64 V.cp.lo, .int .u64 V.cq.hi, .int .u64 V.cq.lo, .int .i64 V.ledger, .int .i64 V.code, .int .i64 V.flags, .int .i64 V.stamp] rfl rfl Bp_4.out rfl rfl (by simp [Value.oneCell']) ?_); intro w5 h5 g5; have Ba_5 := Lib.hid (g5.blk Ba_4.out Da_5.out); have Bn_5 := Lib.hid (g5.blk Bn_4.out Dn_5.out); have Bp_5 := Lib.hid h5; have F5 := Lib.hid (F4.out.then_ g5 (fun k hk => .inr (by have := HLtp.out; omega))); have qa_6 := ld_row (P := Tryd.prog) w.heap.size #[.int .u64 a.id.hi, .int .u64 a.id.lo, .int .u64 a.dp.hi, .int .u64 a.dp.lo, .int .u64 a.dq.hi, .int .u64 a.dq.lo, .int .u64 a.cp.hi, .int .u64 a.cp.lo, .int .u64 a.cq.hi, .int .u64 a.cq.lo, .int .i64 a.ledger, .int .i64 a.code, .int .i64 a.flags, .int .i64 a.stamp] (n := 14) rfl Ba_5.out; have qn_6 := ld_row (P := Tryd.prog) (w.heap.size + 1) #[.int .u64 n.hi, .int .u64 n.lo] (n := 2) rfl Bn_5.out; have qp_6 := ld_row (P := Tryd.prog) (w2.heap.size) #[.int .u64 V.id.hi, .int .u64 V.id.lo, .int .u64 V.dp.hi, .int .u64 V.dp.lo, .int .u64 V.dq.hi, .int .u64 V.dq.lo, .int .u64 V.cp.hi, .int .u64 V.cp.lo, .int .u64 V.cq.hi, .int .u64 V.cq.lo, .int .i64 V.ledger, .int .i64 V.code, .int .i64 V.flags, .int .i64 V.stamp] (n := 14) rfl Bp_5.out; clear h5 g5) | fail)
  refine (HRf.out _).mono ?_
  rintro e w7 ⟨rfl, f7⟩
  have F7 := Lib.hid ((F5.out.then_ f7 (fun _ h => h.elim)).alloc (.cells #[.int .u64 V.id.hi, .int .u64 V.id.lo, .int .u64 V.dp.hi, .int .u64 V.dp.lo, .int .u64 V.dq.hi, .int .u64 V.dq.lo, .int .u64 V.cp.hi, .int .u64 V.cp.lo, .int .u64 V.cq.hi, .int .u64 V.cq.lo, .int .i64 V.ledger, .int .i64 V.code, .int .i64 V.flags, .int .i64 V.stamp] 26))
  have Ba_7 := Lib.hid (blk_alloc (f7.blk Ba_5.out (fun h => h)) (.cells #[.int .u64 V.id.hi, .int .u64 V.id.lo, .int .u64 V.dp.hi, .int .u64 V.dp.lo, .int .u64 V.dq.hi, .int .u64 V.dq.lo, .int .u64 V.cp.hi, .int .u64 V.cp.lo, .int .u64 V.cq.hi, .int .u64 V.cq.lo, .int .i64 V.ledger, .int .i64 V.code, .int .i64 V.flags, .int .i64 V.stamp] 26))
  have Bn_7 := Lib.hid (blk_alloc (f7.blk Bn_5.out (fun h => h)) (.cells #[.int .u64 V.id.hi, .int .u64 V.id.lo, .int .u64 V.dp.hi, .int .u64 V.dp.lo, .int .u64 V.dq.hi, .int .u64 V.dq.lo, .int .u64 V.cp.hi, .int .u64 V.cp.lo, .int .u64 V.cq.hi, .int .u64 V.cq.lo, .int .i64 V.ledger, .int .i64 V.code, .int .i64 V.flags, .int .i64 V.stamp] 26))
  have Bp_7 := Lib.hid (blk_alloc (f7.blk Bp_5.out (fun h => h)) (.cells #[.int .u64 V.id.hi, .int .u64 V.id.lo, .int .u64 V.dp.hi, .int .u64 V.dp.lo, .int .u64 V.dq.hi, .int .u64 V.dq.lo, .int .u64 V.cp.hi, .int .u64 V.cp.lo, .int .u64 V.cq.hi, .int .u64 V.cq.lo, .int .i64 V.ledger, .int .i64 V.code, .int .i64 V.flags, .int .i64 V.stamp] 26))
  have Bq_7 := Lib.hid (heap_alloc_new w7 (.cells #[.int .u64 V.id.hi, .int .u64 V.id.lo, .int .u64 V.dp.hi, .int .u64 V.dp.lo, .int .u64 V.dq.hi, .int .u64 V.dq.lo, .int .u64 V.cp.hi, .int .u64 V.cp.lo, .int .u64 V.cq.hi, .int .u64 V.cq.lo, .int .i64 V.ledger, .int .i64 V.code, .int .i64 V.flags, .int .i64 V.stamp] 26))
  have qa_8 := ld_row (P := Tryd.prog) w.heap.size #[.int .u64 a.id.hi, .int .u64 a.id.lo, .int .u64 a.dp.hi, .int .u64 a.dp.lo, .int .u64 a.dq.hi, .int .u64 a.dq.lo, .int .u64 a.cp.hi, .int .u64 a.cp.lo, .int .u64 a.cq.hi, .int .u64 a.cq.lo, .int .i64 a.ledger, .int .i64 a.code, .int .i64 a.flags, .int .i64 a.stamp] (n := 14) rfl Ba_7.out
  have qn_8 := ld_row (P := Tryd.prog) (w.heap.size + 1) #[.int .u64 n.hi, .int .u64 n.lo] (n := 2) rfl Bn_7.out
  have qp_8 := ld_row (P := Tryd.prog) (w2.heap.size) #[.int .u64 V.id.hi, .int .u64 V.id.lo, .int .u64 V.dp.hi, .int .u64 V.dp.lo, .int .u64 V.dq.hi, .int .u64 V.dq.lo, .int .u64 V.cp.hi, .int .u64 V.cp.lo, .int .u64 V.cq.hi, .int .u64 V.cq.lo, .int .i64 V.ledger, .int .i64 V.code, .int .i64 V.flags, .int .i64 V.stamp] (n := 14) rfl Bp_7.out
  have qq_8 := ld_row (P := Tryd.prog) (w7.heap.size) #[.int .u64 V.id.hi, .int .u64 V.id.lo, .int .u64 V.dp.hi, .int .u64 V.dp.lo, .int .u64 V.dq.hi, .int .u64 V.dq.lo, .int .u64 V.cp.hi, .int .u64 V.cp.lo, .int .u64 V.cq.hi, .int .u64 V.cq.lo, .int .i64 V.ledger, .int .i64 V.code, .int .i64 V.flags, .int .i64 V.stamp] (n := 14) rfl Bq_7.out
  clear f7
  go_upto_region 7 with fail
  go_region_held3 (fun w' => (loadCells ⟨w.heap.size, 0, none⟩ 14).run Tryd.prog w' = .ok #[Value.int .u64 a.id.hi, Value.int .u64 a.id.lo, Value.int .u64 a.dp.hi, Value.int .u64 a.dp.lo, Value.int .u64 a.dq.hi, Value.int .u64 a.dq.lo, Value.int .u64 a.cp.hi, Value.int .u64 a.cp.lo, Value.int .u64 a.cq.hi, Value.int .u64 a.cq.lo, Value.int .i64 a.ledger, Value.int .i64 a.code, Value.int .i64 a.flags, Value.int .i64 a.stamp] w' ∧ (loadCells ⟨(w2.heap.size), 0, none⟩ 14).run Tryd.prog w' = .ok #[Value.int .u64 V.id.hi, Value.int .u64 V.id.lo, Value.int .u64 V.dp.hi, Value.int .u64 V.dp.lo, Value.int .u64 V.dq.hi, Value.int .u64 V.dq.lo, Value.int .u64 V.cp.hi, Value.int .u64 V.cp.lo, Value.int .u64 V.cq.hi, Value.int .u64 V.cq.lo, Value.int .i64 V.ledger, Value.int .i64 V.code, Value.int .i64 V.flags, Value.int .i64 V.stamp] w' ∧ (loadCells ⟨(w7.heap.size), 0, none⟩ 14).run Tryd.prog w' = .ok #[Value.int .u64 V.id.hi, Value.int .u64 V.id.lo, Value.int .u64 V.dp.hi, Value.int .u64 V.dp.lo, Value.int .u64 V.dq.hi, Value.int .u64 V.dq.lo, Value.int .u64 V.cp.hi, Value.int .u64 V.cp.lo, Value.int .u64 V.cq.hi, Value.int .u64 V.cq.lo, Value.int .i64 V.ledger, Value.int .i64 V.code, Value.int .i64 V.flags, Value.int .i64 V.stamp] w')
    (first | exact ⟨ld_row _ _ rfl Ba_7.out, ld_row _ _ rfl Bp_7.out, ld_row _ _ rfl Bq_7.out⟩ | exact ⟨ld_row _ _ rfl Xa.out, ld_row _ _ rfl Xp.out, ld_row _ _ rfl Xq.out⟩ | exact ⟨ld_row _ _ rfl Ya.out, ld_row _ _ rfl Yp.out, ld_row _ _ rfl Yq.out⟩ | exact ⟨ld_row _ _ rfl (blk_drew Ba_7.out), ld_row _ _ rfl (blk_drew Bp_7.out), ld_row _ _ rfl (blk_drew Bq_7.out)⟩ | go_keep)
    (first | (go_at_call 13; (with_reducible refine (HHa.out _ (HM.out.fr F7.out.drew (fun h => h))).mono ?_); rintro e w9 ⟨rfl, f9⟩; have Xa := Lib.hid (f9.blk (blk_drew Ba_7.out) (fun h => h)); have Xn := Lib.hid (f9.blk (blk_drew Bn_7.out) (fun h => h)); have Xp := Lib.hid (f9.blk (blk_drew Bp_7.out) (fun h => h)); have Xq := Lib.hid (f9.blk (blk_drew Bq_7.out) (fun h => h)); have FX := Lib.hid (F7.out.drew.then_ f9 (fun _ h => h.elim)); clear f9) | (go_at_call 14; (with_reducible refine (HRh.out _).mono ?_); rintro e w10 ⟨rfl, f10⟩; have Ya := Lib.hid (f10.blk Xa.out (fun h => h)); have Yn := Lib.hid (f10.blk Xn.out (fun h => h)); have Yp := Lib.hid (f10.blk Xp.out (fun h => h)); have Yq := Lib.hid (f10.blk Xq.out (fun h => h)); have FY := Lib.hid (FX.out.then_ f10 (fun _ h => h.elim)); clear f10))
  have qa_11 := ld_row (P := Tryd.prog) w.heap.size #[.int .u64 a.id.hi, .int .u64 a.id.lo, .int .u64 a.dp.hi, .int .u64 a.dp.lo, .int .u64 a.dq.hi, .int .u64 a.dq.lo, .int .u64 a.cp.hi, .int .u64 a.cp.lo, .int .u64 a.cq.hi, .int .u64 a.cq.lo, .int .i64 a.ledger, .int .i64 a.code, .int .i64 a.flags, .int .i64 a.stamp] (n := 14) rfl Ya.out
  have qn_11 := ld_row (P := Tryd.prog) (w.heap.size + 1) #[.int .u64 n.hi, .int .u64 n.lo] (n := 2) rfl Yn.out
  have qp_11 := ld_row (P := Tryd.prog) (w2.heap.size) #[.int .u64 V.id.hi, .int .u64 V.id.lo, .int .u64 V.dp.hi, .int .u64 V.dp.lo, .int .u64 V.dq.hi, .int .u64 V.dq.lo, .int .u64 V.cp.hi, .int .u64 V.cp.lo, .int .u64 V.cq.hi, .int .u64 V.cq.lo, .int .i64 V.ledger, .int .i64 V.code, .int .i64 V.flags, .int .i64 V.stamp] (n := 14) rfl Yp.out
  have qq_11 := ld_row (P := Tryd.prog) (w7.heap.size) #[.int .u64 V.id.hi, .int .u64 V.id.lo, .int .u64 V.dp.hi, .int .u64 V.dp.lo, .int .u64 V.dq.hi, .int .u64 V.dq.lo, .int .u64 V.cp.hi, .int .u64 V.cp.lo, .int .u64 V.cq.hi, .int .u64 V.cq.lo, .int .i64 V.ledger, .int .i64 V.code, .int .i64 V.flags, .int .i64 V.stamp] (n := 14) rfl Yq.out
  go_wp2_with fail
  refine (HHa.out _ (HM.out.fr FY.out (fun h => h))).mono ?_
  rintro e w12 ⟨rfl, f12⟩
  have F12 := Lib.hid ((FY.out.then_ f12 (fun _ h => h.elim)).alloc (.cells #[.int .u64 hv.hi, .int .u64 hv.lo] 24))
  have Ba_12 := Lib.hid (blk_alloc (f12.blk Ya.out (fun h => h)) (.cells #[.int .u64 hv.hi, .int .u64 hv.lo] 24))
  have Bn_12 := Lib.hid (blk_alloc (f12.blk Yn.out (fun h => h)) (.cells #[.int .u64 hv.hi, .int .u64 hv.lo] 24))
  have Bp_12 := Lib.hid (blk_alloc (f12.blk Yp.out (fun h => h)) (.cells #[.int .u64 hv.hi, .int .u64 hv.lo] 24))
  have Bq_12 := Lib.hid (blk_alloc (f12.blk Yq.out (fun h => h)) (.cells #[.int .u64 hv.hi, .int .u64 hv.lo] 24))
  have Bh_12 := Lib.hid (heap_alloc_new w12 (.cells #[.int .u64 hv.hi, .int .u64 hv.lo] 24))
  have qa_13 := ld_row (P := Tryd.prog) w.heap.size #[.int .u64 a.id.hi, .int .u64 a.id.lo, .int .u64 a.dp.hi, .int .u64 a.dp.lo, .int .u64 a.dq.hi, .int .u64 a.dq.lo, .int .u64 a.cp.hi, .int .u64 a.cp.lo, .int .u64 a.cq.hi, .int .u64 a.cq.lo, .int .i64 a.ledger, .int .i64 a.code, .int .i64 a.flags, .int .i64 a.stamp] (n := 14) rfl Ba_12.out
  have qn_13 := ld_row (P := Tryd.prog) (w.heap.size + 1) #[.int .u64 n.hi, .int .u64 n.lo] (n := 2) rfl Bn_12.out
  have qp_13 := ld_row (P := Tryd.prog) (w2.heap.size) #[.int .u64 V.id.hi, .int .u64 V.id.lo, .int .u64 V.dp.hi, .int .u64 V.dp.lo, .int .u64 V.dq.hi, .int .u64 V.dq.lo, .int .u64 V.cp.hi, .int .u64 V.cp.lo, .int .u64 V.cq.hi, .int .u64 V.cq.lo, .int .i64 V.ledger, .int .i64 V.code, .int .i64 V.flags, .int .i64 V.stamp] (n := 14) rfl Bp_12.out
  have qq_13 := ld_row (P := Tryd.prog) (w7.heap.size) #[.int .u64 V.id.hi, .int .u64 V.id.lo, .int .u64 V.dp.hi, .int .u64 V.dp.lo, .int .u64 V.dq.hi, .int .u64 V.dq.lo, .int .u64 V.cp.hi, .int .u64 V.cp.lo, .int .u64 V.cq.hi, .int .u64 V.cq.lo, .int .i64 V.ledger, .int .i64 V.code, .int .i64 V.flags, .int .i64 V.stamp] (n := 14) rfl Bq_12.out
  have qh_13 := ld_row (P := Tryd.prog) (w12.heap.size) #[.int .u64 hv.hi, .int .u64 hv.lo] (n := 2) rfl Bh_12.out
  clear f12
  go_wp2_with fail
  refine (HC2.out _ (HM.out.fr F12.out (fun h => h))).mono ?_
  rintro e w14 ⟨rfl, f14⟩
  have HZ2 := Lib.hid (show w.heap.size + 2 ≤ w14.heap.size ∧ (w2.heap.size) < w14.heap.size ∧ (w7.heap.size) < w14.heap.size ∧ (w12.heap.size) < w14.heap.size from by have h1 := blk_lt Bp_12.out; have h2 := f14.size; have h3 := blk_lt Bq_12.out; have h4 := blk_lt Bh_12.out; have h5 := HZ.out; exact ⟨by omega, by omega, by omega, by omega⟩)
  have F14 := Lib.hid ((F12.out.then_ f14 (fun _ h => h.elim)).alloc (.cells #[.int .u64 C2.id.hi, .int .u64 C2.id.lo, .int .u64 C2.dp.hi, .int .u64 C2.dp.lo, .int .u64 C2.dq.hi, .int .u64 C2.dq.lo, .int .u64 C2.cp.hi, .int .u64 C2.cp.lo, .int .u64 C2.cq.hi, .int .u64 C2.cq.lo, .int .i64 C2.ledger, .int .i64 C2.code, .int .i64 C2.flags, .int .i64 C2.stamp] 26))
  have Ba_14 := Lib.hid (blk_alloc (f14.blk Ba_12.out (fun h => h)) (.cells #[.int .u64 C2.id.hi, .int .u64 C2.id.lo, .int .u64 C2.dp.hi, .int .u64 C2.dp.lo, .int .u64 C2.dq.hi, .int .u64 C2.dq.lo, .int .u64 C2.cp.hi, .int .u64 C2.cp.lo, .int .u64 C2.cq.hi, .int .u64 C2.cq.lo, .int .i64 C2.ledger, .int .i64 C2.code, .int .i64 C2.flags, .int .i64 C2.stamp] 26))
  have Bn_14 := Lib.hid (blk_alloc (f14.blk Bn_12.out (fun h => h)) (.cells #[.int .u64 C2.id.hi, .int .u64 C2.id.lo, .int .u64 C2.dp.hi, .int .u64 C2.dp.lo, .int .u64 C2.dq.hi, .int .u64 C2.dq.lo, .int .u64 C2.cp.hi, .int .u64 C2.cp.lo, .int .u64 C2.cq.hi, .int .u64 C2.cq.lo, .int .i64 C2.ledger, .int .i64 C2.code, .int .i64 C2.flags, .int .i64 C2.stamp] 26))
  have Bp_14 := Lib.hid (blk_alloc (f14.blk Bp_12.out (fun h => h)) (.cells #[.int .u64 C2.id.hi, .int .u64 C2.id.lo, .int .u64 C2.dp.hi, .int .u64 C2.dp.lo, .int .u64 C2.dq.hi, .int .u64 C2.dq.lo, .int .u64 C2.cp.hi, .int .u64 C2.cp.lo, .int .u64 C2.cq.hi, .int .u64 C2.cq.lo, .int .i64 C2.ledger, .int .i64 C2.code, .int .i64 C2.flags, .int .i64 C2.stamp] 26))
  have Bq_14 := Lib.hid (blk_alloc (f14.blk Bq_12.out (fun h => h)) (.cells #[.int .u64 C2.id.hi, .int .u64 C2.id.lo, .int .u64 C2.dp.hi, .int .u64 C2.dp.lo, .int .u64 C2.dq.hi, .int .u64 C2.dq.lo, .int .u64 C2.cp.hi, .int .u64 C2.cp.lo, .int .u64 C2.cq.hi, .int .u64 C2.cq.lo, .int .i64 C2.ledger, .int .i64 C2.code, .int .i64 C2.flags, .int .i64 C2.stamp] 26))
  have Bh_14 := Lib.hid (blk_alloc (f14.blk Bh_12.out (fun h => h)) (.cells #[.int .u64 C2.id.hi, .int .u64 C2.id.lo, .int .u64 C2.dp.hi, .int .u64 C2.dp.lo, .int .u64 C2.dq.hi, .int .u64 C2.dq.lo, .int .u64 C2.cp.hi, .int .u64 C2.cp.lo, .int .u64 C2.cq.hi, .int .u64 C2.cq.lo, .int .i64 C2.ledger, .int .i64 C2.code, .int .i64 C2.flags, .int .i64 C2.stamp] 26))
  have Bs_14 := Lib.hid (heap_alloc_new w14 (.cells #[.int .u64 C2.id.hi, .int .u64 C2.id.lo, .int .u64 C2.dp.hi, .int .u64 C2.dp.lo, .int .u64 C2.dq.hi, .int .u64 C2.dq.lo, .int .u64 C2.cp.hi, .int .u64 C2.cp.lo, .int .u64 C2.cq.hi, .int .u64 C2.cq.lo, .int .i64 C2.ledger, .int .i64 C2.code, .int .i64 C2.flags, .int .i64 C2.stamp] 26))
  have qa_15 := ld_row (P := Tryd.prog) w.heap.size #[.int .u64 a.id.hi, .int .u64 a.id.lo, .int .u64 a.dp.hi, .int .u64 a.dp.lo, .int .u64 a.dq.hi, .int .u64 a.dq.lo, .int .u64 a.cp.hi, .int .u64 a.cp.lo, .int .u64 a.cq.hi, .int .u64 a.cq.lo, .int .i64 a.ledger, .int .i64 a.code, .int .i64 a.flags, .int .i64 a.stamp] (n := 14) rfl Ba_14.out
  have qn_15 := ld_row (P := Tryd.prog) (w.heap.size + 1) #[.int .u64 n.hi, .int .u64 n.lo] (n := 2) rfl Bn_14.out
  have qp_15 := ld_row (P := Tryd.prog) (w2.heap.size) #[.int .u64 V.id.hi, .int .u64 V.id.lo, .int .u64 V.dp.hi, .int .u64 V.dp.lo, .int .u64 V.dq.hi, .int .u64 V.dq.lo, .int .u64 V.cp.hi, .int .u64 V.cp.lo, .int .u64 V.cq.hi, .int .u64 V.cq.lo, .int .i64 V.ledger, .int .i64 V.code, .int .i64 V.flags, .int .i64 V.stamp] (n := 14) rfl Bp_14.out
  have qq_15 := ld_row (P := Tryd.prog) (w7.heap.size) #[.int .u64 V.id.hi, .int .u64 V.id.lo, .int .u64 V.dp.hi, .int .u64 V.dp.lo, .int .u64 V.dq.hi, .int .u64 V.dq.lo, .int .u64 V.cp.hi, .int .u64 V.cp.lo, .int .u64 V.cq.hi, .int .u64 V.cq.lo, .int .i64 V.ledger, .int .i64 V.code, .int .i64 V.flags, .int .i64 V.stamp] (n := 14) rfl Bq_14.out
  have qh_15 := ld_row (P := Tryd.prog) (w12.heap.size) #[.int .u64 hv.hi, .int .u64 hv.lo] (n := 2) rfl Bh_14.out
  have qs_15 := ld_row (P := Tryd.prog) (w14.heap.size) #[.int .u64 C2.id.hi, .int .u64 C2.id.lo, .int .u64 C2.dp.hi, .int .u64 C2.dp.lo, .int .u64 C2.dq.hi, .int .u64 C2.dq.lo, .int .u64 C2.cp.hi, .int .u64 C2.cp.lo, .int .u64 C2.cq.hi, .int .u64 C2.cq.lo, .int .i64 C2.ledger, .int .i64 C2.code, .int .i64 C2.flags, .int .i64 C2.stamp] (n := 14) rfl Bs_14.out
  clear f14
  have HLts := HZ2
  go_wp2_with fail
  refine (HX2.out _ (HM.out.fr F14.out (fun h => h))).mono ?_
  rintro e w16 ⟨rfl, f16⟩
  have F16 := Lib.hid (F14.out.then_ f16 (fun _ h => h.elim))
  have Ba_16 := Lib.hid (f16.blk Ba_14.out (fun h => h))
  have Bn_16 := Lib.hid (f16.blk Bn_14.out (fun h => h))
  have Bp_16 := Lib.hid (f16.blk Bp_14.out (fun h => h))
  have Bq_16 := Lib.hid (f16.blk Bq_14.out (fun h => h))
  have Bh_16 := Lib.hid (f16.blk Bh_14.out (fun h => h))
  have Bs_16 := Lib.hid (f16.blk Bs_14.out (fun h => h))
  clear f16
  have Da_17 := Lib.hid (show ¬ w.heap.size = (w14.heap.size) from by have := blk_lt Ba_16.out; have := HLts.out; omega)
  have Dn_17 := Lib.hid (show ¬ (w.heap.size + 1) = (w14.heap.size) from by have := blk_lt Bn_16.out; have := HLts.out; omega)
  have Dp_17 := Lib.hid (show ¬ (w2.heap.size) = (w14.heap.size) from by have := blk_lt Bp_16.out; have := HLts.out; omega)
  have Dq_17 := Lib.hid (show ¬ (w7.heap.size) = (w14.heap.size) from by have := blk_lt Bq_16.out; have := HLts.out; omega)
  have Dh_17 := Lib.hid (show ¬ (w12.heap.size) = (w14.heap.size) from by have := blk_lt Bh_16.out; have := HLts.out; omega)
  go_wp2_with (first | ((refine wpList_store_row rfl 26 (.tmp 14) (.tmp 76) rfl (w14.heap.size) #[.int .u64 V2.id.hi, .int .u64 V2.id.lo, .int .u64 V2.dp.hi, .int .u64 V2.dp.lo, .int .u64 V2.dq.hi, .int .u64 V2.dq.lo, .int .u64 V2.cp.hi, .int .u64 V2.cp.lo, .int .u64 V2.cq.hi, .int .u64 V2.cq.lo, .int .i64 V2.ledger, .int .i64 V2.code, .int .i64 V2.flags, .int .i64 V2.stamp] rfl rfl Bs_16.out rfl rfl (by simp [Value.oneCell']) ?_); intro w17 h17 g17; have Ba_17 := Lib.hid (g17.blk Ba_16.out Da_17.out); have Bn_17 := Lib.hid (g17.blk Bn_16.out Dn_17.out); have Bp_17 := Lib.hid (g17.blk Bp_16.out Dp_17.out); have Bq_17 := Lib.hid (g17.blk Bq_16.out Dq_17.out); have Bh_17 := Lib.hid (g17.blk Bh_16.out Dh_17.out); have Bs_17 := Lib.hid h17; have F17 := Lib.hid (F16.out.then_ g17 (fun k hk => .inr (by have := HLts.out; omega))); have qa_18 := ld_row (P := Tryd.prog) w.heap.size #[.int .u64 a.id.hi, .int .u64 a.id.lo, .int .u64 a.dp.hi, .int .u64 a.dp.lo, .int .u64 a.dq.hi, .int .u64 a.dq.lo, .int .u64 a.cp.hi, .int .u64 a.cp.lo, .int .u64 a.cq.hi, .int .u64 a.cq.lo, .int .i64 a.ledger, .int .i64 a.code, .int .i64 a.flags, .int .i64 a.stamp] (n := 14) rfl Ba_17.out; have qn_18 := ld_row (P := Tryd.prog) (w.heap.size + 1) #[.int .u64 n.hi, .int .u64 n.lo] (n := 2) rfl Bn_17.out; have qp_18 := ld_row (P := Tryd.prog) (w2.heap.size) #[.int .u64 V.id.hi, .int .u64 V.id.lo, .int .u64 V.dp.hi, .int .u64 V.dp.lo, .int .u64 V.dq.hi, .int .u64 V.dq.lo, .int .u64 V.cp.hi, .int .u64 V.cp.lo, .int .u64 V.cq.hi, .int .u64 V.cq.lo, .int .i64 V.ledger, .int .i64 V.code, .int .i64 V.flags, .int .i64 V.stamp] (n := 14) rfl Bp_17.out; have qq_18 := ld_row (P := Tryd.prog) (w7.heap.size) #[.int .u64 V.id.hi, .int .u64 V.id.lo, .int .u64 V.dp.hi, .int .u64 V.dp.lo, .int .u64 V.dq.hi, .int .u64 V.dq.lo, .int .u64 V.cp.hi, .int .u64 V.cp.lo, .int .u64 V.cq.hi, .int .u64 V.cq.lo, .int .i64 V.ledger, .int .i64 V.code, .int .i64 V.flags, .int .i64 V.stamp] (n := 14) rfl Bq_17.out; have qh_18 := ld_row (P := Tryd.prog) (w12.heap.size) #[.int .u64 hv.hi, .int .u64 hv.lo] (n := 2) rfl Bh_17.out; have qs_18 := ld_row (P := Tryd.prog) (w14.heap.size) #[.int .u64 V2.id.hi, .int .u64 V2.id.lo, .int .u64 V2.dp.hi, .int .u64 V2.dp.lo, .int .u64 V2.dq.hi, .int .u64 V2.dq.lo, .int .u64 V2.cp.hi, .int .u64 V2.cp.lo, .int .u64 V2.cq.hi, .int .u64 V2.cq.lo, .int .i64 V2.ledger, .int .i64 V2.code, .int .i64 V2.flags, .int .i64 V2.stamp] (n := 14) rfl Bs_17.out; clear h17 g17) | fail)
  refine (HRf2.out _).mono ?_
  rintro e w19 ⟨rfl, f19⟩
  have F19 := Lib.hid ((F17.out.then_ f19 (fun _ h => h.elim)).alloc (.cells #[.int .u64 V2.id.hi, .int .u64 V2.id.lo, .int .u64 V2.dp.hi, .int .u64 V2.dp.lo, .int .u64 V2.dq.hi, .int .u64 V2.dq.lo, .int .u64 V2.cp.hi, .int .u64 V2.cp.lo, .int .u64 V2.cq.hi, .int .u64 V2.cq.lo, .int .i64 V2.ledger, .int .i64 V2.code, .int .i64 V2.flags, .int .i64 V2.stamp] 26))
  have Ba_19 := Lib.hid (blk_alloc (f19.blk Ba_17.out (fun h => h)) (.cells #[.int .u64 V2.id.hi, .int .u64 V2.id.lo, .int .u64 V2.dp.hi, .int .u64 V2.dp.lo, .int .u64 V2.dq.hi, .int .u64 V2.dq.lo, .int .u64 V2.cp.hi, .int .u64 V2.cp.lo, .int .u64 V2.cq.hi, .int .u64 V2.cq.lo, .int .i64 V2.ledger, .int .i64 V2.code, .int .i64 V2.flags, .int .i64 V2.stamp] 26))
  have Bn_19 := Lib.hid (blk_alloc (f19.blk Bn_17.out (fun h => h)) (.cells #[.int .u64 V2.id.hi, .int .u64 V2.id.lo, .int .u64 V2.dp.hi, .int .u64 V2.dp.lo, .int .u64 V2.dq.hi, .int .u64 V2.dq.lo, .int .u64 V2.cp.hi, .int .u64 V2.cp.lo, .int .u64 V2.cq.hi, .int .u64 V2.cq.lo, .int .i64 V2.ledger, .int .i64 V2.code, .int .i64 V2.flags, .int .i64 V2.stamp] 26))
  have Bp_19 := Lib.hid (blk_alloc (f19.blk Bp_17.out (fun h => h)) (.cells #[.int .u64 V2.id.hi, .int .u64 V2.id.lo, .int .u64 V2.dp.hi, .int .u64 V2.dp.lo, .int .u64 V2.dq.hi, .int .u64 V2.dq.lo, .int .u64 V2.cp.hi, .int .u64 V2.cp.lo, .int .u64 V2.cq.hi, .int .u64 V2.cq.lo, .int .i64 V2.ledger, .int .i64 V2.code, .int .i64 V2.flags, .int .i64 V2.stamp] 26))
  have Bq_19 := Lib.hid (blk_alloc (f19.blk Bq_17.out (fun h => h)) (.cells #[.int .u64 V2.id.hi, .int .u64 V2.id.lo, .int .u64 V2.dp.hi, .int .u64 V2.dp.lo, .int .u64 V2.dq.hi, .int .u64 V2.dq.lo, .int .u64 V2.cp.hi, .int .u64 V2.cp.lo, .int .u64 V2.cq.hi, .int .u64 V2.cq.lo, .int .i64 V2.ledger, .int .i64 V2.code, .int .i64 V2.flags, .int .i64 V2.stamp] 26))
  have Bh_19 := Lib.hid (blk_alloc (f19.blk Bh_17.out (fun h => h)) (.cells #[.int .u64 V2.id.hi, .int .u64 V2.id.lo, .int .u64 V2.dp.hi, .int .u64 V2.dp.lo, .int .u64 V2.dq.hi, .int .u64 V2.dq.lo, .int .u64 V2.cp.hi, .int .u64 V2.cp.lo, .int .u64 V2.cq.hi, .int .u64 V2.cq.lo, .int .i64 V2.ledger, .int .i64 V2.code, .int .i64 V2.flags, .int .i64 V2.stamp] 26))
  have Bs_19 := Lib.hid (blk_alloc (f19.blk Bs_17.out (fun h => h)) (.cells #[.int .u64 V2.id.hi, .int .u64 V2.id.lo, .int .u64 V2.dp.hi, .int .u64 V2.dp.lo, .int .u64 V2.dq.hi, .int .u64 V2.dq.lo, .int .u64 V2.cp.hi, .int .u64 V2.cp.lo, .int .u64 V2.cq.hi, .int .u64 V2.cq.lo, .int .i64 V2.ledger, .int .i64 V2.code, .int .i64 V2.flags, .int .i64 V2.stamp] 26))
  have Bu_19 := Lib.hid (heap_alloc_new w19 (.cells #[.int .u64 V2.id.hi, .int .u64 V2.id.lo, .int .u64 V2.dp.hi, .int .u64 V2.dp.lo, .int .u64 V2.dq.hi, .int .u64 V2.dq.lo, .int .u64 V2.cp.hi, .int .u64 V2.cp.lo, .int .u64 V2.cq.hi, .int .u64 V2.cq.lo, .int .i64 V2.ledger, .int .i64 V2.code, .int .i64 V2.flags, .int .i64 V2.stamp] 26))
  have qa_20 := ld_row (P := Tryd.prog) w.heap.size #[.int .u64 a.id.hi, .int .u64 a.id.lo, .int .u64 a.dp.hi, .int .u64 a.dp.lo, .int .u64 a.dq.hi, .int .u64 a.dq.lo, .int .u64 a.cp.hi, .int .u64 a.cp.lo, .int .u64 a.cq.hi, .int .u64 a.cq.lo, .int .i64 a.ledger, .int .i64 a.code, .int .i64 a.flags, .int .i64 a.stamp] (n := 14) rfl Ba_19.out
  have qn_20 := ld_row (P := Tryd.prog) (w.heap.size + 1) #[.int .u64 n.hi, .int .u64 n.lo] (n := 2) rfl Bn_19.out
  have qp_20 := ld_row (P := Tryd.prog) (w2.heap.size) #[.int .u64 V.id.hi, .int .u64 V.id.lo, .int .u64 V.dp.hi, .int .u64 V.dp.lo, .int .u64 V.dq.hi, .int .u64 V.dq.lo, .int .u64 V.cp.hi, .int .u64 V.cp.lo, .int .u64 V.cq.hi, .int .u64 V.cq.lo, .int .i64 V.ledger, .int .i64 V.code, .int .i64 V.flags, .int .i64 V.stamp] (n := 14) rfl Bp_19.out
  have qq_20 := ld_row (P := Tryd.prog) (w7.heap.size) #[.int .u64 V.id.hi, .int .u64 V.id.lo, .int .u64 V.dp.hi, .int .u64 V.dp.lo, .int .u64 V.dq.hi, .int .u64 V.dq.lo, .int .u64 V.cp.hi, .int .u64 V.cp.lo, .int .u64 V.cq.hi, .int .u64 V.cq.lo, .int .i64 V.ledger, .int .i64 V.code, .int .i64 V.flags, .int .i64 V.stamp] (n := 14) rfl Bq_19.out
  have qh_20 := ld_row (P := Tryd.prog) (w12.heap.size) #[.int .u64 hv.hi, .int .u64 hv.lo] (n := 2) rfl Bh_19.out
  have qs_20 := ld_row (P := Tryd.prog) (w14.heap.size) #[.int .u64 V2.id.hi, .int .u64 V2.id.lo, .int .u64 V2.dp.hi, .int .u64 V2.dp.lo, .int .u64 V2.dq.hi, .int .u64 V2.dq.lo, .int .u64 V2.cp.hi, .int .u64 V2.cp.lo, .int .u64 V2.cq.hi, .int .u64 V2.cq.lo, .int .i64 V2.ledger, .int .i64 V2.code, .int .i64 V2.flags, .int .i64 V2.stamp] (n := 14) rfl Bs_19.out
  have qu_20 := ld_row (P := Tryd.prog) (w19.heap.size) #[.int .u64 V2.id.hi, .int .u64 V2.id.lo, .int .u64 V2.dp.hi, .int .u64 V2.dp.lo, .int .u64 V2.dq.hi, .int .u64 V2.dq.lo, .int .u64 V2.cp.hi, .int .u64 V2.cp.lo, .int .u64 V2.cq.hi, .int .u64 V2.cq.lo, .int .i64 V2.ledger, .int .i64 V2.code, .int .i64 V2.flags, .int .i64 V2.stamp] (n := 14) rfl Bu_19.out
  clear f19
  go_wp2_with fail
  go_ret
  refine ⟨?_, F19.out⟩
  simp [hq3, hq4]
set_option maxRecDepth 4000 in
set_option maxHeartbeats 6400000 in
theorem rulesF (w : World) (a : Acc) (n : Nm) (pn : Bool) (hm : Most w) (ha : a.ok) (hn : n.ok) : Calls Tryd.prog 3 #[.agg #[.int .u64 a.id.hi, .int .u64 a.id.lo, .int .u64 a.dp.hi, .int .u64 a.dp.lo, .int .u64 a.dq.hi, .int .u64 a.dq.lo, .int .u64 a.cp.hi, .int .u64 a.cp.lo, .int .u64 a.cq.hi, .int .u64 a.cq.lo, .int .i64 a.ledger, .int .i64 a.code, .int .i64 a.flags, .int .i64 a.stamp], .agg #[.int .u64 n.hi, .int .u64 n.lo], .bool false, .bool pn] w fun e w' => e = .returned (.bool true) ∧ Fr (fun _ => False) w w' := by
  have HM := Lib.hid hm
  have Ba := Lib.hid (blk_alloc (heap_alloc_new w (.cells #[.int .u64 a.id.hi, .int .u64 a.id.lo, .int .u64 a.dp.hi, .int .u64 a.dp.lo, .int .u64 a.dq.hi, .int .u64 a.dq.lo, .int .u64 a.cp.hi, .int .u64 a.cp.lo, .int .u64 a.cq.hi, .int .u64 a.cq.lo, .int .i64 a.ledger, .int .i64 a.code, .int .i64 a.flags, .int .i64 a.stamp] 26)) (.cells #[.int .u64 n.hi, .int .u64 n.lo] 24))
  have Bn := Lib.hid (blk1 w (.cells #[.int .u64 a.id.hi, .int .u64 a.id.lo, .int .u64 a.dp.hi, .int .u64 a.dp.lo, .int .u64 a.dq.hi, .int .u64 a.dq.lo, .int .u64 a.cp.hi, .int .u64 a.cp.lo, .int .u64 a.cq.hi, .int .u64 a.cq.lo, .int .i64 a.ledger, .int .i64 a.code, .int .i64 a.flags, .int .i64 a.stamp] 26) (.cells #[.int .u64 n.hi, .int .u64 n.lo] 24))
  have F0 := Lib.hid (((Fr.refl (fun _ => False) w).alloc (.cells #[.int .u64 a.id.hi, .int .u64 a.id.lo, .int .u64 a.dp.hi, .int .u64 a.dp.lo, .int .u64 a.dq.hi, .int .u64 a.dq.lo, .int .u64 a.cp.hi, .int .u64 a.cp.lo, .int .u64 a.cq.hi, .int .u64 a.cq.lo, .int .i64 a.ledger, .int .i64 a.code, .int .i64 a.flags, .int .i64 a.stamp] 26)).alloc (.cells #[.int .u64 n.hi, .int .u64 n.lo] 24))
  have HA := Lib.hid ha
  have HN := Lib.hid hn
  have hq := moreR_have a false
  obtain ⟨hv, hhv⟩ : ∃ h, haveN a false = h := ⟨_, rfl⟩
  rw [hhv] at hq
  have HHv := Lib.hid hhv
  have Hok := Lib.hid (show hv.ok from by rw [← hhv]; exact haveN_ok ha)
  obtain ⟨V, hV⟩ : ∃ V, moreA a false n pn = V := ⟨_, rfl⟩
  obtain ⟨R, hR⟩ : ∃ V, moreR a false n = V := ⟨_, rfl⟩
  obtain ⟨V2, hV2⟩ : ∃ V, moreA a false hv pn = V := ⟨_, rfl⟩
  obtain ⟨R2, hR2⟩ : ∃ V, moreR a false hv = V := ⟨_, rfl⟩
  rw [hR2] at hq
  obtain ⟨hq3, hq4⟩ := hq
  have HX := Lib.hid (show ∀ W, Most W → Calls Tryd.prog 10 #[.agg #[.int .u64 a.id.hi, .int .u64 a.id.lo, .int .u64 a.dp.hi, .int .u64 a.dp.lo, .int .u64 a.dq.hi, .int .u64 a.dq.lo, .int .u64 a.cp.hi, .int .u64 a.cp.lo, .int .u64 a.cq.hi, .int .u64 a.cq.lo, .int .i64 a.ledger, .int .i64 a.code, .int .i64 a.flags, .int .i64 a.stamp], .agg #[.int .u64 n.hi, .int .u64 n.lo], .bool pn] W fun e w' => e = .returned (.tuple #[.agg #[.int .u64 V.id.hi, .int .u64 V.id.lo, .int .u64 V.dp.hi, .int .u64 V.dp.lo, .int .u64 V.dq.hi, .int .u64 V.dq.lo, .int .u64 V.cp.hi, .int .u64 V.cp.lo, .int .u64 V.cq.hi, .int .u64 V.cq.lo, .int .i64 V.ledger, .int .i64 V.code, .int .i64 V.flags, .int .i64 V.stamp], .int .i64 R]) ∧ Fr (fun _ => False) W w' from fun W m => by have h := Credit_any W a n pn ha hn m; rw [hV, hR] at h; exact h)
  have HX2 := Lib.hid (show ∀ W, Most W → Calls Tryd.prog 10 #[.agg #[.int .u64 a.id.hi, .int .u64 a.id.lo, .int .u64 a.dp.hi, .int .u64 a.dp.lo, .int .u64 a.dq.hi, .int .u64 a.dq.lo, .int .u64 a.cp.hi, .int .u64 a.cp.lo, .int .u64 a.cq.hi, .int .u64 a.cq.lo, .int .i64 a.ledger, .int .i64 a.code, .int .i64 a.flags, .int .i64 a.stamp], .agg #[.int .u64 hv.hi, .int .u64 hv.lo], .bool pn] W fun e w' => e = .returned (.tuple #[.agg #[.int .u64 V2.id.hi, .int .u64 V2.id.lo, .int .u64 V2.dp.hi, .int .u64 V2.dp.lo, .int .u64 V2.dq.hi, .int .u64 V2.dq.lo, .int .u64 V2.cp.hi, .int .u64 V2.cp.lo, .int .u64 V2.cq.hi, .int .u64 V2.cq.lo, .int .i64 V2.ledger, .int .i64 V2.code, .int .i64 V2.flags, .int .i64 V2.stamp], .int .i64 R2]) ∧ Fr (fun _ => False) W w' from fun W m => by have h := Credit_any W a hv pn ha Hok.out m; rw [hV2, hR2] at h; exact h)
  have HRf := Lib.hid (show ∀ W, Calls Tryd.prog 12 #[.agg #[.int .u64 a.id.hi, .int .u64 a.id.lo, .int .u64 a.dp.hi, .int .u64 a.dp.lo, .int .u64 a.dq.hi, .int .u64 a.dq.lo, .int .u64 a.cp.hi, .int .u64 a.cp.lo, .int .u64 a.cq.hi, .int .u64 a.cq.lo, .int .i64 a.ledger, .int .i64 a.code, .int .i64 a.flags, .int .i64 a.stamp], .bool false, .agg #[.int .u64 n.hi, .int .u64 n.lo], .bool pn] W fun e w' => e = .returned (.tuple #[.agg #[.int .u64 V.id.hi, .int .u64 V.id.lo, .int .u64 V.dp.hi, .int .u64 V.dp.lo, .int .u64 V.dq.hi, .int .u64 V.dq.lo, .int .u64 V.cp.hi, .int .u64 V.cp.lo, .int .u64 V.cq.hi, .int .u64 V.cq.lo, .int .i64 V.ledger, .int .i64 V.code, .int .i64 V.flags, .int .i64 V.stamp], .int .i64 R]) ∧ Fr (fun _ => False) W w' from fun W => by have h := moreF_any W a n pn ha hn; rw [hV, hR] at h; exact h)
  have HRf2 := Lib.hid (show ∀ W, Calls Tryd.prog 12 #[.agg #[.int .u64 a.id.hi, .int .u64 a.id.lo, .int .u64 a.dp.hi, .int .u64 a.dp.lo, .int .u64 a.dq.hi, .int .u64 a.dq.lo, .int .u64 a.cp.hi, .int .u64 a.cp.lo, .int .u64 a.cq.hi, .int .u64 a.cq.lo, .int .i64 a.ledger, .int .i64 a.code, .int .i64 a.flags, .int .i64 a.stamp], .bool false, .agg #[.int .u64 hv.hi, .int .u64 hv.lo], .bool pn] W fun e w' => e = .returned (.tuple #[.agg #[.int .u64 V2.id.hi, .int .u64 V2.id.lo, .int .u64 V2.dp.hi, .int .u64 V2.dp.lo, .int .u64 V2.dq.hi, .int .u64 V2.dq.lo, .int .u64 V2.cp.hi, .int .u64 V2.cp.lo, .int .u64 V2.cq.hi, .int .u64 V2.cq.lo, .int .i64 V2.ledger, .int .i64 V2.code, .int .i64 V2.flags, .int .i64 V2.stamp], .int .i64 R2]) ∧ Fr (fun _ => False) W w' from fun W => by have h := moreF_any W a hv pn ha Hok.out; rw [hV2, hR2] at h; exact h)
  have HHa := Lib.hid (show ∀ W, Most W → Calls Tryd.prog 13 #[.agg #[.int .u64 a.id.hi, .int .u64 a.id.lo, .int .u64 a.dp.hi, .int .u64 a.dp.lo, .int .u64 a.dq.hi, .int .u64 a.dq.lo, .int .u64 a.cp.hi, .int .u64 a.cp.lo, .int .u64 a.cq.hi, .int .u64 a.cq.lo, .int .i64 a.ledger, .int .i64 a.code, .int .i64 a.flags, .int .i64 a.stamp], .bool false] W fun e w' => e = .returned (.agg #[.int .u64 hv.hi, .int .u64 hv.lo]) ∧ Fr (fun _ => False) W w' from fun W m => by have h := have_any W a false ha m; rw [hhv] at h; exact h)
  have HRh := Lib.hid (show ∀ W, Calls Tryd.prog 14 #[.agg #[.int .u64 a.id.hi, .int .u64 a.id.lo, .int .u64 a.dp.hi, .int .u64 a.dp.lo, .int .u64 a.dq.hi, .int .u64 a.dq.lo, .int .u64 a.cp.hi, .int .u64 a.cp.lo, .int .u64 a.cq.hi, .int .u64 a.cq.lo, .int .i64 a.ledger, .int .i64 a.code, .int .i64 a.flags, .int .i64 a.stamp], .bool false] W fun e w' => e = .returned (.agg #[.int .u64 hv.hi, .int .u64 hv.lo]) ∧ Fr (fun _ => False) W w' from fun W => by have h := refHave_any W a false ha; rw [hhv] at h; exact h)
  clear hm ha hn hhv hV hR hV2 hR2
  have heA := eqm_Acc
  have heN := eqm_Num
  go_enter Tryd.func3, Tryd.ntmps3
  go_wp2_with fail
  refine (alive15_any _ (HM.out.fr F0.out (fun h => h))).mono ?_
  rintro e w1 ⟨rfl, f1⟩
  have F1 := Lib.hid (F0.out.then_ f1 (fun _ h => h.elim))
  have Ba1 := Lib.hid (f1.blk Ba.out (fun h => h))
  have Bn1 := Lib.hid (f1.blk Bn.out (fun h => h))
  have qa := ld_row (P := Tryd.prog) w.heap.size #[.int .u64 a.id.hi, .int .u64 a.id.lo, .int .u64 a.dp.hi, .int .u64 a.dp.lo, .int .u64 a.dq.hi, .int .u64 a.dq.lo, .int .u64 a.cp.hi, .int .u64 a.cp.lo, .int .u64 a.cq.hi, .int .u64 a.cq.lo, .int .i64 a.ledger, .int .i64 a.code, .int .i64 a.flags, .int .i64 a.stamp] (n := 14) rfl Ba1.out
  have qn := ld_row (P := Tryd.prog) (w.heap.size + 1) #[.int .u64 n.hi, .int .u64 n.lo] (n := 2) rfl Bn1.out
  clear f1
  go_wp2_with fail
  skip
  refine (HX.out _ (HM.out.fr F1.out (fun h => h))).mono ?_
  rintro e w2 ⟨rfl, f2⟩
  have HZ := Lib.hid (show w.heap.size + 2 ≤ w2.heap.size from by have h1 := blk_lt Bn1.out; have h2 := f2.size; omega)
  have F2 := Lib.hid ((F1.out.then_ f2 (fun _ h => h.elim)).alloc (.cells #[.int .u64 V.id.hi, .int .u64 V.id.lo, .int .u64 V.dp.hi, .int .u64 V.dp.lo, .int .u64 V.dq.hi, .int .u64 V.dq.lo, .int .u64 V.cp.hi, .int .u64 V.cp.lo, .int .u64 V.cq.hi, .int .u64 V.cq.lo, .int .i64 V.ledger, .int .i64 V.code, .int .i64 V.flags, .int .i64 V.stamp] 26))
  have Ba_2 := Lib.hid (blk_alloc (f2.blk Ba1.out (fun h => h)) (.cells #[.int .u64 V.id.hi, .int .u64 V.id.lo, .int .u64 V.dp.hi, .int .u64 V.dp.lo, .int .u64 V.dq.hi, .int .u64 V.dq.lo, .int .u64 V.cp.hi, .int .u64 V.cp.lo, .int .u64 V.cq.hi, .int .u64 V.cq.lo, .int .i64 V.ledger, .int .i64 V.code, .int .i64 V.flags, .int .i64 V.stamp] 26))
  have Bn_2 := Lib.hid (blk_alloc (f2.blk Bn1.out (fun h => h)) (.cells #[.int .u64 V.id.hi, .int .u64 V.id.lo, .int .u64 V.dp.hi, .int .u64 V.dp.lo, .int .u64 V.dq.hi, .int .u64 V.dq.lo, .int .u64 V.cp.hi, .int .u64 V.cp.lo, .int .u64 V.cq.hi, .int .u64 V.cq.lo, .int .i64 V.ledger, .int .i64 V.code, .int .i64 V.flags, .int .i64 V.stamp] 26))
  have Bp_2 := Lib.hid (heap_alloc_new w2 (.cells #[.int .u64 V.id.hi, .int .u64 V.id.lo, .int .u64 V.dp.hi, .int .u64 V.dp.lo, .int .u64 V.dq.hi, .int .u64 V.dq.lo, .int .u64 V.cp.hi, .int .u64 V.cp.lo, .int .u64 V.cq.hi, .int .u64 V.cq.lo, .int .i64 V.ledger, .int .i64 V.code, .int .i64 V.flags, .int .i64 V.stamp] 26))
  have qa_3 := ld_row (P := Tryd.prog) w.heap.size #[.int .u64 a.id.hi, .int .u64 a.id.lo, .int .u64 a.dp.hi, .int .u64 a.dp.lo, .int .u64 a.dq.hi, .int .u64 a.dq.lo, .int .u64 a.cp.hi, .int .u64 a.cp.lo, .int .u64 a.cq.hi, .int .u64 a.cq.lo, .int .i64 a.ledger, .int .i64 a.code, .int .i64 a.flags, .int .i64 a.stamp] (n := 14) rfl Ba_2.out
  have qn_3 := ld_row (P := Tryd.prog) (w.heap.size + 1) #[.int .u64 n.hi, .int .u64 n.lo] (n := 2) rfl Bn_2.out
  have qp_3 := ld_row (P := Tryd.prog) (w2.heap.size) #[.int .u64 V.id.hi, .int .u64 V.id.lo, .int .u64 V.dp.hi, .int .u64 V.dp.lo, .int .u64 V.dq.hi, .int .u64 V.dq.lo, .int .u64 V.cp.hi, .int .u64 V.cp.lo, .int .u64 V.cq.hi, .int .u64 V.cq.lo, .int .i64 V.ledger, .int .i64 V.code, .int .i64 V.flags, .int .i64 V.stamp] (n := 14) rfl Bp_2.out
  clear f2
  have HLtp := HZ
  go_wp2_with fail
  refine (HRf.out _).mono ?_
  rintro e w4 ⟨rfl, f4⟩
  have F4 := Lib.hid ((F2.out.then_ f4 (fun _ h => h.elim)).alloc (.cells #[.int .u64 V.id.hi, .int .u64 V.id.lo, .int .u64 V.dp.hi, .int .u64 V.dp.lo, .int .u64 V.dq.hi, .int .u64 V.dq.lo, .int .u64 V.cp.hi, .int .u64 V.cp.lo, .int .u64 V.cq.hi, .int .u64 V.cq.lo, .int .i64 V.ledger, .int .i64 V.code, .int .i64 V.flags, .int .i64 V.stamp] 26))
  have Ba_4 := Lib.hid (blk_alloc (f4.blk Ba_2.out (fun h => h)) (.cells #[.int .u64 V.id.hi, .int .u64 V.id.lo, .int .u64 V.dp.hi, .int .u64 V.dp.lo, .int .u64 V.dq.hi, .int .u64 V.dq.lo, .int .u64 V.cp.hi, .int .u64 V.cp.lo, .int .u64 V.cq.hi, .int .u64 V.cq.lo, .int .i64 V.ledger, .int .i64 V.code, .int .i64 V.flags, .int .i64 V.stamp] 26))
  have Bn_4 := Lib.hid (blk_alloc (f4.blk Bn_2.out (fun h => h)) (.cells #[.int .u64 V.id.hi, .int .u64 V.id.lo, .int .u64 V.dp.hi, .int .u64 V.dp.lo, .int .u64 V.dq.hi, .int .u64 V.dq.lo, .int .u64 V.cp.hi, .int .u64 V.cp.lo, .int .u64 V.cq.hi, .int .u64 V.cq.lo, .int .i64 V.ledger, .int .i64 V.code, .int .i64 V.flags, .int .i64 V.stamp] 26))
  have Bp_4 := Lib.hid (blk_alloc (f4.blk Bp_2.out (fun h => h)) (.cells #[.int .u64 V.id.hi, .int .u64 V.id.lo, .int .u64 V.dp.hi, .int .u64 V.dp.lo, .int .u64 V.dq.hi, .int .u64 V.dq.lo, .int .u64 V.cp.hi, .int .u64 V.cp.lo, .int .u64 V.cq.hi, .int .u64 V.cq.lo, .int .i64 V.ledger, .int .i64 V.code, .int .i64 V.flags, .int .i64 V.stamp] 26))
  have Bq_4 := Lib.hid (heap_alloc_new w4 (.cells #[.int .u64 V.id.hi, .int .u64 V.id.lo, .int .u64 V.dp.hi, .int .u64 V.dp.lo, .int .u64 V.dq.hi, .int .u64 V.dq.lo, .int .u64 V.cp.hi, .int .u64 V.cp.lo, .int .u64 V.cq.hi, .int .u64 V.cq.lo, .int .i64 V.ledger, .int .i64 V.code, .int .i64 V.flags, .int .i64 V.stamp] 26))
  have qa_5 := ld_row (P := Tryd.prog) w.heap.size #[.int .u64 a.id.hi, .int .u64 a.id.lo, .int .u64 a.dp.hi, .int .u64 a.dp.lo, .int .u64 a.dq.hi, .int .u64 a.dq.lo, .int .u64 a.cp.hi, .int .u64 a.cp.lo, .int .u64 a.cq.hi, .int .u64 a.cq.lo, .int .i64 a.ledger, .int .i64 a.code, .int .i64 a.flags, .int .i64 a.stamp] (n := 14) rfl Ba_4.out
  have qn_5 := ld_row (P := Tryd.prog) (w.heap.size + 1) #[.int .u64 n.hi, .int .u64 n.lo] (n := 2) rfl Bn_4.out
  have qp_5 := ld_row (P := Tryd.prog) (w2.heap.size) #[.int .u64 V.id.hi, .int .u64 V.id.lo, .int .u64 V.dp.hi, .int .u64 V.dp.lo, .int .u64 V.dq.hi, .int .u64 V.dq.lo, .int .u64 V.cp.hi, .int .u64 V.cp.lo, .int .u64 V.cq.hi, .int .u64 V.cq.lo, .int .i64 V.ledger, .int .i64 V.code, .int .i64 V.flags, .int .i64 V.stamp] (n := 14) rfl Bp_4.out
  have qq_5 := ld_row (P := Tryd.prog) (w4.heap.size) #[.int .u64 V.id.hi, .int .u64 V.id.lo, .int .u64 V.dp.hi, .int .u64 V.dp.lo, .int .u64 V.dq.hi, .int .u64 V.dq.lo, .int .u64 V.cp.hi, .int .u64 V.cp.lo, .int .u64 V.cq.hi, .int .u64 V.cq.lo, .int .i64 V.ledger, .int .i64 V.code, .int .i64 V.flags, .int .i64 V.stamp] (n := 14) rfl Bq_4.out
  clear f4
  go_upto_region 7 with fail
  go_region_held3 (fun w' => (loadCells ⟨w.heap.size, 0, none⟩ 14).run Tryd.prog w' = .ok #[Value.int .u64 a.id.hi, Value.int .u64 a.id.lo, Value.int .u64 a.dp.hi, Value.int .u64 a.dp.lo, Value.int .u64 a.dq.hi, Value.int .u64 a.dq.lo, Value.int .u64 a.cp.hi, Value.int .u64 a.cp.lo, Value.int .u64 a.cq.hi, Value.int .u64 a.cq.lo, Value.int .i64 a.ledger, Value.int .i64 a.code, Value.int .i64 a.flags, Value.int .i64 a.stamp] w' ∧ (loadCells ⟨(w2.heap.size), 0, none⟩ 14).run Tryd.prog w' = .ok #[Value.int .u64 V.id.hi, Value.int .u64 V.id.lo, Value.int .u64 V.dp.hi, Value.int .u64 V.dp.lo, Value.int .u64 V.dq.hi, Value.int .u64 V.dq.lo, Value.int .u64 V.cp.hi, Value.int .u64 V.cp.lo, Value.int .u64 V.cq.hi, Value.int .u64 V.cq.lo, Value.int .i64 V.ledger, Value.int .i64 V.code, Value.int .i64 V.flags, Value.int .i64 V.stamp] w' ∧ (loadCells ⟨(w4.heap.size), 0, none⟩ 14).run Tryd.prog w' = .ok #[Value.int .u64 V.id.hi, Value.int .u64 V.id.lo, Value.int .u64 V.dp.hi, Value.int .u64 V.dp.lo, Value.int .u64 V.dq.hi, Value.int .u64 V.dq.lo, Value.int .u64 V.cp.hi, Value.int .u64 V.cp.lo, Value.int .u64 V.cq.hi, Value.int .u64 V.cq.lo, Value.int .i64 V.ledger, Value.int .i64 V.code, Value.int .i64 V.flags, Value.int .i64 V.stamp] w')
    (first | exact ⟨ld_row _ _ rfl Ba_4.out, ld_row _ _ rfl Bp_4.out, ld_row _ _ rfl Bq_4.out⟩ | exact ⟨ld_row _ _ rfl Xa.out, ld_row _ _ rfl Xp.out, ld_row _ _ rfl Xq.out⟩ | exact ⟨ld_row _ _ rfl Ya.out, ld_row _ _ rfl Yp.out, ld_row _ _ rfl Yq.out⟩ | exact ⟨ld_row _ _ rfl (blk_drew Ba_4.out), ld_row _ _ rfl (blk_drew Bp_4.out), ld_row _ _ rfl (blk_drew Bq_4.out)⟩ | go_keep)
    (first | (go_at_call 13; (with_reducible refine (HHa.out _ (HM.out.fr F4.out.drew (fun h => h))).mono ?_); rintro e w6 ⟨rfl, f6⟩; have Xa := Lib.hid (f6.blk (blk_drew Ba_4.out) (fun h => h)); have Xn := Lib.hid (f6.blk (blk_drew Bn_4.out) (fun h => h)); have Xp := Lib.hid (f6.blk (blk_drew Bp_4.out) (fun h => h)); have Xq := Lib.hid (f6.blk (blk_drew Bq_4.out) (fun h => h)); have FX := Lib.hid (F4.out.drew.then_ f6 (fun _ h => h.elim)); clear f6) | (go_at_call 14; (with_reducible refine (HRh.out _).mono ?_); rintro e w7 ⟨rfl, f7⟩; have Ya := Lib.hid (f7.blk Xa.out (fun h => h)); have Yn := Lib.hid (f7.blk Xn.out (fun h => h)); have Yp := Lib.hid (f7.blk Xp.out (fun h => h)); have Yq := Lib.hid (f7.blk Xq.out (fun h => h)); have FY := Lib.hid (FX.out.then_ f7 (fun _ h => h.elim)); clear f7))
  have qa_8 := ld_row (P := Tryd.prog) w.heap.size #[.int .u64 a.id.hi, .int .u64 a.id.lo, .int .u64 a.dp.hi, .int .u64 a.dp.lo, .int .u64 a.dq.hi, .int .u64 a.dq.lo, .int .u64 a.cp.hi, .int .u64 a.cp.lo, .int .u64 a.cq.hi, .int .u64 a.cq.lo, .int .i64 a.ledger, .int .i64 a.code, .int .i64 a.flags, .int .i64 a.stamp] (n := 14) rfl Ya.out
  have qn_8 := ld_row (P := Tryd.prog) (w.heap.size + 1) #[.int .u64 n.hi, .int .u64 n.lo] (n := 2) rfl Yn.out
  have qp_8 := ld_row (P := Tryd.prog) (w2.heap.size) #[.int .u64 V.id.hi, .int .u64 V.id.lo, .int .u64 V.dp.hi, .int .u64 V.dp.lo, .int .u64 V.dq.hi, .int .u64 V.dq.lo, .int .u64 V.cp.hi, .int .u64 V.cp.lo, .int .u64 V.cq.hi, .int .u64 V.cq.lo, .int .i64 V.ledger, .int .i64 V.code, .int .i64 V.flags, .int .i64 V.stamp] (n := 14) rfl Yp.out
  have qq_8 := ld_row (P := Tryd.prog) (w4.heap.size) #[.int .u64 V.id.hi, .int .u64 V.id.lo, .int .u64 V.dp.hi, .int .u64 V.dp.lo, .int .u64 V.dq.hi, .int .u64 V.dq.lo, .int .u64 V.cp.hi, .int .u64 V.cp.lo, .int .u64 V.cq.hi, .int .u64 V.cq.lo, .int .i64 V.ledger, .int .i64 V.code, .int .i64 V.flags, .int .i64 V.stamp] (n := 14) rfl Yq.out
  go_wp2_with fail
  refine (HHa.out _ (HM.out.fr FY.out (fun h => h))).mono ?_
  rintro e w9 ⟨rfl, f9⟩
  have F9 := Lib.hid ((FY.out.then_ f9 (fun _ h => h.elim)).alloc (.cells #[.int .u64 hv.hi, .int .u64 hv.lo] 24))
  have Ba_9 := Lib.hid (blk_alloc (f9.blk Ya.out (fun h => h)) (.cells #[.int .u64 hv.hi, .int .u64 hv.lo] 24))
  have Bn_9 := Lib.hid (blk_alloc (f9.blk Yn.out (fun h => h)) (.cells #[.int .u64 hv.hi, .int .u64 hv.lo] 24))
  have Bp_9 := Lib.hid (blk_alloc (f9.blk Yp.out (fun h => h)) (.cells #[.int .u64 hv.hi, .int .u64 hv.lo] 24))
  have Bq_9 := Lib.hid (blk_alloc (f9.blk Yq.out (fun h => h)) (.cells #[.int .u64 hv.hi, .int .u64 hv.lo] 24))
  have Bh_9 := Lib.hid (heap_alloc_new w9 (.cells #[.int .u64 hv.hi, .int .u64 hv.lo] 24))
  have qa_10 := ld_row (P := Tryd.prog) w.heap.size #[.int .u64 a.id.hi, .int .u64 a.id.lo, .int .u64 a.dp.hi, .int .u64 a.dp.lo, .int .u64 a.dq.hi, .int .u64 a.dq.lo, .int .u64 a.cp.hi, .int .u64 a.cp.lo, .int .u64 a.cq.hi, .int .u64 a.cq.lo, .int .i64 a.ledger, .int .i64 a.code, .int .i64 a.flags, .int .i64 a.stamp] (n := 14) rfl Ba_9.out
  have qn_10 := ld_row (P := Tryd.prog) (w.heap.size + 1) #[.int .u64 n.hi, .int .u64 n.lo] (n := 2) rfl Bn_9.out
  have qp_10 := ld_row (P := Tryd.prog) (w2.heap.size) #[.int .u64 V.id.hi, .int .u64 V.id.lo, .int .u64 V.dp.hi, .int .u64 V.dp.lo, .int .u64 V.dq.hi, .int .u64 V.dq.lo, .int .u64 V.cp.hi, .int .u64 V.cp.lo, .int .u64 V.cq.hi, .int .u64 V.cq.lo, .int .i64 V.ledger, .int .i64 V.code, .int .i64 V.flags, .int .i64 V.stamp] (n := 14) rfl Bp_9.out
  have qq_10 := ld_row (P := Tryd.prog) (w4.heap.size) #[.int .u64 V.id.hi, .int .u64 V.id.lo, .int .u64 V.dp.hi, .int .u64 V.dp.lo, .int .u64 V.dq.hi, .int .u64 V.dq.lo, .int .u64 V.cp.hi, .int .u64 V.cp.lo, .int .u64 V.cq.hi, .int .u64 V.cq.lo, .int .i64 V.ledger, .int .i64 V.code, .int .i64 V.flags, .int .i64 V.stamp] (n := 14) rfl Bq_9.out
  have qh_10 := ld_row (P := Tryd.prog) (w9.heap.size) #[.int .u64 hv.hi, .int .u64 hv.lo] (n := 2) rfl Bh_9.out
  clear f9
  go_wp2_with fail
  refine (HX2.out _ (HM.out.fr F9.out (fun h => h))).mono ?_
  rintro e w11 ⟨rfl, f11⟩
  have HZ2 := Lib.hid (show w.heap.size + 2 ≤ w11.heap.size ∧ (w2.heap.size) < w11.heap.size ∧ (w4.heap.size) < w11.heap.size ∧ (w9.heap.size) < w11.heap.size from by have h1 := blk_lt Bp_9.out; have h2 := f11.size; have h3 := blk_lt Bq_9.out; have h4 := blk_lt Bh_9.out; have h5 := HZ.out; exact ⟨by omega, by omega, by omega, by omega⟩)
  have F11 := Lib.hid ((F9.out.then_ f11 (fun _ h => h.elim)).alloc (.cells #[.int .u64 V2.id.hi, .int .u64 V2.id.lo, .int .u64 V2.dp.hi, .int .u64 V2.dp.lo, .int .u64 V2.dq.hi, .int .u64 V2.dq.lo, .int .u64 V2.cp.hi, .int .u64 V2.cp.lo, .int .u64 V2.cq.hi, .int .u64 V2.cq.lo, .int .i64 V2.ledger, .int .i64 V2.code, .int .i64 V2.flags, .int .i64 V2.stamp] 26))
  have Ba_11 := Lib.hid (blk_alloc (f11.blk Ba_9.out (fun h => h)) (.cells #[.int .u64 V2.id.hi, .int .u64 V2.id.lo, .int .u64 V2.dp.hi, .int .u64 V2.dp.lo, .int .u64 V2.dq.hi, .int .u64 V2.dq.lo, .int .u64 V2.cp.hi, .int .u64 V2.cp.lo, .int .u64 V2.cq.hi, .int .u64 V2.cq.lo, .int .i64 V2.ledger, .int .i64 V2.code, .int .i64 V2.flags, .int .i64 V2.stamp] 26))
  have Bn_11 := Lib.hid (blk_alloc (f11.blk Bn_9.out (fun h => h)) (.cells #[.int .u64 V2.id.hi, .int .u64 V2.id.lo, .int .u64 V2.dp.hi, .int .u64 V2.dp.lo, .int .u64 V2.dq.hi, .int .u64 V2.dq.lo, .int .u64 V2.cp.hi, .int .u64 V2.cp.lo, .int .u64 V2.cq.hi, .int .u64 V2.cq.lo, .int .i64 V2.ledger, .int .i64 V2.code, .int .i64 V2.flags, .int .i64 V2.stamp] 26))
  have Bp_11 := Lib.hid (blk_alloc (f11.blk Bp_9.out (fun h => h)) (.cells #[.int .u64 V2.id.hi, .int .u64 V2.id.lo, .int .u64 V2.dp.hi, .int .u64 V2.dp.lo, .int .u64 V2.dq.hi, .int .u64 V2.dq.lo, .int .u64 V2.cp.hi, .int .u64 V2.cp.lo, .int .u64 V2.cq.hi, .int .u64 V2.cq.lo, .int .i64 V2.ledger, .int .i64 V2.code, .int .i64 V2.flags, .int .i64 V2.stamp] 26))
  have Bq_11 := Lib.hid (blk_alloc (f11.blk Bq_9.out (fun h => h)) (.cells #[.int .u64 V2.id.hi, .int .u64 V2.id.lo, .int .u64 V2.dp.hi, .int .u64 V2.dp.lo, .int .u64 V2.dq.hi, .int .u64 V2.dq.lo, .int .u64 V2.cp.hi, .int .u64 V2.cp.lo, .int .u64 V2.cq.hi, .int .u64 V2.cq.lo, .int .i64 V2.ledger, .int .i64 V2.code, .int .i64 V2.flags, .int .i64 V2.stamp] 26))
  have Bh_11 := Lib.hid (blk_alloc (f11.blk Bh_9.out (fun h => h)) (.cells #[.int .u64 V2.id.hi, .int .u64 V2.id.lo, .int .u64 V2.dp.hi, .int .u64 V2.dp.lo, .int .u64 V2.dq.hi, .int .u64 V2.dq.lo, .int .u64 V2.cp.hi, .int .u64 V2.cp.lo, .int .u64 V2.cq.hi, .int .u64 V2.cq.lo, .int .i64 V2.ledger, .int .i64 V2.code, .int .i64 V2.flags, .int .i64 V2.stamp] 26))
  have Bs_11 := Lib.hid (heap_alloc_new w11 (.cells #[.int .u64 V2.id.hi, .int .u64 V2.id.lo, .int .u64 V2.dp.hi, .int .u64 V2.dp.lo, .int .u64 V2.dq.hi, .int .u64 V2.dq.lo, .int .u64 V2.cp.hi, .int .u64 V2.cp.lo, .int .u64 V2.cq.hi, .int .u64 V2.cq.lo, .int .i64 V2.ledger, .int .i64 V2.code, .int .i64 V2.flags, .int .i64 V2.stamp] 26))
  have qa_12 := ld_row (P := Tryd.prog) w.heap.size #[.int .u64 a.id.hi, .int .u64 a.id.lo, .int .u64 a.dp.hi, .int .u64 a.dp.lo, .int .u64 a.dq.hi, .int .u64 a.dq.lo, .int .u64 a.cp.hi, .int .u64 a.cp.lo, .int .u64 a.cq.hi, .int .u64 a.cq.lo, .int .i64 a.ledger, .int .i64 a.code, .int .i64 a.flags, .int .i64 a.stamp] (n := 14) rfl Ba_11.out
  have qn_12 := ld_row (P := Tryd.prog) (w.heap.size + 1) #[.int .u64 n.hi, .int .u64 n.lo] (n := 2) rfl Bn_11.out
  have qp_12 := ld_row (P := Tryd.prog) (w2.heap.size) #[.int .u64 V.id.hi, .int .u64 V.id.lo, .int .u64 V.dp.hi, .int .u64 V.dp.lo, .int .u64 V.dq.hi, .int .u64 V.dq.lo, .int .u64 V.cp.hi, .int .u64 V.cp.lo, .int .u64 V.cq.hi, .int .u64 V.cq.lo, .int .i64 V.ledger, .int .i64 V.code, .int .i64 V.flags, .int .i64 V.stamp] (n := 14) rfl Bp_11.out
  have qq_12 := ld_row (P := Tryd.prog) (w4.heap.size) #[.int .u64 V.id.hi, .int .u64 V.id.lo, .int .u64 V.dp.hi, .int .u64 V.dp.lo, .int .u64 V.dq.hi, .int .u64 V.dq.lo, .int .u64 V.cp.hi, .int .u64 V.cp.lo, .int .u64 V.cq.hi, .int .u64 V.cq.lo, .int .i64 V.ledger, .int .i64 V.code, .int .i64 V.flags, .int .i64 V.stamp] (n := 14) rfl Bq_11.out
  have qh_12 := ld_row (P := Tryd.prog) (w9.heap.size) #[.int .u64 hv.hi, .int .u64 hv.lo] (n := 2) rfl Bh_11.out
  have qs_12 := ld_row (P := Tryd.prog) (w11.heap.size) #[.int .u64 V2.id.hi, .int .u64 V2.id.lo, .int .u64 V2.dp.hi, .int .u64 V2.dp.lo, .int .u64 V2.dq.hi, .int .u64 V2.dq.lo, .int .u64 V2.cp.hi, .int .u64 V2.cp.lo, .int .u64 V2.cq.hi, .int .u64 V2.cq.lo, .int .i64 V2.ledger, .int .i64 V2.code, .int .i64 V2.flags, .int .i64 V2.stamp] (n := 14) rfl Bs_11.out
  clear f11
  have HLts := HZ2
  go_wp2_with fail
  refine (HRf2.out _).mono ?_
  rintro e w13 ⟨rfl, f13⟩
  have F13 := Lib.hid ((F11.out.then_ f13 (fun _ h => h.elim)).alloc (.cells #[.int .u64 V2.id.hi, .int .u64 V2.id.lo, .int .u64 V2.dp.hi, .int .u64 V2.dp.lo, .int .u64 V2.dq.hi, .int .u64 V2.dq.lo, .int .u64 V2.cp.hi, .int .u64 V2.cp.lo, .int .u64 V2.cq.hi, .int .u64 V2.cq.lo, .int .i64 V2.ledger, .int .i64 V2.code, .int .i64 V2.flags, .int .i64 V2.stamp] 26))
  have Ba_13 := Lib.hid (blk_alloc (f13.blk Ba_11.out (fun h => h)) (.cells #[.int .u64 V2.id.hi, .int .u64 V2.id.lo, .int .u64 V2.dp.hi, .int .u64 V2.dp.lo, .int .u64 V2.dq.hi, .int .u64 V2.dq.lo, .int .u64 V2.cp.hi, .int .u64 V2.cp.lo, .int .u64 V2.cq.hi, .int .u64 V2.cq.lo, .int .i64 V2.ledger, .int .i64 V2.code, .int .i64 V2.flags, .int .i64 V2.stamp] 26))
  have Bn_13 := Lib.hid (blk_alloc (f13.blk Bn_11.out (fun h => h)) (.cells #[.int .u64 V2.id.hi, .int .u64 V2.id.lo, .int .u64 V2.dp.hi, .int .u64 V2.dp.lo, .int .u64 V2.dq.hi, .int .u64 V2.dq.lo, .int .u64 V2.cp.hi, .int .u64 V2.cp.lo, .int .u64 V2.cq.hi, .int .u64 V2.cq.lo, .int .i64 V2.ledger, .int .i64 V2.code, .int .i64 V2.flags, .int .i64 V2.stamp] 26))
  have Bp_13 := Lib.hid (blk_alloc (f13.blk Bp_11.out (fun h => h)) (.cells #[.int .u64 V2.id.hi, .int .u64 V2.id.lo, .int .u64 V2.dp.hi, .int .u64 V2.dp.lo, .int .u64 V2.dq.hi, .int .u64 V2.dq.lo, .int .u64 V2.cp.hi, .int .u64 V2.cp.lo, .int .u64 V2.cq.hi, .int .u64 V2.cq.lo, .int .i64 V2.ledger, .int .i64 V2.code, .int .i64 V2.flags, .int .i64 V2.stamp] 26))
  have Bq_13 := Lib.hid (blk_alloc (f13.blk Bq_11.out (fun h => h)) (.cells #[.int .u64 V2.id.hi, .int .u64 V2.id.lo, .int .u64 V2.dp.hi, .int .u64 V2.dp.lo, .int .u64 V2.dq.hi, .int .u64 V2.dq.lo, .int .u64 V2.cp.hi, .int .u64 V2.cp.lo, .int .u64 V2.cq.hi, .int .u64 V2.cq.lo, .int .i64 V2.ledger, .int .i64 V2.code, .int .i64 V2.flags, .int .i64 V2.stamp] 26))
  have Bh_13 := Lib.hid (blk_alloc (f13.blk Bh_11.out (fun h => h)) (.cells #[.int .u64 V2.id.hi, .int .u64 V2.id.lo, .int .u64 V2.dp.hi, .int .u64 V2.dp.lo, .int .u64 V2.dq.hi, .int .u64 V2.dq.lo, .int .u64 V2.cp.hi, .int .u64 V2.cp.lo, .int .u64 V2.cq.hi, .int .u64 V2.cq.lo, .int .i64 V2.ledger, .int .i64 V2.code, .int .i64 V2.flags, .int .i64 V2.stamp] 26))
  have Bs_13 := Lib.hid (blk_alloc (f13.blk Bs_11.out (fun h => h)) (.cells #[.int .u64 V2.id.hi, .int .u64 V2.id.lo, .int .u64 V2.dp.hi, .int .u64 V2.dp.lo, .int .u64 V2.dq.hi, .int .u64 V2.dq.lo, .int .u64 V2.cp.hi, .int .u64 V2.cp.lo, .int .u64 V2.cq.hi, .int .u64 V2.cq.lo, .int .i64 V2.ledger, .int .i64 V2.code, .int .i64 V2.flags, .int .i64 V2.stamp] 26))
  have Bu_13 := Lib.hid (heap_alloc_new w13 (.cells #[.int .u64 V2.id.hi, .int .u64 V2.id.lo, .int .u64 V2.dp.hi, .int .u64 V2.dp.lo, .int .u64 V2.dq.hi, .int .u64 V2.dq.lo, .int .u64 V2.cp.hi, .int .u64 V2.cp.lo, .int .u64 V2.cq.hi, .int .u64 V2.cq.lo, .int .i64 V2.ledger, .int .i64 V2.code, .int .i64 V2.flags, .int .i64 V2.stamp] 26))
  have qa_14 := ld_row (P := Tryd.prog) w.heap.size #[.int .u64 a.id.hi, .int .u64 a.id.lo, .int .u64 a.dp.hi, .int .u64 a.dp.lo, .int .u64 a.dq.hi, .int .u64 a.dq.lo, .int .u64 a.cp.hi, .int .u64 a.cp.lo, .int .u64 a.cq.hi, .int .u64 a.cq.lo, .int .i64 a.ledger, .int .i64 a.code, .int .i64 a.flags, .int .i64 a.stamp] (n := 14) rfl Ba_13.out
  have qn_14 := ld_row (P := Tryd.prog) (w.heap.size + 1) #[.int .u64 n.hi, .int .u64 n.lo] (n := 2) rfl Bn_13.out
  have qp_14 := ld_row (P := Tryd.prog) (w2.heap.size) #[.int .u64 V.id.hi, .int .u64 V.id.lo, .int .u64 V.dp.hi, .int .u64 V.dp.lo, .int .u64 V.dq.hi, .int .u64 V.dq.lo, .int .u64 V.cp.hi, .int .u64 V.cp.lo, .int .u64 V.cq.hi, .int .u64 V.cq.lo, .int .i64 V.ledger, .int .i64 V.code, .int .i64 V.flags, .int .i64 V.stamp] (n := 14) rfl Bp_13.out
  have qq_14 := ld_row (P := Tryd.prog) (w4.heap.size) #[.int .u64 V.id.hi, .int .u64 V.id.lo, .int .u64 V.dp.hi, .int .u64 V.dp.lo, .int .u64 V.dq.hi, .int .u64 V.dq.lo, .int .u64 V.cp.hi, .int .u64 V.cp.lo, .int .u64 V.cq.hi, .int .u64 V.cq.lo, .int .i64 V.ledger, .int .i64 V.code, .int .i64 V.flags, .int .i64 V.stamp] (n := 14) rfl Bq_13.out
  have qh_14 := ld_row (P := Tryd.prog) (w9.heap.size) #[.int .u64 hv.hi, .int .u64 hv.lo] (n := 2) rfl Bh_13.out
  have qs_14 := ld_row (P := Tryd.prog) (w11.heap.size) #[.int .u64 V2.id.hi, .int .u64 V2.id.lo, .int .u64 V2.dp.hi, .int .u64 V2.dp.lo, .int .u64 V2.dq.hi, .int .u64 V2.dq.lo, .int .u64 V2.cp.hi, .int .u64 V2.cp.lo, .int .u64 V2.cq.hi, .int .u64 V2.cq.lo, .int .i64 V2.ledger, .int .i64 V2.code, .int .i64 V2.flags, .int .i64 V2.stamp] (n := 14) rfl Bs_13.out
  have qu_14 := ld_row (P := Tryd.prog) (w13.heap.size) #[.int .u64 V2.id.hi, .int .u64 V2.id.lo, .int .u64 V2.dp.hi, .int .u64 V2.dp.lo, .int .u64 V2.dq.hi, .int .u64 V2.dq.lo, .int .u64 V2.cp.hi, .int .u64 V2.cp.lo, .int .u64 V2.cq.hi, .int .u64 V2.cq.lo, .int .i64 V2.ledger, .int .i64 V2.code, .int .i64 V2.flags, .int .i64 V2.stamp] (n := 14) rfl Bu_13.out
  clear f13
  go_wp2_with fail
  go_ret
  refine ⟨?_, F13.out⟩
  simp [hq3, hq4]
end Go.Proofs.YtjchjpmgbmeohaaDoor

/- BooksRules: a number as an argument; both sides. -/
set_option linter.unusedSimpArgs false
set_option linter.unusedVariables false
namespace Go.Proofs.YtjchjpmgbmeohaaDoor
open Go.ChangeShapes Go.WideShapes Go.ChangeAt Go.RowKit
set_option maxRecDepth 20000

theorem rules_any (w : World) (a : Acc) (n : Nm) (b pn : Bool) (hm : Most w) (ha : a.ok) (hn : n.ok) : Calls Tryd.prog 3 #[a.val, .agg #[.int .u64 n.hi, .int .u64 n.lo], .bool b, .bool pn] w fun e w' => e = .returned (.bool true) ∧ Fr (fun _ => False) w w' := by
  cases b
  · exact rulesF w a n pn hm ha hn
  · exact rulesT w a n pn hm ha hn
theorem leafs_Num : leafs Tryd.prog 4 24 = some [22, 22] := by kernel_rfl
theorem open_num {H : Type} {enc : TypeId × Value → H} {w : World} {base b0 : Nat} {spare : Nat → Bool} {held : Bool} {r : Go.Reach} {v : Value} {d : DataW H} {p : List MemPlace} (hv : Value.okWide Tryd.prog w r b0 24 v) (h : DataW.Trod enc Tryd.prog w base spare held 24 v d p) (hz : Sz Tryd.prog 24 d) :
    ∃ a : Nm, v = .agg #[.int .u64 a.hi, .int .u64 a.lo] ∧ a.ok := by
  obtain ⟨⟨cs⟩, rfl, hall⟩ := open_agg Tryd.underlying24 leafs_Num (by
    have h : ([22].all fun t => Tryd.prog.cellsOf t == 1) = true := by kernel_rfl
    intro t ht
    have := List.all_eq_true.1 h t (by simp at ht ⊢; omega)
    simpa using this) (by kernel_rfl) hv h hz
  have g : All2 (Leaf enc Tryd.prog w base spare held) _ cs := hall
  clear hall hv h hz
  obtain _ | ⟨l0, g⟩ := g
  obtain _ | ⟨l1, g⟩ := g
  cases g
  obtain ⟨n0, rfl, o0⟩ := l0.u64 Tryd.underlying22
  obtain ⟨n1, rfl, o1⟩ := l1.u64 Tryd.underlying22
  exact ⟨⟨n0, n1⟩, rfl, ⟨o0.1, o0.2, o1.1, o1.2⟩⟩
end Go.Proofs.YtjchjpmgbmeohaaDoor
