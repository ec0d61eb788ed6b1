/- The document's Less and Sub. -/
import Derived.Test.YtjchjpmgbmeohaaDoorBkC
set_option linter.unusedSimpArgs false
set_option linter.unusedVariables false
namespace Go.Proofs.YtjchjpmgbmeohaaDoor
open Go.RowKit

theorem half (v : Int) (i : Nat) : v / 2 ^ i = 2 * (v / 2 ^ (i + 1)) + v / 2 ^ i % 2 := by
  have hp := pow_pos' i
  rw [Int.pow_succ, ← Int.ediv_ediv_of_nonneg (Int.le_of_lt hp)]
  omega
theorem less_high {a b : Nm} {i : Nat} (h : a.v / 2 ^ (i + 1) = b.v / 2 ^ (i + 1)) (hn : nbit a i ≠ nbit b i) : nless a b = decide (nbit a i < nbit b i) := by
  have ha := half a.v i
  have hb := half b.v i
  have hp := pow_pos' i
  unfold nbit at hn ⊢
  have key : a.v < b.v ↔ a.v / 2 ^ i < b.v / 2 ^ i := by
    constructor
    · intro hl
      have := Int.ediv_le_ediv hp (Int.le_of_lt hl)
      omega
    · intro hl
      apply Decidable.byContradiction
      intro hc
      have := Int.ediv_le_ediv hp (Int.not_lt.1 hc)
      omega
  unfold nless
  by_cases hl : a.v < b.v
  · rw [decide_eq_true hl, decide_eq_true (by have := key.1 hl; omega)]
  · rw [decide_eq_false hl, decide_eq_false (by have := fun h => hl (key.2 h); omega)]
theorem less_same {a b : Nm} {i : Nat} (h : a.v / 2 ^ (i + 1) = b.v / 2 ^ (i + 1)) (hn : nbit a i = nbit b i) : a.v / 2 ^ i = b.v / 2 ^ i := by
  have ha := half a.v i
  have hb := half b.v i
  unfold nbit at hn
  omega
theorem pow_128 : (2 : Int) ^ 128 = 340282366920938463463374607431768211456 := by decide +kernel
set_option maxRecDepth 4000 in
set_option maxHeartbeats 3200000 in
theorem refLess_any (w : World) (a b : Nm) (ha : a.ok) (hb : b.ok) :
    Calls Tryd.prog 46 #[.agg #[.int .u64 a.hi, .int .u64 a.lo], .agg #[.int .u64 b.hi, .int .u64 b.lo]] w fun e w' => e = .returned (.bool (nless a b)) ∧ Fr (fun _ => False) w w' := by
  have HOa := Lib.hid ha
  have HOb := Lib.hid hb
  have Ba0 := Lib.hid (blk_alloc (heap_alloc_new w (.cells #[.int .u64 a.hi, .int .u64 a.lo] 24)) (.cells #[.int .u64 b.hi, .int .u64 b.lo] 24))
  have Bb0 := Lib.hid (blk1 w (.cells #[.int .u64 a.hi, .int .u64 a.lo] 24) (.cells #[.int .u64 b.hi, .int .u64 b.lo] 24))
  have FA := Lib.hid (((Fr.refl (fun _ => False) w).alloc (.cells #[.int .u64 a.hi, .int .u64 a.lo] 24)).alloc (.cells #[.int .u64 b.hi, .int .u64 b.lo] 24))
  have h128 : a.v / 2 ^ 128 = b.v / 2 ^ 128 := by
    have h1 := Nm.v_in ha
    have h2 := Nm.v_in hb
    rw [pow_128]
    omega
  have H128 := Lib.hid h128
  obtain ⟨R, hR⟩ : ∃ R, nless a b = R := ⟨_, rfl⟩
  rw [hR]
  have HR := Lib.hid hR
  clear ha hb h128 hR
  go_enter Tryd.func46, Tryd.ntmps46
  go_wp2_with fail
  go_loopw [5] (fun i wr => ∃ k : Nat, k ≤ 128 ∧ i = .int .i64 ((k : Int) - 1) ∧ a.v / 2 ^ k = b.v / 2 ^ k ∧ Fr (fun _ => False) w wr ∧ wr.heap[w.heap.size]? = some (.cells #[.int .u64 a.hi, .int .u64 a.lo] 24 (0, 0)) ∧ wr.heap[w.heap.size + 1]? = some (.cells #[.int .u64 b.hi, .int .u64 b.lo] 24 (0, 0))) (fun i _ => (intOf i + 1).toNat)
  case atStart => exact ⟨128, Nat.le_refl _, rfl, H128.out, FA.out, Ba0.out, Bb0.out⟩
  case round =>
    obtain ⟨k, hk, rfl, heq, hf, hba, hbb⟩ := hrel
    have FR := Lib.hid hf
    have Ba := Lib.hid hba
    have Bb := Lib.hid hbb
    cases k with
    | zero =>
      have HV := Lib.hid (show R = false from by
        rw [← HR.out]
        unfold nless
        simp only [Int.pow_zero, Int.ediv_one] at heq
        exact decide_eq_false (by omega))
      clear heq hf hba hbb
      go_wp2_with fail
      go_ret
      exact ⟨by rw [HV.out]; rfl, FR.out⟩
    | succ k =>
      have e1 : (((k + 1 : Nat) : Int) - 1) = k := by omega
      rw [e1]
      have hk0 : (0 : Int) ≤ k := by omega
      have w1 : IntKind.i64.wrap ((k : Int) - 1) = k - 1 := IntWalk.i64_in _ (by omega)
      have HBa := Lib.hid (fun W => bit_any W a HOa.out k (by omega))
      have HBb := Lib.hid (fun W => bit_any W b HOb.out k (by omega))
      obtain ⟨x, hx⟩ : ∃ x, nbit a k = x := ⟨_, rfl⟩
      obtain ⟨y, hy⟩ : ∃ y, nbit b k = y := ⟨_, rfl⟩
      rw [hx] at HBa
      rw [hy] at HBb
      have x0 := blk_cell Ba.out 0 rfl; have x1 := blk_cell Ba.out 1 rfl; have y0 := blk_cell Bb.out 0 rfl; have y1 := blk_cell Bb.out 1 rfl
      by_cases hxy : x = y
      · have HS := Lib.hid (less_same heq (by rw [hx, hy]; exact hxy))
        subst hxy
        clear heq hf hba hbb hx hy e1
        go_upto_region 4 with fail
        go_region_held3 (fun w' => w'.cell? ⟨w.heap.size, 0, none⟩ = some (Value.int .u64 a.hi) ∧ w'.cell? ⟨w.heap.size, 1, none⟩ = some (Value.int .u64 a.lo) ∧ w'.cell? ⟨w.heap.size + 1, 0, none⟩ = some (Value.int .u64 b.hi) ∧ w'.cell? ⟨w.heap.size + 1, 1, none⟩ = some (Value.int .u64 b.lo))
          (first | exact ⟨x0, x1, y0, y1⟩ | go_keep)
          (first
        | (go_at_call 92; (with_reducible refine (HBa.out _).mono ?_); rintro e w3 ⟨rfl, f3⟩; have FP := Lib.hid (FR.out.then_ (S2 := fun _ => False) ((Fr.refl (fun _ => False) _).drew.then_ f3 (fun _ h => h.elim)) (fun _ h => h.elim)); have Ba := Lib.hid (f3.blk (blk_drew Ba.out) (fun h => h)); have Bb := Lib.hid (f3.blk (blk_drew Bb.out) (fun h => h)); have x0 := blk_cell Ba.out 0 rfl; have x1 := blk_cell Ba.out 1 rfl; have y0 := blk_cell Bb.out 0 rfl; have y1 := blk_cell Bb.out 1 rfl; clear f3)
        | (go_at_call 92; (with_reducible refine (HBb.out _).mono ?_); rintro e w4 ⟨rfl, f4⟩; have FQ := Lib.hid (FP.out.then_ f4 (fun _ h => h.elim)); have Ba := Lib.hid (f4.blk Ba.out (fun h => h)); have Bb := Lib.hid (f4.blk Bb.out (fun h => h)); have x0 := blk_cell Ba.out 0 rfl; have x1 := blk_cell Ba.out 1 rfl; have y0 := blk_cell Bb.out 0 rfl; have y1 := blk_cell Bb.out 1 rfl; clear f4))
        go_wp2_with fail
        go_roundw
        case rel => first | exact ⟨k, by omega, by go_num, HS.out, FQ.out, Ba.out, Bb.out⟩ | ((repeat apply Exists.intro); refine (fun a b => ⟨b, a⟩ : ∀ {P Q : Prop}, P → Q → Q ∧ P) ?_ ?_; (first | rfl | exact ⟨rfl, rfl⟩ | exact ⟨rfl, rfl, rfl⟩); exact ⟨k, by omega, by go_num, HS.out, FQ.out, Ba.out, Bb.out⟩)
        case measure => (simp [intOf, w1]) <;> omega
      · have HV := Lib.hid (show R = decide (x < y) from by rw [← HR.out, less_high heq (by rw [hx, hy]; exact hxy), hx, hy])
        have hne : (x != y) = true := by simpa using hxy
        clear heq hf hba hbb hx hy e1 hxy
        go_upto_region 4 with fail
        go_region_held3 (fun w' => w'.cell? ⟨w.heap.size, 0, none⟩ = some (Value.int .u64 a.hi) ∧ w'.cell? ⟨w.heap.size, 1, none⟩ = some (Value.int .u64 a.lo) ∧ w'.cell? ⟨w.heap.size + 1, 0, none⟩ = some (Value.int .u64 b.hi) ∧ w'.cell? ⟨w.heap.size + 1, 1, none⟩ = some (Value.int .u64 b.lo))
          (first | exact ⟨x0, x1, y0, y1⟩ | go_keep)
          (first
        | (go_at_call 92; (with_reducible refine (HBa.out _).mono ?_); rintro e w3 ⟨rfl, f3⟩; have FP := Lib.hid (FR.out.then_ (S2 := fun _ => False) ((Fr.refl (fun _ => False) _).drew.then_ f3 (fun _ h => h.elim)) (fun _ h => h.elim)); have Ba := Lib.hid (f3.blk (blk_drew Ba.out) (fun h => h)); have Bb := Lib.hid (f3.blk (blk_drew Bb.out) (fun h => h)); have x0 := blk_cell Ba.out 0 rfl; have x1 := blk_cell Ba.out 1 rfl; have y0 := blk_cell Bb.out 0 rfl; have y1 := blk_cell Bb.out 1 rfl; clear f3)
        | (go_at_call 92; (with_reducible refine (HBb.out _).mono ?_); rintro e w4 ⟨rfl, f4⟩; have FQ := Lib.hid (FP.out.then_ f4 (fun _ h => h.elim)); have Ba := Lib.hid (f4.blk Ba.out (fun h => h)); have Bb := Lib.hid (f4.blk Bb.out (fun h => h)); have x0 := blk_cell Ba.out 0 rfl; have x1 := blk_cell Ba.out 1 rfl; have y0 := blk_cell Bb.out 0 rfl; have y1 := blk_cell Bb.out 1 rfl; clear f4))
        have FR := Lib.hid FQ.out
        clear FP FQ
        go_upto_region 5 with fail
        go_region_held3 (fun w' => w'.cell? ⟨w.heap.size, 0, none⟩ = some (Value.int .u64 a.hi) ∧ w'.cell? ⟨w.heap.size, 1, none⟩ = some (Value.int .u64 a.lo) ∧ w'.cell? ⟨w.heap.size + 1, 0, none⟩ = some (Value.int .u64 b.hi) ∧ w'.cell? ⟨w.heap.size + 1, 1, none⟩ = some (Value.int .u64 b.lo))
          (first | exact ⟨x0, x1, y0, y1⟩ | go_keep)
          (first
        | (go_at_call 92; (with_reducible refine (HBa.out _).mono ?_); rintro e w3 ⟨rfl, f3⟩; have FP := Lib.hid (FR.out.then_ (S2 := fun _ => False) ((Fr.refl (fun _ => False) _).drew.then_ f3 (fun _ h => h.elim)) (fun _ h => h.elim)); have Ba := Lib.hid (f3.blk (blk_drew Ba.out) (fun h => h)); have Bb := Lib.hid (f3.blk (blk_drew Bb.out) (fun h => h)); have x0 := blk_cell Ba.out 0 rfl; have x1 := blk_cell Ba.out 1 rfl; have y0 := blk_cell Bb.out 0 rfl; have y1 := blk_cell Bb.out 1 rfl; clear f3)
        | (go_at_call 92; (with_reducible refine (HBb.out _).mono ?_); rintro e w4 ⟨rfl, f4⟩; have FQ := Lib.hid (FP.out.then_ f4 (fun _ h => h.elim)); have Ba := Lib.hid (f4.blk Ba.out (fun h => h)); have Bb := Lib.hid (f4.blk Bb.out (fun h => h)); have x0 := blk_cell Ba.out 0 rfl; have x1 := blk_cell Ba.out 1 rfl; have y0 := blk_cell Bb.out 0 rfl; have y1 := blk_cell Bb.out 1 rfl; clear f4))
        go_wp2_with fail
        go_ret
        exact ⟨by rw [HV.out]; rfl, FQ.out⟩
end Go.Proofs.YtjchjpmgbmeohaaDoor
