/- The document's Sub. -/
import Derived.Test.YtjchjpmgbmeohaaDoorBkD
set_option linter.unusedSimpArgs false
set_option linter.unusedVariables false
namespace Go.Proofs.YtjchjpmgbmeohaaDoor
open Go.RowKit

theorem low_next (v : Int) (i : Nat) : v % 2 ^ (i + 1) = v % 2 ^ i + v / 2 ^ i % 2 * 2 ^ i := by
  have h1 := Int.mul_ediv_add_emod v (2 ^ i)
  have h2 := Int.mul_ediv_add_emod v (2 ^ (i + 1))
  have h3 := half v i
  obtain ⟨q, hq⟩ : ∃ q, v / 2 ^ (i + 1) = q := ⟨_, rfl⟩
  obtain ⟨z, hz⟩ : ∃ z, v / 2 ^ i % 2 = z := ⟨_, rfl⟩
  rw [hq, hz] at h3
  rw [hq] at h2
  rw [h3] at h1
  rw [hz]
  rw [Int.pow_succ] at h2 ⊢
  obtain ⟨p, hp⟩ : ∃ p : Int, (2 : Int) ^ i = p := ⟨_, rfl⟩
  rw [hp] at h1 h2 ⊢
  have e1 : p * (2 * q + z) = p * 2 * q + z * p := by rw [Int.mul_add, ← Int.mul_assoc, Int.mul_comm p z]
  rw [e1] at h1
  omega
/-- The sum so far: what was taken of the lower bits. -/
structure Sb (a b o : Nm) (c : Int) (i : Nat) : Prop where
  c01 : c = 0 ∨ c = 1
  ok : o.ok
  lt : o.v < 2 ^ i
  eq : a.v % 2 ^ i - b.v % 2 ^ i = o.v - c * 2 ^ i
theorem sb_zero (a b : Nm) : Sb a b ⟨0, 0⟩ 0 0 := ⟨.inl rfl, nzero_ok, by show (0 : Int) * 18446744073709551616 + 0 < 2 ^ 0; decide, by
  show _ = (0 : Int) * 18446744073709551616 + 0 - 0 * 2 ^ 0
  simp only [Int.pow_zero, Int.emod_one]
  decide⟩
theorem sb_step {a b o : Nm} {c : Int} {i : Nat} (h : Sb a b o c i) (hi : i < 128) (c' : Int) (n : Int) (hc : c' = 0 ∨ c' = 1) (hn : n = nbit a i - nbit b i - c + 2 * c') (h01 : n = 0 ∨ n = 1) : Sb a b (if n = 1 then nof (o.v + 2 ^ i) else o) c' (i + 1) := by
  obtain ⟨h1, h2, h3, h4⟩ := h
  have ho := Nm.v_in h2
  have hp := pow_pos' i
  have la := low_next a.v i
  have lb := low_next b.v i
  have h127 : (2 : Int) ^ i ≤ 170141183460469231731687303715884105728 := by
    have g1 : 2 ^ i ≤ 2 ^ 127 := Nat.pow_le_pow_right (by decide) (by omega)
    have e : ((2 ^ i : Nat) : Int) = (2 : Int) ^ i := by rw [Int.natCast_pow]; rfl
    have e2 : (2 : Nat) ^ 127 = 170141183460469231731687303715884105728 := by decide +kernel
    rw [e2] at g1
    rw [← e]
    omega
  unfold nbit at hn
  have ps := Int.pow_succ 2 i
  obtain ⟨p, hpe⟩ : ∃ p : Int, (2 : Int) ^ i = p := ⟨_, rfl⟩
  obtain ⟨p2, hp2⟩ : ∃ p : Int, (2 : Int) ^ (i + 1) = p := ⟨_, rfl⟩
  rw [hpe] at hp la lb h3 h4 h127 ps hn ⊢
  rw [hp2] at la lb ps
  obtain ⟨x, hx⟩ : ∃ x, a.v / p % 2 = x := ⟨_, rfl⟩
  obtain ⟨y, hy⟩ : ∃ x, b.v / p % 2 = x := ⟨_, rfl⟩
  rw [hx] at la hn
  rw [hy] at lb hn
  have hov : (if n = 1 then nof (o.v + p) else o).v = o.v + n * p := by
    rcases h01 with e | e
    · rw [if_neg (by omega), e]; omega
    · rw [if_pos e, nof_v, e]; omega
  refine ⟨hc, ?_, ?_, ?_⟩
  · split
    · exact nof_ok (by omega) (by omega)
    · exact h2
  · rw [hov, hp2, ps]
    rcases h01 with e | e <;> rw [e] <;> omega
  · rw [hov, hp2, la, lb]
    have e1 : n * p = x * p - y * p - c * p + 2 * (c' * p) := by
      rw [hn, Int.add_mul, Int.sub_mul, Int.sub_mul, Int.mul_assoc]
    have e2 : c' * p2 = 2 * (c' * p) := by rw [ps, ← Int.mul_assoc, Int.mul_comm]
    rw [e1, e2]
    omega
theorem sb_end {a b o : Nm} {c : Int} (ha : a.ok) (hb : b.ok) (h : Sb a b o c 128) (hl : ¬ a.v < b.v) : o = nsub a b := by
  obtain ⟨h1, h2, h3, h4⟩ := h
  have g1 := Nm.v_in ha
  have g2 := Nm.v_in hb
  rw [pow_128, Int.emod_eq_of_lt g1.1 g1.2, Int.emod_eq_of_lt g2.1 g2.2] at h4
  rw [pow_128] at h3
  have e : o.v = a.v - b.v := by rcases h1 with e | e <;> rw [e] at h4 <;> omega
  rw [nsub, if_neg hl, ← e, Nm.of_v h2]
set_option maxRecDepth 4000 in
set_option maxHeartbeats 6400000 in
theorem refSub_any (w : World) (a b : Nm) (ha : a.ok) (hb : b.ok) :
    Calls Tryd.prog 50 #[.agg #[.int .u64 a.hi, .int .u64 a.lo], .agg #[.int .u64 b.hi, .int .u64 b.lo]] w fun e w' => e = .returned (.tuple #[.agg #[.int .u64 (nsub a b).hi, .int .u64 (nsub a b).lo], .bool (!nless a b)]) ∧ Fr (fun _ => False) w w' := by
  have HOa := Lib.hid ha
  have HOb := Lib.hid hb
  have Ba0 := Lib.hid (blk_alloc (blk_alloc (heap_alloc_new w (.cells #[.int .u64 a.hi, .int .u64 a.lo] 24)) (.cells #[.int .u64 b.hi, .int .u64 b.lo] 24)) (.cells #[.int .u64 0, .int .u64 0] 24))
  have Bb0 := Lib.hid (blk_alloc (blk1 w (.cells #[.int .u64 a.hi, .int .u64 a.lo] 24) (.cells #[.int .u64 b.hi, .int .u64 b.lo] 24)) (.cells #[.int .u64 0, .int .u64 0] 24))
  have Bz0 := Lib.hid (blk2 w (.cells #[.int .u64 a.hi, .int .u64 a.lo] 24) (.cells #[.int .u64 b.hi, .int .u64 b.lo] 24) (.cells #[.int .u64 0, .int .u64 0] 24))
  have FA := Lib.hid ((((Fr.refl (fun _ => False) w).alloc (.cells #[.int .u64 a.hi, .int .u64 a.lo] 24)).alloc (.cells #[.int .u64 b.hi, .int .u64 b.lo] 24)).alloc (.cells #[.int .u64 0, .int .u64 0] 24))
  have HL := Lib.hid (fun W => refLess_any W a b ha hb)
  obtain ⟨q, hq⟩ : ∃ q, nless a b = q := ⟨_, rfl⟩
  rw [hq] at HL ⊢
  obtain ⟨R, hR⟩ : ∃ R, nsub a b = R := ⟨_, rfl⟩
  rw [hR]
  have HR := Lib.hid hR
  have HQ := Lib.hid hq
  clear hq hR ha hb
  cases q
  rotate_left
  · have HV := Lib.hid (show R = ⟨0, 0⟩ from by
      rw [← HR.out, nsub, if_pos (of_decide_eq_true (show decide (a.v < b.v) = true from HQ.out))])
    go_enter Tryd.func50, Tryd.ntmps50
    go_wp2_with fail
    refine (HL.out _).mono ?_
    rintro e w2 ⟨rfl, f2⟩
    have F2 := Lib.hid (FA.out.then_ f2 (fun _ h => h.elim))
    have Bz2 := Lib.hid (f2.blk Bz0.out (fun h => h))
    clear f2
    go_wp2_with (first | ((refine wpList_store_row rfl 24 (.tmp 4) (.tmp 13) rfl (w.heap.size + 1 + 1) #[.int .u64 0, .int .u64 0] rfl rfl Bz2.out rfl rfl (by simp [Value.oneCell']) ?_); intro w9 hb9 f9; have HB9 := Lib.hid hb9; have F9 := Lib.hid f9; clear hb9 f9) | fail)
    refine bodyPost_ret (results_cell2 (p := 4) (q := 5) rfl _ _ (w.heap.size + 1 + 1) 24 _ (0, 0) _ rfl HB9.out Tryd.underlying24 rfl rfl) rfl ?_
    exact ⟨by rw [HV.out]; rfl, F2.out.then_ F9.out (fun k hk => .inr (by omega))⟩
  have HNl := Lib.hid (of_decide_eq_false (show decide (a.v < b.v) = false from HQ.out))
  go_enter Tryd.func50, Tryd.ntmps50
  go_wp2_with fail
  refine (HL.out _).mono ?_
  rintro e w2 ⟨rfl, f2⟩
  have F2 := Lib.hid ((FA.out.then_ f2 (fun _ h => h.elim)).alloc (.cells #[.int .u64 0, .int .u64 0] 24))
  have Ba2 := Lib.hid (blk_alloc (f2.blk Ba0.out (fun h => h)) (.cells #[.int .u64 0, .int .u64 0] 24))
  have Bb2 := Lib.hid (blk_alloc (f2.blk Bb0.out (fun h => h)) (.cells #[.int .u64 0, .int .u64 0] 24))
  have Bz2 := Lib.hid (blk_alloc (f2.blk Bz0.out (fun h => h)) (.cells #[.int .u64 0, .int .u64 0] 24))
  have Bo2 := Lib.hid (heap_alloc_new w2 (.cells #[.int .u64 0, .int .u64 0] 24))
  have HG := Lib.hid (show w.heap.size + 1 + 1 < w2.heap.size from blk_lt (f2.blk Bz0.out (fun h => h)))
  clear f2
  go_wp2_with fail
  obtain ⟨G, hG⟩ : ∃ G, w2.heap.size = G := ⟨_, rfl⟩
  rw [hG] at Bo2 HG ⊢
  clear hG
  go_loopw [8, 7] (fun i cv wr => ∃ (k : Nat) (c : Int) (o : Nm), k ≤ 128 ∧ i = .int .i64 k ∧ cv = .int .i64 c ∧ Sb a b o c k ∧ wr.heap[G]? = some (.cells #[.int .u64 o.hi, .int .u64 o.lo] 24 (0, 0)) ∧ Fr (fun _ => False) w wr ∧ wr.heap[w.heap.size]? = some (.cells #[.int .u64 a.hi, .int .u64 a.lo] 24 (0, 0)) ∧ wr.heap[w.heap.size + 1]? = some (.cells #[.int .u64 b.hi, .int .u64 b.lo] 24 (0, 0)) ∧ wr.heap[w.heap.size + 1 + 1]? = some (.cells #[.int .u64 0, .int .u64 0] 24 (0, 0))) (fun i _ _ => (128 - intOf i).toNat)
  case atStart => exact ⟨0, 0, ⟨0, 0⟩, Nat.zero_le _, rfl, rfl, sb_zero a b, Bo2.out, F2.out, Ba2.out, Bb2.out, Bz2.out⟩
  case round =>
    obtain ⟨k, c, o, hk, rfl, rfl, hsb, hbo, hf, hba, hbb, hbz⟩ := hrel
    have FR := Lib.hid hf
    have Ba := Lib.hid hba
    have Bb := Lib.hid hbb
    have Bz := Lib.hid hbz
    have Bo := Lib.hid hbo
    have HS := Lib.hid hsb
    by_cases hlt : k < 128
    · have hltI : (k : Int) < 128 := by omega
      have w1 : IntKind.i64.wrap ((k : Int) + 1) = k + 1 := IntWalk.i64_in _ (by omega)
      have HBa := Lib.hid (fun W => bit_any W a HOa.out k hlt)
      have HBb := Lib.hid (fun W => bit_any W b HOb.out k hlt)
      have hc01 := hsb.c01
      have hx01 := nbit_01 a k
      have hy01 := nbit_01 b k
      obtain ⟨x, hx⟩ : ∃ x, nbit a k = x := ⟨_, rfl⟩
      obtain ⟨y, hy⟩ : ∃ y, nbit b k = y := ⟨_, rfl⟩
      have HStep := Lib.hid (fun c' n h1 h2 h3 => sb_step HS.out hlt c' n h1 h2 h3)
      rw [hx] at HBa HStep hx01
      rw [hy] at HBb HStep hy01
      obtain ⟨m, hm⟩ : ∃ m, x - y - c = m := ⟨_, rfl⟩
      have wa : IntKind.i64.wrap (x - y) = x - y := IntWalk.i64_in _ (by omega)
      have wb : IntKind.i64.wrap (x - y - c) = m := by rw [IntWalk.i64_in _ (by omega)]; exact hm
      have wc : IntKind.i64.wrap (m + 2) = m + 2 := IntWalk.i64_in _ (by omega)
      have HM := Lib.hid hm
      have HSet := Lib.hid (fun W => set_any W o HS.out.ok k hlt HS.out.lt)
      have hmr : m = -2 ∨ m = -1 ∨ m = 0 ∨ m = 1 := by omega
      have x0 := blk_cell Ba.out 0 rfl; have x1 := blk_cell Ba.out 1 rfl; have y0 := blk_cell Bb.out 0 rfl; have y1 := blk_cell Bb.out 1 rfl
      clear hsb hbo hf hba hbb hbz hx hy hm hc01 hx01 hy01
      go_upto_region 8 with fail
      go_region_held3 (fun w' => w'.cell? ⟨w.heap.size, 0, none⟩ = some (Value.int .u64 a.hi) ∧ w'.cell? ⟨w.heap.size, 1, none⟩ = some (Value.int .u64 a.lo) ∧ w'.cell? ⟨w.heap.size + 1, 0, none⟩ = some (Value.int .u64 b.hi) ∧ w'.cell? ⟨w.heap.size + 1, 1, none⟩ = some (Value.int .u64 b.lo))
        (first | exact ⟨x0, x1, y0, y1⟩ | go_keep)
        (first
            | (go_at_call 92; (with_reducible refine (HBa.out _).mono ?_); rintro e w3 ⟨rfl, f3⟩; have FP := Lib.hid (FR.out.then_ (S2 := fun _ => False) ((Fr.refl (fun _ => False) _).drew.then_ f3 (fun _ h => h.elim)) (fun _ h => h.elim)); have Ba := Lib.hid (f3.blk (blk_drew Ba.out) (fun h => h)); have Bb := Lib.hid (f3.blk (blk_drew Bb.out) (fun h => h)); have Bz := Lib.hid (f3.blk (blk_drew Bz.out) (fun h => h)); have Bo := Lib.hid (f3.blk (blk_drew Bo.out) (fun h => h)); have x0 := blk_cell Ba.out 0 rfl; have x1 := blk_cell Ba.out 1 rfl; have y0 := blk_cell Bb.out 0 rfl; have y1 := blk_cell Bb.out 1 rfl; clear f3)
            | (go_at_call 92; (with_reducible refine (HBb.out _).mono ?_); rintro e w4 ⟨rfl, f4⟩; have FQ := Lib.hid (FP.out.then_ f4 (fun _ h => h.elim)); have Ba := Lib.hid (f4.blk Ba.out (fun h => h)); have Bb := Lib.hid (f4.blk Bb.out (fun h => h)); have Bz := Lib.hid (f4.blk Bz.out (fun h => h)); have Bo := Lib.hid (f4.blk Bo.out (fun h => h)); have x0 := blk_cell Ba.out 0 rfl; have x1 := blk_cell Ba.out 1 rfl; have y0 := blk_cell Bb.out 0 rfl; have y1 := blk_cell Bb.out 1 rfl; clear f4))
      have o0 := blk_cell Bo.out 0 rfl
      have o1 := blk_cell Bo.out 1 rfl
      rcases hmr with e | e | e | e
      · subst e
        go_wp2_with fail
        go_roundw
        case rel =>
          have hs := HStep.out 1 0 (.inr rfl) (by have := HM.out; omega) (.inl rfl)
          rw [if_neg (by decide)] at hs
          exact ⟨k + 1, _, o, by omega, by go_num, rfl, hs, Bo.out, FQ.out, Ba.out, Bb.out, Bz.out⟩
        case measure => first | (simp only [intOf, w1]; omega) | (simp [intOf, w1]; omega)
      · subst e
        go_wp2_with (first
          | (go_at_call 94; (with_reducible refine (HSet.out _).mono ?_); rintro e w5 ⟨rfl, f5⟩; have FS := Lib.hid (FQ.out.then_ f5 (fun _ h => h.elim)); have Ba := Lib.hid (f5.blk Ba.out (fun h => h)); have Bb := Lib.hid (f5.blk Bb.out (fun h => h)); have Bz := Lib.hid (f5.blk Bz.out (fun h => h)); have Bo := Lib.hid (f5.blk Bo.out (fun h => h)); clear f5)
          | ((refine wpList_store_row rfl 24 (.tmp 6) (.tmp 36) rfl G #[.int .u64 (nof (o.v + 2 ^ k)).hi, .int .u64 (nof (o.v + 2 ^ k)).lo] rfl rfl Bo.out rfl rfl (by simp [Value.oneCell']) ?_); intro w9 hb9 f9; have Bo9 := Lib.hid hb9; have F9 := Lib.hid f9; clear hb9 f9)
          | fail)
        go_roundw
        case rel =>
          have hs := HStep.out 1 1 (.inr rfl) (by have := HM.out; omega) (.inr rfl)
          rw [if_pos rfl] at hs
          have hg := HG.out
          exact ⟨k + 1, _, nof (o.v + 2 ^ k), by omega, by go_num, rfl, hs, Bo9.out, FS.out.then_ F9.out (fun j hj => .inr (by omega)), F9.out.blk Ba.out (by omega), F9.out.blk Bb.out (by omega), F9.out.blk Bz.out (by omega)⟩
        case measure => first | (simp only [intOf, w1]; omega) | (simp [intOf, w1]; omega)
      · subst e
        go_wp2_with fail
        go_roundw
        case rel =>
          have hs := HStep.out 0 0 (.inl rfl) (by have := HM.out; omega) (.inl rfl)
          rw [if_neg (by decide)] at hs
          exact ⟨k + 1, _, o, by omega, by go_num, rfl, hs, Bo.out, FQ.out, Ba.out, Bb.out, Bz.out⟩
        case measure => first | (simp only [intOf, w1]; omega) | (simp [intOf, w1]; omega)
      · subst e
        go_wp2_with (first
          | (go_at_call 94; (with_reducible refine (HSet.out _).mono ?_); rintro e w5 ⟨rfl, f5⟩; have FS := Lib.hid (FQ.out.then_ f5 (fun _ h => h.elim)); have Ba := Lib.hid (f5.blk Ba.out (fun h => h)); have Bb := Lib.hid (f5.blk Bb.out (fun h => h)); have Bz := Lib.hid (f5.blk Bz.out (fun h => h)); have Bo := Lib.hid (f5.blk Bo.out (fun h => h)); clear f5)
          | ((refine wpList_store_row rfl 24 (.tmp 6) (.tmp 36) rfl G #[.int .u64 (nof (o.v + 2 ^ k)).hi, .int .u64 (nof (o.v + 2 ^ k)).lo] rfl rfl Bo.out rfl rfl (by simp [Value.oneCell']) ?_); intro w9 hb9 f9; have Bo9 := Lib.hid hb9; have F9 := Lib.hid f9; clear hb9 f9)
          | fail)
        go_roundw
        case rel =>
          have hs := HStep.out 0 1 (.inl rfl) (by have := HM.out; omega) (.inr rfl)
          rw [if_pos rfl] at hs
          have hg := HG.out
          exact ⟨k + 1, _, nof (o.v + 2 ^ k), by omega, by go_num, rfl, hs, Bo9.out, FS.out.then_ F9.out (fun j hj => .inr (by omega)), F9.out.blk Ba.out (by omega), F9.out.blk Bb.out (by omega), F9.out.blk Bz.out (by omega)⟩
        case measure => first | (simp only [intOf, w1]; omega) | (simp [intOf, w1]; omega)
    · have hltI : ¬ (k : Int) < 128 := by omega
      obtain rfl : k = 128 := by omega
      have HV := Lib.hid (show o = R from by rw [← HR.out]; exact sb_end HOa.out HOb.out HS.out (by have := HNl.out; omega))
      have o0 := blk_cell hbo 0 rfl
      have o1 := blk_cell hbo 1 rfl
      clear hsb hbo hf hba hbb hbz
      go_wp2_with (first | ((refine wpList_store_row rfl 24 (.tmp 4) (.tmp 37) rfl (w.heap.size + 1 + 1) #[.int .u64 o.hi, .int .u64 o.lo] rfl rfl Bz.out rfl rfl (by simp [Value.oneCell']) ?_); intro w9 hb9 f9; have HB9 := Lib.hid hb9; have F9 := Lib.hid f9; clear hb9 f9) | fail)
      refine bodyPost_ret (results_cell2 (p := 4) (q := 5) rfl _ _ (w.heap.size + 1 + 1) 24 _ (0, 0) _ rfl HB9.out Tryd.underlying24 rfl rfl) rfl ?_
      exact ⟨by rw [HV.out]; rfl, FR.out.then_ F9.out (fun k hk => .inr (by omega))⟩
end Go.Proofs.YtjchjpmgbmeohaaDoor
