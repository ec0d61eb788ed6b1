/- tape.Reader.Int, Flag, Num. -/
import Derived.Test.YtfmcimngogibkaaTapeR
import Derived.Test.YtfmcimngogibkaaBits
set_option linter.unusedSimpArgs false
set_option linter.unusedVariables false
namespace Go.Proofs.Ytfmcimngogibkaa
open Go.RowKit

/-- []byte(s) makes a row of s's bytes. -/
theorem convert_bytes {P : Program} (w : World) (src dst e : TypeId) (l : List Int) (hl : Bytes l) (hs : P.underlying src = some .string) (hd : P.underlying dst = some (.slice e)) (he : P.underlying e = some (.int .u8)) :
    ∃ b cap w2, (convert src dst (.string (strOfNums l))).run P w = .ok (.slice (some ⟨b, 0, none⟩) l.length cap) w2 ∧ w.heap.size ≤ b ∧ (∀ i, i < l.length → w2.cell? ⟨b, i, none⟩ = some (.int .u8 (l.getD i 0))) ∧ Fr (fun _ => False) w w2 := by
  refine ⟨w.heap.size, _, _, by rw [Lib.run_convert_string_bytes w src dst e _ hs hd he, strOfNums_size], Nat.le_refl _, fun i hi => ?_, ?_⟩
  · have h1 := Lib.bytesWorld_cell w e (strOfNums l) i (by rw [strOfNums_size]; exact hi)
    rw [h1]
    have h2 := hl l[i] (List.getElem_mem hi)
    simp [strOfNums_data, List.getD, hi]
    omega
  · refine ⟨rfl, rfl, rfl, by rw [Lib.bytesWorld_size]; omega, fun k hk _ => Lib.bytesWorld_at_old w e _ k hk⟩

set_option maxHeartbeats 1600000 in
theorem rInt_any (w : World) (g : Nat) (l : List Int) (n : Nat) (h1 : 1 ≤ n) (h8 : n ≤ 8) (h : IsR w g l false) (hB : Bytes l) (hn : n ≤ l.length) :
    Calls Try.prog 37 #[.pointer (some ⟨g, 0, none⟩), .int .i64 n] w fun e w' => e = .returned (.int .i64 (wrap64 (le (l.take n)))) ∧ IsR w' g (l.drop n) false ∧ Fr (fun k => k = g) w w' := by
  have H := Lib.hid h
  clear h
  obtain ⟨m, hm⟩ : ∃ m, l.take n = m := ⟨_, rfl⟩
  have hmB : Bytes m := hm ▸ hB.take n
  have hmn : m.length = n := by rw [← hm]; simp; omega
  have hm1 : 1 ≤ m.length := by omega
  have hm8 : m.length ≤ 8 := by omega
  have HmB := Lib.hid hmB
  have Hm := Lib.hid hm
  clear hm hmB hmn
  obtain ⟨i1, i8⟩ : (1 : Int) ≤ n ∧ (n : Int) ≤ 8 := by omega
  go_enter Try.func37, Try.ntmps37
  go_wp2_with (go_at_call 58; refine (rRaw_yes _ g l n H.out hn).mono ?_; rintro e w' ⟨rfl, hr, hf⟩; rw [Hm.out]; have Hr := Lib.hid hr; have Hf := Lib.hid hf; clear hr hf; obtain ⟨b, cap, w2, hcv, hbz, hcell, hf2⟩ := convert_bytes (P := Try.prog) w' 9 43 5 m HmB.out Try.underlying9 Try.underlying43 Try.underlying5; have Hf2 := Lib.hid hf2; clear hf2)
  go_loop [5, 15] (fun a i => ∃ k : Nat, k ≤ m.length ∧ i = .int .i64 k ∧ a = .int .i64 (wrap64 (le (m.take k)))) (fun _ i => m.length - (intOf i).toNat)
  case atStart => exact ⟨0, by omega, rfl, by simp [le, wrap64]⟩
  case round =>
    obtain ⟨k, hk, rfl, rfl⟩ := hrel
    by_cases hlt : k < m.length
    · have hc := hcell k hlt
      have hmb := HmB.out m[k] (List.getElem_mem hlt)
      have e8 : IntKind.i64.wrap (8 * (k : Int)) = 8 * k := IntWalk.i64_in _ (by omega)
      have p8 : 0 ≤ 8 * (k : Int) := by omega
      have HR := Lib.hid (show bits .or .i64 (wrap64 (le (m.take k))) (wrap64 (m[k] * 2 ^ (8 * k))) = wrap64 (le (m.take (k + 1))) from by
        have hb := le_bd (HmB.out.take k)
        rw [List.length_take, Nat.min_eq_left hk] at hb
        rw [or_i64 (by omega) hb.1 hb.2 hmb.1 hmb.2, ← le_take_succ hlt])
      go_wp2
      go_round
      case rel => exact ⟨k + 1, by omega, by go_num, by rw [HR.out]⟩
      case measure => simp [intOf]; omega
    · obtain rfl : k = m.length := by omega
      go_wp2
      go_ret
      rw [Hm.out]
      have fin := Hf2.out.blk Hr.out (fun h => h)
      first | exact ⟨rfl, fin, Hf.out.then_ Hf2.out (fun _ h => h.elim)⟩ | exact ⟨rfl, by rw [← List.drop_one]; exact fin, Hf.out.then_ Hf2.out (fun _ h => h.elim)⟩

set_option maxHeartbeats 1600000 in
/-- Int where the bytes aren't there. -/
theorem rInt_no_any (w : World) (g : Nat) (l : List Int) (t : Bool) (n : Nat) (h1 : 1 ≤ n) (h8 : n ≤ 8) (h : IsR w g l t) (hn : t = true ∨ l.length < n) :
    Calls Try.prog 37 #[.pointer (some ⟨g, 0, none⟩), .int .i64 n] w fun e w' => e = .returned (.int .i64 0) ∧ IsR w' g l true ∧ Fr (fun k => k = g) w w' := by
  have H := Lib.hid h
  have Hn := Lib.hid (show t = true ∨ ((n : Nat) : Int) < 0 ∨ (l.length : Int) < (n : Nat) from by rcases hn with h | h; exact .inl h; exact .inr (.inr (by omega)))
  clear h hn
  obtain ⟨i1, i8⟩ : (1 : Int) ≤ n ∧ (n : Int) ≤ 8 := by omega
  go_enter Try.func37, Try.ntmps37
  go_wp2_with (go_at_call 58; refine (rRaw_no _ g l t _ H.out Hn.out).mono ?_; rintro e w' ⟨rfl, hr, hf⟩; have Hr := Lib.hid hr; have Hf := Lib.hid hf; clear hr hf; obtain ⟨b, cap, w2, hcv, hbz, hcell, hf2⟩ := convert_bytes (P := Try.prog) w' 9 43 5 [] Bytes.nil Try.underlying9 Try.underlying43 Try.underlying5; have Hf2 := Lib.hid hf2; clear hf2 hcell)
  refine wp_loop_rounds 1 ?_
  rw [rounds_succ]
  go_wp2
  go_ret
  exact ⟨rfl, Hf2.out.blk Hr.out (fun h => h), Hf.out.then_ Hf2.out (fun _ h => h.elim)⟩
set_option maxHeartbeats 1600000 in
theorem rInt_lo (w : World) (g : Nat) (l : List Int) (size : Int) (h1 : size < 1) (h : IsR w g l false) (hB : Bytes l) (hn : 1 ≤ l.length) :
    Calls Try.prog 37 #[.pointer (some ⟨g, 0, none⟩), .int .i64 size] w fun e w' => e = .returned (.int .i64 (wrap64 (le (l.take 1)))) ∧ IsR w' g (l.drop 1) false ∧ Fr (fun k => k = g) w w' := by
  have H := Lib.hid h
  clear h
  obtain ⟨m, hm⟩ : ∃ m, l.take 1 = m := ⟨_, rfl⟩
  have hmB : Bytes m := hm ▸ hB.take 1
  have hmn : m.length = 1 := by rw [← hm]; simp; omega
  have hm1 : 1 ≤ m.length := by omega
  have hm8 : m.length ≤ 8 := by omega
  have HmB := Lib.hid hmB
  have Hm := Lib.hid hm
  clear hm hmB hmn
  obtain ⟨i1, i8⟩ : (1 : Int) ≤ 1 ∧ (1 : Int) ≤ 8 := by omega
  go_enter Try.func37, Try.ntmps37
  go_wp2_with (go_at_call 58; refine (rRaw_yes _ g l 1 H.out hn).mono ?_; rintro e w' ⟨rfl, hr, hf⟩; rw [Hm.out]; have Hr := Lib.hid hr; have Hf := Lib.hid hf; clear hr hf; obtain ⟨b, cap, w2, hcv, hbz, hcell, hf2⟩ := convert_bytes (P := Try.prog) w' 9 43 5 m HmB.out Try.underlying9 Try.underlying43 Try.underlying5; have Hf2 := Lib.hid hf2; clear hf2)
  go_loop [5, 15] (fun a i => ∃ k : Nat, k ≤ m.length ∧ i = .int .i64 k ∧ a = .int .i64 (wrap64 (le (m.take k)))) (fun _ i => m.length - (intOf i).toNat)
  case atStart => exact ⟨0, by omega, rfl, by simp [le, wrap64]⟩
  case round =>
    obtain ⟨k, hk, rfl, rfl⟩ := hrel
    by_cases hlt : k < m.length
    · have hc := hcell k hlt
      have hmb := HmB.out m[k] (List.getElem_mem hlt)
      have e8 : IntKind.i64.wrap (8 * (k : Int)) = 8 * k := IntWalk.i64_in _ (by omega)
      have p8 : 0 ≤ 8 * (k : Int) := by omega
      have HR := Lib.hid (show bits .or .i64 (wrap64 (le (m.take k))) (wrap64 (m[k] * 2 ^ (8 * k))) = wrap64 (le (m.take (k + 1))) from by
        have hb := le_bd (HmB.out.take k)
        rw [List.length_take, Nat.min_eq_left hk] at hb
        rw [or_i64 (by omega) hb.1 hb.2 hmb.1 hmb.2, ← le_take_succ hlt])
      go_wp2
      go_round
      case rel => exact ⟨k + 1, by omega, by go_num, by rw [HR.out]⟩
      case measure => simp [intOf]; omega
    · obtain rfl : k = m.length := by omega
      go_wp2
      go_ret
      rw [Hm.out]
      have fin := Hf2.out.blk Hr.out (fun h => h)
      first | exact ⟨rfl, fin, Hf.out.then_ Hf2.out (fun _ h => h.elim)⟩ | exact ⟨rfl, by rw [← List.drop_one]; exact fin, Hf.out.then_ Hf2.out (fun _ h => h.elim)⟩

set_option maxHeartbeats 1600000 in
/-- Int where the bytes aren't there. -/
theorem rInt_no_lo (w : World) (g : Nat) (l : List Int) (t : Bool) (size : Int) (h1 : size < 1) (h : IsR w g l t) (hn : t = true ∨ l.length < 1) :
    Calls Try.prog 37 #[.pointer (some ⟨g, 0, none⟩), .int .i64 size] w fun e w' => e = .returned (.int .i64 0) ∧ IsR w' g l true ∧ Fr (fun k => k = g) w w' := by
  have H := Lib.hid h
  have Hn := Lib.hid (show t = true ∨ ((1 : Nat) : Int) < 0 ∨ (l.length : Int) < (1 : Nat) from by rcases hn with h | h; exact .inl h; exact .inr (.inr (by omega)))
  clear h hn
  obtain ⟨i1, i8⟩ : (1 : Int) ≤ 1 ∧ (1 : Int) ≤ 8 := by omega
  go_enter Try.func37, Try.ntmps37
  go_wp2_with (go_at_call 58; refine (rRaw_no _ g l t _ H.out Hn.out).mono ?_; rintro e w' ⟨rfl, hr, hf⟩; have Hr := Lib.hid hr; have Hf := Lib.hid hf; clear hr hf; obtain ⟨b, cap, w2, hcv, hbz, hcell, hf2⟩ := convert_bytes (P := Try.prog) w' 9 43 5 [] Bytes.nil Try.underlying9 Try.underlying43 Try.underlying5; have Hf2 := Lib.hid hf2; clear hf2 hcell)
  refine wp_loop_rounds 1 ?_
  rw [rounds_succ]
  go_wp2
  go_ret
  exact ⟨rfl, Hf2.out.blk Hr.out (fun h => h), Hf.out.then_ Hf2.out (fun _ h => h.elim)⟩
set_option maxHeartbeats 1600000 in
theorem rInt_hi (w : World) (g : Nat) (l : List Int) (size : Int) (h1 : 8 < size) (h : IsR w g l false) (hB : Bytes l) (hn : 8 ≤ l.length) :
    Calls Try.prog 37 #[.pointer (some ⟨g, 0, none⟩), .int .i64 size] w fun e w' => e = .returned (.int .i64 (wrap64 (le (l.take 8)))) ∧ IsR w' g (l.drop 8) false ∧ Fr (fun k => k = g) w w' := by
  have H := Lib.hid h
  clear h
  obtain ⟨m, hm⟩ : ∃ m, l.take 8 = m := ⟨_, rfl⟩
  have hmB : Bytes m := hm ▸ hB.take 8
  have hmn : m.length = 8 := by rw [← hm]; simp; omega
  have hm1 : 1 ≤ m.length := by omega
  have hm8 : m.length ≤ 8 := by omega
  have HmB := Lib.hid hmB
  have Hm := Lib.hid hm
  clear hm hmB hmn
  obtain ⟨i1, i8⟩ : (1 : Int) ≤ 8 ∧ (8 : Int) ≤ 8 := by omega
  go_enter Try.func37, Try.ntmps37
  go_wp2_with (go_at_call 58; refine (rRaw_yes _ g l 8 H.out hn).mono ?_; rintro e w' ⟨rfl, hr, hf⟩; rw [Hm.out]; have Hr := Lib.hid hr; have Hf := Lib.hid hf; clear hr hf; obtain ⟨b, cap, w2, hcv, hbz, hcell, hf2⟩ := convert_bytes (P := Try.prog) w' 9 43 5 m HmB.out Try.underlying9 Try.underlying43 Try.underlying5; have Hf2 := Lib.hid hf2; clear hf2)
  go_loop [5, 15] (fun a i => ∃ k : Nat, k ≤ m.length ∧ i = .int .i64 k ∧ a = .int .i64 (wrap64 (le (m.take k)))) (fun _ i => m.length - (intOf i).toNat)
  case atStart => exact ⟨0, by omega, rfl, by simp [le, wrap64]⟩
  case round =>
    obtain ⟨k, hk, rfl, rfl⟩ := hrel
    by_cases hlt : k < m.length
    · have hc := hcell k hlt
      have hmb := HmB.out m[k] (List.getElem_mem hlt)
      have e8 : IntKind.i64.wrap (8 * (k : Int)) = 8 * k := IntWalk.i64_in _ (by omega)
      have p8 : 0 ≤ 8 * (k : Int) := by omega
      have HR := Lib.hid (show bits .or .i64 (wrap64 (le (m.take k))) (wrap64 (m[k] * 2 ^ (8 * k))) = wrap64 (le (m.take (k + 1))) from by
        have hb := le_bd (HmB.out.take k)
        rw [List.length_take, Nat.min_eq_left hk] at hb
        rw [or_i64 (by omega) hb.1 hb.2 hmb.1 hmb.2, ← le_take_succ hlt])
      go_wp2
      go_round
      case rel => exact ⟨k + 1, by omega, by go_num, by rw [HR.out]⟩
      case measure => simp [intOf]; omega
    · obtain rfl : k = m.length := by omega
      go_wp2
      go_ret
      rw [Hm.out]
      have fin := Hf2.out.blk Hr.out (fun h => h)
      first | exact ⟨rfl, fin, Hf.out.then_ Hf2.out (fun _ h => h.elim)⟩ | exact ⟨rfl, by rw [← List.drop_one]; exact fin, Hf.out.then_ Hf2.out (fun _ h => h.elim)⟩

set_option maxHeartbeats 1600000 in
/-- Int where the bytes aren't there. -/
theorem rInt_no_hi (w : World) (g : Nat) (l : List Int) (t : Bool) (size : Int) (h1 : 8 < size) (h : IsR w g l t) (hn : t = true ∨ l.length < 8) :
    Calls Try.prog 37 #[.pointer (some ⟨g, 0, none⟩), .int .i64 size] w fun e w' => e = .returned (.int .i64 0) ∧ IsR w' g l true ∧ Fr (fun k => k = g) w w' := by
  have H := Lib.hid h
  have Hn := Lib.hid (show t = true ∨ ((8 : Nat) : Int) < 0 ∨ (l.length : Int) < (8 : Nat) from by rcases hn with h | h; exact .inl h; exact .inr (.inr (by omega)))
  clear h hn
  obtain ⟨i1, i8⟩ : (1 : Int) ≤ 8 ∧ (8 : Int) ≤ 8 := by omega
  go_enter Try.func37, Try.ntmps37
  go_wp2_with (go_at_call 58; refine (rRaw_no _ g l t _ H.out Hn.out).mono ?_; rintro e w' ⟨rfl, hr, hf⟩; have Hr := Lib.hid hr; have Hf := Lib.hid hf; clear hr hf; obtain ⟨b, cap, w2, hcv, hbz, hcell, hf2⟩ := convert_bytes (P := Try.prog) w' 9 43 5 [] Bytes.nil Try.underlying9 Try.underlying43 Try.underlying5; have Hf2 := Lib.hid hf2; clear hf2 hcell)
  refine wp_loop_rounds 1 ?_
  rw [rounds_succ]
  go_wp2
  go_ret
  exact ⟨rfl, Hf2.out.blk Hr.out (fun h => h), Hf.out.then_ Hf2.out (fun _ h => h.elim)⟩

def clampN (size : Int) : Nat := (min (max size 1) 8).toNat
/-- Int, whatever size is asked for. -/
theorem rInt_yes (w : World) (g : Nat) (l : List Int) (size : Int) (h : IsR w g l false) (hB : Bytes l) (hn : clampN size ≤ l.length) :
    Calls Try.prog 37 #[.pointer (some ⟨g, 0, none⟩), .int .i64 size] w fun e w' => e = .returned (.int .i64 (wrap64 (le (l.take (clampN size))))) ∧ IsR w' g (l.drop (clampN size)) false ∧ Fr (fun k => k = g) w w' := by
  unfold clampN at hn ⊢
  by_cases h0 : size < 1
  · have e : (min (max size 1) 8).toNat = 1 := by omega
    rw [e] at hn ⊢; exact rInt_lo w g l size h0 h hB hn
  · by_cases h8 : size ≤ 8
    · obtain ⟨n, rfl⟩ := Int.eq_ofNat_of_zero_le (show 0 ≤ size by omega)
      have e : (min (max (n : Int) 1) 8).toNat = n := by omega
      rw [e] at hn ⊢; exact rInt_any w g l n (by omega) (by omega) h hB hn
    · have e : (min (max size 1) 8).toNat = 8 := by omega
      rw [e] at hn ⊢; exact rInt_hi w g l size (by omega) h hB hn
theorem rInt_no (w : World) (g : Nat) (l : List Int) (t : Bool) (size : Int) (h : IsR w g l t) (hn : t = true ∨ l.length < clampN size) :
    Calls Try.prog 37 #[.pointer (some ⟨g, 0, none⟩), .int .i64 size] w fun e w' => e = .returned (.int .i64 0) ∧ IsR w' g l true ∧ Fr (fun k => k = g) w w' := by
  unfold clampN at hn
  by_cases h0 : size < 1
  · have e : (min (max size 1) 8).toNat = 1 := by omega
    rw [e] at hn; exact rInt_no_lo w g l t size h0 h hn
  · by_cases h8 : size ≤ 8
    · obtain ⟨n, rfl⟩ := Int.eq_ofNat_of_zero_le (show 0 ≤ size by omega)
      have e : (min (max (n : Int) 1) 8).toNat = n := by omega
      rw [e] at hn; exact rInt_no_any w g l t n (by omega) (by omega) h hn
    · have e : (min (max size 1) 8).toNat = 8 := by omega
      rw [e] at hn; exact rInt_no_hi w g l t size (by omega) h hn

theorem rInt_nil (w : World) (n : Int) :
    Calls Try.prog 37 #[.pointer none, .int .i64 1] w fun e w' => e = .returned (.int .i64 0) ∧ Fr (fun _ => False) w w' := by
  go_enter Try.func37, Try.ntmps37
  go_wp2_with (go_at_call 58; refine (rRaw_nil _ 1).mono ?_; rintro e w' ⟨rfl, hw⟩; subst hw; obtain ⟨b, cap, w2, hcv, hbz, hcell, hf2⟩ := convert_bytes (P := Try.prog) w' 9 43 5 [] Bytes.nil Try.underlying9 Try.underlying43 Try.underlying5; have Hf2 := Lib.hid hf2; clear hf2 hcell)
  refine wp_loop_rounds 1 ?_
  rw [rounds_succ]
  go_wp2
  go_ret
  exact ⟨rfl, Hf2.out⟩

set_option maxHeartbeats 1600000 in
theorem rFlag_any (w : World) (g : Nat) (c : Int) (l : List Int) (h : IsR w g (c :: l) false) (hc : 0 ≤ c ∧ c < 256) (hB : Bytes l) :
    Calls Try.prog 43 #[.pointer (some ⟨g, 0, none⟩)] w fun e w' => e = .returned (.bool (c == 1)) ∧ IsR w' g l (decide (1 < c)) ∧ Fr (fun k => k = g) w w' := by
  have H := Lib.hid h
  clear h
  have HB := Lib.hid (Bytes.cons hc hB)
  clear hB
  have hwc : wrap64 (le ((c :: l).take 1)) = c := by simp [le, wrap64]; omega
  have Hwc := Lib.hid hwc
  clear hwc
  by_cases h1 : 1 < c
  all_goals
    go_enter Try.func43, Try.ntmps43
    go_wp2_with (go_at_call 37; refine (rInt_any _ g (c :: l) 1 (by omega) (by omega) H.out HB.out (by simp)).mono ?_; rintro e w' ⟨rfl, hr, hf⟩; rw [Hwc.out]; have c1 := blk_cell hr 1 rfl; have f1 := blk_free hr 1; have Hr := Lib.hid hr; have Hf := Lib.hid hf; clear hr hf)
    go_ret
  · have e : (decide (1 < c)) = true := by simpa using h1
    rw [e]
    exact ⟨rfl, blk_set Hr.out 1 _, Hf.out.set1 _⟩
  · have e : (decide (1 < c)) = false := by simpa using h1
    rw [e]
    exact ⟨rfl, Hr.out, Hf.out⟩

set_option maxHeartbeats 1600000 in
theorem rFlag_no (w : World) (g : Nat) (l : List Int) (t : Bool) (h : IsR w g l t) (hn : t = true ∨ l = []) :
    Calls Try.prog 43 #[.pointer (some ⟨g, 0, none⟩)] w fun e w' => e = .returned (.bool false) ∧ IsR w' g l true ∧ Fr (fun k => k = g) w w' := by
  have H := Lib.hid h
  have Hn := Lib.hid (show t = true ∨ l.length < 1 from by rcases hn with h | h; exact .inl h; subst h; exact .inr (by simp))
  clear h hn
  go_enter Try.func43, Try.ntmps43
  go_wp2_with (go_at_call 37; refine (rInt_no_any _ g l t 1 (by omega) (by omega) H.out Hn.out).mono ?_; rintro e w' ⟨rfl, hr, hf⟩; have c1 := blk_cell hr 1 rfl; have f1 := blk_free hr 1; have Hr := Lib.hid hr; have Hf := Lib.hid hf; clear hr hf)
  go_ret
  exact ⟨rfl, Hr.out, Hf.out⟩

theorem rFlag_nil (w : World) :
    Calls Try.prog 43 #[.pointer none] w fun e w' => e = .returned (.bool false) ∧ Fr (fun _ => False) w w' := by
  go_enter Try.func43, Try.ntmps43
  go_wp2_with (go_at_call 37; refine (rInt_nil _ 1).mono ?_; rintro e w' ⟨rfl, hf⟩; have Hf := Lib.hid hf; clear hf)
  go_ret
  exact ⟨rfl, Hf.out⟩
end Go.Proofs.Ytfmcimngogibkaa
