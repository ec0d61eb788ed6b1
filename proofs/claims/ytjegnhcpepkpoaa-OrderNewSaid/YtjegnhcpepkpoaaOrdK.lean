/- Law 12: the walk of OrderParts. -/
import Derived.Test.YtjegnhcpepkpoaaOrdU
import Derived.Test.YtjegnhcpepkpoaaOrdL
import Derived.Test.YtjegnhcpepkpoaaOrdT
namespace Go.Proofs.Ytjegnhcpepkpoaa
open Go.RowKit

theorem src_own {P : Program} {w : World} {et tx e' : TypeId} {sz n : Nat} {v : Value} {vs : List Value} (hk : P.underlying tx = some (.slice e')) (h : w.ownsRow 0 et sz v n vs) (h1 : ∀ u ∈ vs, u.oneCell' = true) : Src P sz tx v n vs w := by
  rcases h.2 with ⟨rfl, rfl⟩ | ⟨g, cap, cur, rfl, r⟩
  · obtain rfl : vs = [] := List.eq_nil_of_length_eq_zero (by simpa using h.1)
    exact Src.ofNil w hk 0
  · exact Src.ofSlice w hk _ _ _ _ h.1 (h.cells rfl) h1
theorem range_len {ps : List Pr} (fm t2 : Int) : (rangeL ps fm t2).length ≤ ps.length := by
  rw [rangeL]
  exact Nat.le_trans (List.length_take_le' _ _) (by rw [List.length_drop]; omega)

set_option maxRecDepth 4000 in
set_option maxHeartbeats 3200000 in
theorem parts_any (w : World) (a : Option Addr) (cap : Nat) (cs : List OC) (fm md t2 : Int) (hr : Row w a (cs.flatMap OC.cells)) (hB : ∀ c ∈ cs, -9223372036854775808 ≤ c.stamp) (hmd : -9223372036854775808 ≤ md ∧ md ≤ 9223372036854775807) :
    Calls Try.prog 4 #[.slice a cs.length cap, .int .i64 fm, .int .i64 md, .int .i64 t2] w fun r w' => r = .returned (.bool true) ∧ Fr (fun _ => False) w w' := by
  obtain ⟨i0, hi0, hz0, hz1, hz2⟩ := info_parts Try.infoPair
  have he := eqm_Pair
  have HR := Lib.hid hr
  have HBd := Lib.hid hB
  clear hr hB
  go_enter Try.func4, Try.ntmps4
  go_wp2_with fail
  refine (alive12_any w).mono ?_
  rintro e w1 ⟨rfl, f1⟩
  have F1 := Lib.hid f1
  clear f1
  by_cases hbig : (100 : Int) < cs.length
  · go_wp2_with fail
    go_ret
    exact ⟨rfl, F1.out⟩
  cases z1 : (md == 0)
  rotate_left
  · go_wp2_with fail
    go_ret
    exact ⟨rfl, F1.out⟩
  cases z2 : (md == 9223372036854775807)
  rotate_left
  · go_wp2_with fail
    go_ret
    exact ⟨rfl, F1.out⟩
  by_cases z3 : md < fm
  · go_wp2_with fail
    go_ret
    exact ⟨rfl, F1.out⟩
  have HM0 := Lib.hid (show md ≠ 0 from by simpa using z1)
  have hmx : md ≤ 9223372036854775806 := by
    have h : md ≠ 9223372036854775807 := by simpa using z2
    omega
  have wmd : IntKind.i64.wrap (md + 1) = md + 1 := IntWalk.i64_in _ (by omega)
  cases z6 : (md + 1 == 0)
  rotate_left
  · cases z4 : (t2 != 0)
    · go_wp2_with fail
      go_ret
      exact ⟨rfl, F1.out⟩
    · by_cases z5 : t2 ≤ md
      · go_wp2_with fail
        go_ret
        exact ⟨rfl, F1.out⟩
      · go_wp2_with fail
        go_ret
        exact ⟨rfl, F1.out⟩
  by_cases z5 : (t2 != 0) = true ∧ t2 ≤ md
  · obtain ⟨z4, z5⟩ := z5
    go_wp2_with fail
    go_ret
    exact ⟨rfl, F1.out⟩
  have HM1 := Lib.hid (show md + 1 ≠ 0 from by simpa using z6)
  have Hfm := Lib.hid (show fm ≤ md from by omega)
  have Htb := Lib.hid (show t2 = 0 ∨ md < t2 from by
    by_cases h : t2 = 0
    · exact .inl h
    · exact .inr (by
        apply Decidable.byContradiction
        intro hc
        exact z5 ⟨by simpa using h, by omega⟩))
  go_upto_region 3 with fail
  go_cut [47] from 16 (fun s w' => s = .bool false ∧ w1 = w')
  case first =>
    cases z4 : (t2 != 0)
    · go_wp2_with fail
      go_meet
      exact ⟨by (first | rfl | (congr 1; simp; omega)), rfl⟩
    · have z7 : ¬ t2 ≤ md := fun h => z5 ⟨z4, h⟩
      clear z5
      go_wp2_with fail
      go_meet
      exact ⟨by (first | rfl | (congr 1; simp; omega)), rfl⟩
  case rest =>
  obtain ⟨rfl, rfl⟩ := hcut
  have hlen : cs.length ≤ 100 := by omega
  clear z1 z2 z3 z5 z6
  go_wp2_with fail
  have O0 := Lib.hid (new_o w1)
  have F2 := Lib.hid (F1.out.alloc (.cells #[.slice none 0 0] 27))
  have Hw1 := Lib.hid (show w.heap.size ≤ w1.heap.size from F1.out.size)
  obtain ⟨L, hL⟩ : ∃ L, w1.heap.size = L := ⟨_, rfl⟩
  rw [hL] at O0 Hw1 ⊢
  clear hL
  go_loopw [52] (fun i wr => ∃ k : Nat, k ≤ cs.length ∧ i = .int .i64 k ∧ ∃ S, IsO wr S L (oruns [] (cs.take k)) ∧ (∀ j, S j → w.heap.size ≤ j) ∧ Fr (fun _ => False) w wr) (fun i _ => ((cs.length : Int) - intOf i).toNat)
  case atStart => exact ⟨0, by omega, rfl, _, O0.out, fun j hj => by have hj : j = L := hj; have := Hw1.out; omega, F2.out⟩
  case round =>
    obtain ⟨k, hk, rfl, S, ho, hlow, hf⟩ := hrel
    have HO := Lib.hid ho
    have HLow := Lib.hid hlow
    have HF := Lib.hid hf
    by_cases hlt : k < cs.length
    · obtain ⟨b, off, rfl, hb, x0, x1, x2⟩ := (HR.out.fr hf (fun b hb h => h)).oc hlt
      have hsucc := oruns_succ (ps := []) hlt
      have hln := oruns_len [] (cs.take k)
      have hris := ris_runs (ps := []) List.Pairwise.nil (cs.take k)
      rw [List.length_take, List.length_nil] at hln
      obtain ⟨ys, hys⟩ : ∃ ys, oruns [] (cs.take k) = ys := ⟨_, rfl⟩
      obtain ⟨c, hce⟩ : ∃ c, cs[k] = c := ⟨_, rfl⟩
      rw [hys] at hsucc hln hris HO
      rw [hce] at hsucc x0 x1 x2
      have HSc := Lib.hid hsucc
      have HRi := Lib.hid hris
      have hyl : ys.length ≤ 1000 := by omega
      have hltI : (k : Int) < cs.length := by omega
      have HOc := Lib.hid (show IsO ((wr.alloc (.cells #[.int .i64 c.kind, .int .i64 c.stamp, .int .i64 c.at_] 33)).alloc (.cells #[.slice none 0 0, .slice none 0 0] 31)) S L ys from IsO.fr (S2 := fun _ => False) HO.out (((Fr.refl _ wr).alloc _).alloc _) (fun _ _ h => h))
      have HMc := Lib.hid (new_m (wr.alloc (.cells #[.int .i64 c.kind, .int .i64 c.stamp, .int .i64 c.at_] 33)))
      have hz1 : (wr.alloc (.cells #[.int .i64 c.kind, .int .i64 c.stamp, .int .i64 c.at_] 33)).heap.size = wr.heap.size + 1 := Array.size_push ..
      have hz2 : ((wr.alloc (.cells #[.int .i64 c.kind, .int .i64 c.stamp, .int .i64 c.at_] 33)).alloc (.cells #[.slice none 0 0, .slice none 0 0] 31)).heap.size = wr.heap.size + 2 := by rw [show ((wr.alloc (.cells #[.int .i64 c.kind, .int .i64 c.stamp, .int .i64 c.at_] 33)).alloc (.cells #[.slice none 0 0, .slice none 0 0] 31)).heap.size = (wr.alloc (.cells #[.int .i64 c.kind, .int .i64 c.stamp, .int .i64 c.at_] 33)).heap.size + 1 from Array.size_push .., hz1]
      rw [hz1] at HMc
      have HZ2 := Lib.hid hz2
      have HDj := Lib.hid (show ∀ j, S j → ¬ (fun k => k = wr.heap.size + 1) j from fun j hj h => by have := Rw.lt HO.out hj; have h : j = wr.heap.size + 1 := h; omega)
      have HFc := Lib.hid ((HF.out.alloc (.cells #[.int .i64 c.kind, .int .i64 c.stamp, .int .i64 c.at_] 33)).alloc (.cells #[.slice none 0 0, .slice none 0 0] 31))
      have Hsw := Lib.hid (show w.heap.size ≤ wr.heap.size from HF.out.size)
      clear ho hlow hf hys hce hsucc hris hz1 hz2
      go_wp2_with (go_at_call 8; go_must (with_reducible refine (does_new _ S (fun k => k = wr.heap.size + 1) L (wr.heap.size + 1) ys c HOc.out HMc.out HDj.out hyl HRi.out).mono ?_); rintro e w2 ⟨bb, rfl, S2, o2, f2, g2⟩; have O2 := Lib.hid o2; have Fd := Lib.hid f2; have Gd := Lib.hid g2; clear o2 f2 g2)
      go_roundw
      case rel =>
        refine ⟨k + 1, by omega, by go_num, S2, by rw [HSc.out]; exact O2.out, fun j hj => ?_, HFc.out.then_ Fd.out (fun j hj => ?_)⟩
        · rcases Gd.out j hj with h | h
          · exact HLow.out j h
          · have := HZ2.out; have := Hsw.out; omega
        · rcases hj with h | h
          · exact .inr (HLow.out j h)
          · have h : j = wr.heap.size + 1 := h
            have := Hsw.out
            exact .inr (by omega)
      case measure => simp [intOf]; omega
    · clear ho hlow hf
      obtain rfl : k = cs.length := by omega
      have e : cs.take cs.length = cs := List.take_length
      rw [e] at HO
      have hris := ris_runs (ps := []) List.Pairwise.nil cs
      have hln := oruns_len [] cs
      rw [List.length_nil] at hln
      obtain ⟨ps, hps⟩ : ∃ ps, oruns [] cs = ps := ⟨_, rfl⟩
      rw [hps] at HO hris hln
      have hpl : ps.length ≤ 100 := by omega
      have HRi := Lib.hid hris
      clear e hps hris hln
      go_wp2_with fail
      have PR := range_up wr S L ps fm t2 HO.out (by omega) HRi.out
      with_reducible refine PR.mono ?_
      clear PR
      rintro e w3 ⟨v3, rfl, ov3, f3⟩
      have HW := Lib.hid (range_parts HRi.out HM0.out HM1.out Hfm.out Htb.out)
      have hl0 := range_len (ps := ps) fm t2
      have hl1 := range_len (ps := ps) fm md
      have hl2 := range_len (ps := ps) (md + 1) t2
      obtain ⟨WL, hWL⟩ : ∃ WL, rangeL ps fm t2 = WL := ⟨_, rfl⟩
      obtain ⟨AL, hAL⟩ : ∃ AL, rangeL ps fm md = AL := ⟨_, rfl⟩
      obtain ⟨BL, hBL⟩ : ∃ BL, rangeL ps (md + 1) t2 = BL := ⟨_, rfl⟩
      rw [hWL] at ov3 HW hl0
      rw [hAL] at HW hl1
      rw [hBL] at HW hl2
      obtain ⟨n, hn⟩ : ∃ n, WL.length = n := ⟨_, rfl⟩
      obtain ⟨na, hna⟩ : ∃ na, AL.length = na := ⟨_, rfl⟩
      obtain ⟨nb, hnb⟩ : ∃ nb, BL.length = nb := ⟨_, rfl⟩
      rw [hn] at hl0
      rw [hna] at hl1
      rw [hnb] at hl2
      have HWL := Lib.hid hWL
      have HAL := Lib.hid hAL
      have HBL := Lib.hid hBL
      have HN := Lib.hid hn
      have HNa := Lib.hid hna
      have HNb := Lib.hid hnb
      have Hnn := Lib.hid (show na + nb = n from by rw [← hna, ← hnb, ← hn, ← List.length_append, HW.out])
      obtain ⟨a3, c3, hv3, -, -⟩ := own_form ov3.1
      rw [hn] at hv3
      subst hv3
      have HV3 := Lib.hid (show w3.ownsRow 0 44 2 (.slice a3 n c3) n (prs WL) from hn ▸ ov3.1)
      have O3 := Lib.hid (IsO.fr (S2 := fun _ => False) HO.out f3 (fun _ _ h => h))
      have F3 := Lib.hid (HF.out.then_ f3 (fun _ h => h.elim))
      clear ov3 f3 hWL hAL hBL hn hna hnb
      go_wp2_with fail
      have HE3 := Lib.hid (World.ownsRow_made (base := 0) (e := 44) (size := 2) w3 #[] 0 (Nat.zero_le _) (Nat.zero_le _) rfl)
      have FA3 := Lib.hid ((Fr.refl (fun _ => False) w3).alloc (.cells #[] 44))
      have Hs3 := Lib.hid (show w.heap.size ≤ w3.heap.size from F3.out.size)
      have HV3l := Lib.hid (show ∀ k, (Value.slice a3 n c3).ownBlock = some k → k ≠ w3.heap.size from fun k hk he => by have := own_lt HV3.out hk; omega)
      have HSl := Lib.hid (show ∀ k, S k → k < w3.heap.size from fun k hk => Rw.lt O3.out hk)
      have PR := range_up (w3.alloc (.cells #[] 44)) S L ps fm md (IsO.fr (S2 := fun _ => False) O3.out FA3.out (fun _ _ h => h)) (by omega) HRi.out
      rw [HAL.out] at PR
      with_reducible refine PR.mono ?_
      clear PR
      rintro e w4 ⟨v4, rfl, ov4, f4⟩
      obtain ⟨a4, c4, hv4, -, -⟩ := own_form ov4.1
      rw [HNa.out] at hv4
      subst hv4
      have HV4 := Lib.hid (show w4.ownsRow 0 44 2 (.slice a4 na c4) na (prs AL) from HNa.out ▸ ov4.1)
      have F34 := Lib.hid (FA3.out.then_ f4 (fun _ h => h.elim))
      have HE4 := Lib.hid (own_fr HE3.out f4 (fun _ _ h => h))
      have HS4 := Lib.hid (src_own (P := Try.prog) (tx := 25) Try.underlying25 HV4.out (prs_one AL))
      clear ov4 f4
      go_wp2_with (at_builtin; go_must (refine wpList_append_src w4 rfl (.tmp 66) (.tmp 70) 25 25 rfl 44 i0 (.agg #[.int .i64 0, .int .i64 0]) 2 16 Try.underlying25 hi0 hz0 hz1 hz2 rfl (by decide) (.slice (some ⟨w3.heap.size, 0, none⟩) 0 0) 0 [] rfl HE4.out _ na _ rfl HS4.out (by omega) (by omega) ?_); intro g5 cp5 w5 hown5 hf5 hat5; rw [Nat.zero_add] at hown5 hat5 ⊢; have HV5 := Lib.hid hown5; have HF5 := Lib.hid hf5; have HT5 := Lib.hid hat5; clear hown5 hf5 hat5)
      have F45 := Lib.hid (show Fr (fun k => k = w3.heap.size) w3 w5 from (F34.out.mono (fun _ h => h.elim)).then_ HF5.out (fun k hk => .inl (by have h : some w3.heap.size = some k := hk; simp only [Option.some.injEq] at h; exact h.symm)))
      have HV35 := Lib.hid (own_fr HV3.out F45.out (fun k hk h => HV3l.out k hk h))
      have O5 := Lib.hid (IsO.fr O3.out F45.out (fun k hk h => by have := HSl.out k hk; have h : k = w3.heap.size := h; omega))
      have F5 := Lib.hid (F3.out.then_ F45.out (fun k hk => .inr (by have hk : k = w3.heap.size := hk; have := Hs3.out; omega)))
      have HT5l := Lib.hid (show ∀ k, (Value.slice g5 na cp5).ownBlock = some k → w3.heap.size ≤ k from fun k hk => by
        rcases HT5.out k hk with h | h
        · have h : some w3.heap.size = some k := h
          simp only [Option.some.injEq] at h
          omega
        · have := F34.out.size; omega)
      have PR := range_up w5 S L ps (md + 1) t2 O5.out (by omega) HRi.out
      rw [HBL.out] at PR
      with_reducible refine PR.mono ?_
      clear PR
      rintro e w6 ⟨v6, rfl, ov6, f6⟩
      obtain ⟨a6, c6, hv6, -, -⟩ := own_form ov6.1
      rw [HNb.out] at hv6
      subst hv6
      have HV6 := Lib.hid (show w6.ownsRow 0 44 2 (.slice a6 nb c6) nb (prs BL) from HNb.out ▸ ov6.1)
      have HV56 := Lib.hid (own_fr HV5.out f6 (fun _ _ h => h))
      have HS6 := Lib.hid (src_own (P := Try.prog) (tx := 25) Try.underlying25 HV6.out (prs_one BL))
      have F56 := Lib.hid f6
      clear ov6 f6
      go_wp2_with (at_builtin; go_must (refine wpList_append_src w6 rfl (.tmp 71) (.tmp 76) 25 25 rfl 44 i0 (.agg #[.int .i64 0, .int .i64 0]) 2 16 Try.underlying25 hi0 hz0 hz1 hz2 rfl (by decide) (.slice g5 na cp5) na _ rfl HV56.out _ nb _ rfl HS6.out (by omega) (by omega) ?_); intro g7 cp7 w7 hown7 hf7 hat7; rw [Hnn.out] at hown7 hat7 ⊢; have HV7 := Lib.hid hown7; have HF7 := Lib.hid hf7; clear hown7 hf7 hat7)
      have F57 := Lib.hid (show Fr (fun k => w3.heap.size ≤ k) w5 w7 from (F56.out.mono (fun _ h => h.elim)).then_ HF7.out (fun k hk => .inl (HT5l.out k hk)))
      have HV37 := Lib.hid (own_fr HV35.out F57.out (fun k hk h => by have := own_lt HV3.out hk; have h : w3.heap.size ≤ k := h; omega))
      have O7 := Lib.hid (IsO.fr O5.out F57.out (fun k hk h => by have := HSl.out k hk; have h : w3.heap.size ≤ k := h; omega))
      have F7 := Lib.hid (F5.out.then_ F57.out (fun k hk => .inr (by have hk : w3.heap.size ≤ k := hk; have := Hs3.out; omega)))
      have HV7w := Lib.hid (show w7.ownsRow 0 44 2 (.slice g7 n cp7) n (prs WL) from by
        have h := HV7.out
        rw [List.nil_append, ← prs_app, HW.out] at h
        exact h)
      have PR := range_dn w7 S L ps fm t2 O7.out (by omega) HRi.out
      rw [HWL.out] at PR
      with_reducible refine PR.mono ?_
      clear PR
      rintro e w8 ⟨v8, rfl, ov8, f8⟩
      obtain ⟨a8, c8, hv8, -, -⟩ := own_form ov8.1
      rw [List.length_reverse, HN.out] at hv8
      subst hv8
      have HV8 := Lib.hid (show w8.ownsRow 0 44 2 (.slice a8 n c8) n (prs WL.reverse) from by
        have h := ov8.1
        rw [List.length_reverse, HN.out] at h
        exact h)
      have HV38 := Lib.hid (own_fr HV37.out f8 (fun _ _ h => h))
      have HV78 := Lib.hid (own_fr HV7w.out f8 (fun _ _ h => h))
      have F8 := Lib.hid (F7.out.then_ f8 (fun _ h => h.elim))
      clear ov8 f8
      go_wp2_with fail
      go_loopw [96] (fun i wr => ∃ j : Nat, j ≤ n ∧ i = .int .i64 j ∧ Fr (fun _ => False) w8 wr) (fun i _ => ((n : Int) - intOf i).toNat)
      case atStart => exact ⟨0, by omega, rfl, Fr.refl _ _⟩
      case round =>
        obtain ⟨j, hj, rfl, hf9⟩ := hrel
        have HF9 := Lib.hid hf9
        by_cases hjm : j < n
        · have hjI : (j : Int) < n := by omega
          have hjl : j < WL.length := by rw [HN.out]; exact hjm
          obtain ⟨g3, cc3, e3⟩ := own_some HV38.out (by omega)
          simp only [Value.slice.injEq] at e3
          obtain ⟨rfl, -, rfl⟩ := e3
          obtain ⟨gg7, cc7, e7⟩ := own_some HV78.out (by omega)
          simp only [Value.slice.injEq] at e7
          obtain ⟨rfl, -, rfl⟩ := e7
          obtain ⟨gg8, cc8, e8⟩ := own_some HV8.out (by omega)
          simp only [Value.slice.injEq] at e8
          obtain ⟨rfl, -, rfl⟩ := e8
          obtain ⟨m, hm⟩ : ∃ m, n - 1 - j = m := ⟨_, rfl⟩
          have hml : m < WL.reverse.length := by rw [List.length_reverse, HN.out]; omega
          have hge : WL.reverse[m] = WL[j] := by
            rw [List.getElem_reverse]
            congr 1
            rw [HN.out]
            omega
          obtain ⟨p0, p1⟩ := own_pair (own_fr HV38.out hf9 (fun _ _ h => h)) HN.out hjl
          obtain ⟨q0, q1⟩ := own_pair (own_fr HV78.out hf9 (fun _ _ h => h)) HN.out hjl
          obtain ⟨r0, r1⟩ := own_pair (own_fr HV8.out hf9 (fun _ _ h => h)) (by rw [List.length_reverse]; exact HN.out) hml
          rw [hge] at r0 r1
          obtain ⟨x, hx⟩ : ∃ x, WL[j].1 = x := ⟨_, rfl⟩
          obtain ⟨y, hy⟩ : ∃ y, WL[j].2 = y := ⟨_, rfl⟩
          rw [hx] at p0 q0 r0
          rw [hy] at p1 q1 r1
          have w1 : IntKind.i64.wrap ((j : Int) + 1) = j + 1 := IntWalk.i64_in _ (by omega)
          have wn : IntKind.i64.wrap ((n : Int) - 1) = n - 1 := IntWalk.i64_in _ (by omega)
          have wm : IntKind.i64.wrap ((n : Int) - 1 - j) = m := by rw [IntWalk.i64_in _ (by omega)]; omega
          have hm0 : 0 ≤ (m : Int) := by omega
          have hmI : (m : Int) < n := by omega
          clear hf9 hx hy hge hm
          go_wp2_with fail
          go_quiet (fail)
          go_wp2_with fail
          go_roundw
          case rel => exact ⟨j + 1, by omega, by go_num, by (repeat (first | (with_reducible exact Fr.refl _ _) | (with_reducible refine Fr.drew ?_) | (with_reducible refine Fr.drewN ?_ _) | (with_reducible refine Fr.alloc ?_ _) | (with_reducible refine Fr.set1 ?_ _) | (with_reducible refine Fr.setNew ?_ (by omega) _))) <;> exact HF9.out⟩
          case measure => simp [intOf]; omega
        · have hjI : ¬ (j : Int) < n := by omega
          clear hf9
          go_wp2_with fail
          go_ret
          exact ⟨rfl, F8.out.then_ HF9.out (fun _ h => h.elim)⟩
end Go.Proofs.Ytjegnhcpepkpoaa
