/- Law 12: the walk of OrderDoes. -/
import Derived.Test.YtjegnhcpepkpoaaOrdS
namespace Go.Proofs.Ytjegnhcpepkpoaa
open Go.RowKit

set_option maxRecDepth 4000 in
set_option maxHeartbeats 3200000 in
theorem odoes_any (w : World) (a : Option Addr) (cap : Nat) (cs : List OC) (fm t2 : Int) (hr : Row w a (cs.flatMap OC.cells)) (hB : ∀ c ∈ cs, -9223372036854775808 ≤ c.stamp) :
    Calls Try.prog 3 #[.slice a cs.length cap, .int .i64 fm, .int .i64 t2] w fun r w' => r = .returned (.bool true) ∧ Fr (fun _ => False) w w' := by
  have HR := Lib.hid hr
  have HBd := Lib.hid hB
  clear hr hB
  go_enter Try.func3, Try.ntmps3
  go_wp2_with fail
  refine (alive12_any w).mono ?_
  rintro e w1 ⟨rfl, f1⟩
  have F1 := Lib.hid f1
  clear f1
  by_cases hbig : (100 : Int) < cs.length
  · go_wp2_with fail
    go_ret
    exact ⟨rfl, F1.out⟩
  have hlen : cs.length ≤ 100 := by omega
  go_wp2_with fail
  have O0 := Lib.hid (new_o w1)
  have M0 := Lib.hid (new_m (w1.alloc (.cells #[.slice none 0 0] 27)))
  have O0' := Lib.hid (IsO.fr (S2 := fun _ => False) O0.out ((Fr.refl _ _).alloc (.cells #[.slice none 0 0, .slice none 0 0] 31)) (fun _ _ h => h))
  have F2 := Lib.hid ((F1.out.alloc (.cells #[.slice none 0 0] 27)).alloc (.cells #[.slice none 0 0, .slice none 0 0] 31))
  have Hw1 := Lib.hid (show w.heap.size ≤ w1.heap.size from F1.out.size)
  have hz1 : (w1.alloc (.cells #[.slice none 0 0] 27)).heap.size = w1.heap.size + 1 := Array.size_push ..
  rw [hz1] at M0
  clear O0 hz1
  obtain ⟨L, hL⟩ : ∃ L, w1.heap.size = L := ⟨_, rfl⟩
  rw [hL] at O0' M0 Hw1 ⊢
  clear hL
  obtain ⟨M, hM⟩ : ∃ M, L + 1 = M := ⟨_, rfl⟩
  have HML := Lib.hid hM
  rw [hM] at M0 ⊢
  clear hM
  go_loopw [30] (fun i wr => ∃ k : Nat, k ≤ cs.length ∧ i = .int .i64 k ∧ ∃ S T ss aa, IsO wr S L (oruns [] (cs.take k)) ∧ IsM wr T M ss aa ∧ Both (oruns [] (cs.take k)) ss aa ∧ (∀ j, S j → ¬ T j) ∧ (∀ j, S j → w.heap.size ≤ j) ∧ (∀ j, T j → w.heap.size ≤ j) ∧ Fr (fun _ => False) w wr) (fun i _ => ((cs.length : Int) - intOf i).toNat)
  case atStart => exact ⟨0, by omega, rfl, _, _, [], [], O0'.out, M0.out, both_nil, fun j h1 h2 => by have h1 : j = L := h1; have h2 : j = M := h2; have := HML.out; omega, fun j hj => by have hj : j = L := hj; have := Hw1.out; omega, fun j hj => by have hj : j = M := hj; have := Hw1.out; have := HML.out; omega, F2.out⟩
  case round =>
    obtain ⟨k, hk, rfl, S, T, ss, aa, ho, hm, hb, hd, hlow, hlowT, hf⟩ := hrel
    have HO := Lib.hid ho
    have HM := Lib.hid hm
    have HB := Lib.hid hb
    have HD := Lib.hid hd
    have HLow := Lib.hid hlow
    have HLowT := Lib.hid hlowT
    have HF := Lib.hid hf
    by_cases hlt : k < cs.length
    · obtain ⟨b, off, rfl, hbk, x0, x1, x2⟩ := (HR.out.fr hf (fun b hb h => h)).oc hlt
      have hsucc := oruns_succ (ps := []) hlt
      have hln := oruns_len [] (cs.take k)
      have hris := ris_runs (ps := []) List.Pairwise.nil (cs.take k)
      rw [List.length_take, List.length_nil] at hln
      obtain ⟨ys, hys⟩ : ∃ ys, oruns [] (cs.take k) = ys := ⟨_, rfl⟩
      obtain ⟨c, hce⟩ : ∃ c, cs[k] = c := ⟨_, rfl⟩
      rw [hys] at hsucc hln hris HO HB
      rw [hce] at hsucc x0 x1 x2
      have HSc := Lib.hid hsucc
      have HRi := Lib.hid hris
      have hyl : ys.length ≤ 1000 := by omega
      have hltI : (k : Int) < cs.length := by omega
      have w1 : IntKind.i64.wrap ((k : Int) + 1) = k + 1 := IntWalk.i64_in _ (by omega)
      have FAc := Lib.hid ((Fr.refl (fun _ => False) wr).alloc (.cells #[.int .i64 c.kind, .int .i64 c.stamp, .int .i64 c.at_] 33))
      have Hbc := Lib.hid (heap_alloc_new wr (.cells #[.int .i64 c.kind, .int .i64 c.stamp, .int .i64 c.at_] 33))
      have q0 := blk_cell Hbc.out 0 rfl
      have q1 := blk_cell Hbc.out 1 rfl
      have q2 := blk_cell Hbc.out 2 rfl
      have Hns := Lib.hid (show ¬ S wr.heap.size ∧ ¬ T wr.heap.size from ⟨fun h2 => by have := Rw.lt ho h2; omega, fun h2 => by have := hm.lt h2; omega⟩)
      have Hsw := Lib.hid (show w.heap.size ≤ wr.heap.size from HF.out.size)
      have Hcl := Lib.hid (show (c.run ys).length ≤ 1000 from by have := orun_len ys c; omega)
      have HD1 := Lib.hid (fun W (h : Fr (fun _ => False) wr W) => does_any W S T L M ys ss aa c (IsO.fr HO.out h (fun _ _ h => h)) (IsM.fr HM.out h (fun _ _ h => h)) HD.out hyl HRi.out HB.out)
      clear ho hm hb hd hlow hlowT hf hys hce hsucc hris hln
      go_upto_region 9 with fail
      go_region_law
        (first
          | (go_simp; go_at_call 8; go_must (with_reducible refine (HD1.out _ (FAc.out.then_ (S2 := fun _ => False) (by repeat (first | (with_reducible exact Fr.refl _ _) | (with_reducible refine Fr.drew ?_) | (with_reducible refine Fr.drewN ?_ _) | (with_reducible refine Fr.alloc ?_ _) | (with_reducible refine Fr.set1 ?_ _) | (with_reducible refine Fr.setNew ?_ (by omega) _))) (fun _ h => h.elim))).mono ?_); rintro e w2 ⟨rfl, S2, T2, ss2, aa2, o2, m2, b2, d2, f2, g2, gt2⟩; have hn2 := b2.len (ris_run HRi.out c); obtain ⟨n2, hn2'⟩ : ∃ n2, ss2.length = n2 := ⟨_, rfl⟩; rw [hn2'] at hn2; obtain ⟨v1, v2, hb2, o12, -, -, -, -, -, -⟩ := IsM.fr (S2 := fun _ => False) m2 (Fr.refl _ _) (fun _ _ h => h); obtain ⟨a1, c1, rfl, -, -⟩ := own_form o12; have c0 := blk_cell hb2 0 rfl; rw [hn2'] at c0; have HLn := Lib.hid (olen_any w2 S2 L _ o2); rw [hn2] at HLn; have hbc2 := f2.blk (blk_drew Hbc.out) (fun h => h.elim Hns.out.1 Hns.out.2); have q0 := blk_cell hbc2 0 rfl; have q1 := blk_cell hbc2 1 rfl; have q2 := blk_cell hbc2 2 rfl; have O2 := Lib.hid o2; have M2 := Lib.hid m2; have B2 := Lib.hid b2; have D2 := Lib.hid d2; have Fd := Lib.hid f2; have G2 := Lib.hid g2; have GT2 := Lib.hid gt2; clear hn2 hn2' hb2 o12 hbc2 o2 m2 b2 d2 f2 g2 gt2)
          | (go_simp; go_at_call 9; go_must (with_reducible refine HLn.out.mono ?_); rintro e w3 ⟨rfl, rfl⟩))
      all_goals
        go_wp2_with fail
        go_roundw
        case rel =>
          have hsz : ((wr.alloc (.cells #[.int .i64 c.kind, .int .i64 c.stamp, .int .i64 c.at_] 33)).drew).heap.size = wr.heap.size + 1 := Array.size_push ..
          refine ⟨k + 1, by omega, by go_num, S2, T2, ss2, aa2, by rw [HSc.out]; exact O2.out, M2.out, by rw [HSc.out]; exact B2.out, D2.out, fun j hj => ?_, fun j hj => ?_, ?_⟩
          · rcases G2.out j hj with h | h
            · exact HLow.out j h
            · have := Hsw.out; omega
          · rcases GT2.out j hj with h | h
            · exact HLowT.out j h
            · have := Hsw.out; omega
          · exact (HF.out.then_ FAc.out (fun _ h => h.elim)).drew.then_ Fd.out (fun j hj => .inr (hj.elim (HLow.out j) (HLowT.out j)))
        case measure => simp [intOf]; omega
    · clear ho hm hb hd hlow hlowT hf
      obtain rfl : k = cs.length := by omega
      have e : cs.take cs.length = cs := List.take_length
      rw [e] at HO HB
      have hris := ris_runs (ps := []) List.Pairwise.nil cs
      have hln := oruns_len [] cs
      have hbd := runs_bnd (ps := []) (fun _ h => nomatch h) HBd.out
      rw [List.length_nil] at hln
      obtain ⟨ps, hps⟩ : ∃ ps, oruns [] cs = ps := ⟨_, rfl⟩
      rw [hps] at HO HB hris hln hbd
      have hpl : ps.length ≤ 1000 := by omega
      have HRi := Lib.hid hris
      have Hra := Lib.hid (range_all hbd)
      have Hlr := Lib.hid (last_rev ps)
      have hrl := range_len (ps := ps) fm t2
      have HPL := Lib.hid hpl
      obtain ⟨R, hRe⟩ : ∃ R, rangeL ps fm t2 = R := ⟨_, rfl⟩
      rw [hRe] at hrl
      obtain ⟨m, hm⟩ : ∃ m, R.length = m := ⟨_, rfl⟩
      have HRe := Lib.hid hRe
      have HMl := Lib.hid hm
      have Hmb := Lib.hid (show m ≤ 1000 from by omega)
      clear e hps hris hbd hln hRe hm hrl
      go_wp2_with fail
      have PR := mrange_up wr T M ps ss aa fm t2 HM.out HB.out HRi.out HPL.out
      rw [HRe.out, HMl.out] at PR
      with_reducible refine PR.mono ?_
      clear PR
      rintro e w2 ⟨v1, v2, rfl, o1, o2, f2⟩
      have M2 := Lib.hid (IsM.fr (S2 := fun _ => False) HM.out f2 (fun _ _ h => h))
      have O1 := Lib.hid o1
      have O2 := Lib.hid o2
      have F2' := Lib.hid f2
      clear o1 o2 f2
      go_wp2_with fail
      have PR := mrange_dn w2 T M ps ss aa fm t2 M2.out HB.out HRi.out HPL.out
      rw [HRe.out, HMl.out] at PR
      with_reducible refine PR.mono ?_
      clear PR
      rintro e w3 ⟨v3, v4, rfl, o3, o4, f3⟩
      have M3 := Lib.hid (IsM.fr (S2 := fun _ => False) M2.out f3 (fun _ _ h => h))
      have O3 := Lib.hid o3
      have O4 := Lib.hid o4
      have F23 := Lib.hid f3
      have F3 := Lib.hid (F2'.out.then_ f3 (fun _ h => h.elim))
      clear o3 o4 f3
      go_wp2_with fail
      have PR := mrange_dn w3 T M ps ss aa (-9223372036854775808) 0 M3.out HB.out HRi.out HPL.out
      rw [Hra.out] at PR
      with_reducible refine PR.mono ?_
      clear PR
      rintro e w4 ⟨v5, v6, rfl, o5, o6, f4⟩
      obtain ⟨n, hn⟩ : ∃ n, ps.length = n := ⟨_, rfl⟩
      have HN := Lib.hid hn
      rw [hn] at o5
      obtain ⟨a5, c5, rfl, -, -⟩ := own_form o5
      have O5 := Lib.hid o5
      have F34 := Lib.hid f4
      have F4loc := Lib.hid (F3.out.then_ f4 (fun _ h => h.elim))
      have F4 := Lib.hid (HF.out.then_ F4loc.out (fun _ h => h.elim))
      obtain ⟨lv, hlv⟩ : ∃ lv, (ps.getLast?.map (·.1)).getD 0 = lv := ⟨_, rfl⟩
      have HLv := Lib.hid hlv
      clear o5 o6 f4 hn hlv
      go_upto_if 71 with fail
      go_cut [17] from 69 (fun s w' => s = .int .i64 lv ∧ w4 = w')
      case first =>
        by_cases hz : 0 < n
        · have hzI : (0 : Int) < n := by omega
          obtain ⟨g, cc, e1⟩ := own_some O5.out hz
          simp only [Value.slice.injEq] at e1
          obtain ⟨rfl, -, rfl⟩ := e1
          have hl1 : (ps.reverse.map (·.1)).length = n := by simpa using HN.out
          have s0 := own_int O5.out (i := 0) (by omega) hl1
          have hv := Hlr.out
          rw [dif_pos (by rw [HN.out]; exact hz), HLv.out] at hv
          rw [← hv] at s0
          clear hl1 hv
          go_wp2_with fail
          go_meet
          exact ⟨rfl, rfl⟩
        · have hzI : ¬ (0 : Int) < n := by omega
          have hv := Hlr.out
          rw [dif_neg (by rw [HN.out]; exact hz), HLv.out] at hv
          have HV0 := Lib.hid hv
          clear hv
          go_wp2_with fail
          go_meet
          exact ⟨by rw [HV0.out], rfl⟩
      case rest =>
      obtain ⟨rfl, rfl⟩ := hcut
      have F24 := Lib.hid (F23.out.then_ F34.out (fun _ h => h.elim))
      have OL4 := Lib.hid (IsO.fr (S2 := fun _ => False) HO.out F4loc.out (fun _ _ h => h))
      go_wp2_with fail
      have PR := range_up w4 S L ps fm t2 OL4.out HPL.out HRi.out
      rw [HRe.out] at PR
      with_reducible refine PR.mono ?_
      clear PR
      rintro e w5 ⟨v7, rfl, ov5, f5⟩
      have ov5r := ov5.1
      rw [HMl.out] at ov5r
      have PS := same_any w5 v7 v1 v2 R m HMl.out ov5r (own_fr O1.out (F24.out.then_ f5 (fun _ h => h.elim)) (fun _ _ h => h)) (own_fr O2.out (F24.out.then_ f5 (fun _ h => h.elim)) (fun _ _ h => h)) Hmb.out
      have HPS := Lib.hid PS
      have F45 := Lib.hid f5
      clear ov5 ov5r PS f5
      go_wp2_with fail
      with_reducible refine HPS.out.mono ?_
      rintro e w6 ⟨rfl, f6⟩
      have F46 := Lib.hid (F45.out.then_ f6 (fun _ h => h.elim))
      clear f6 HPS
      go_wp2_with fail
      have PR := range_dn w6 S L ps fm t2 (IsO.fr (S2 := fun _ => False) OL4.out F46.out (fun _ _ h => h)) HPL.out HRi.out
      rw [HRe.out] at PR
      with_reducible refine PR.mono ?_
      clear PR
      rintro e w7 ⟨v8, rfl, ov7, f7⟩
      have ov7r := ov7.1
      rw [List.length_reverse, HMl.out] at ov7r
      have f37 := (F34.out.then_ F46.out (fun _ h => h.elim)).then_ f7 (fun _ h => h.elim)
      have PS := same_any w7 v8 v3 v4 R.reverse m (by rw [List.length_reverse]; exact HMl.out) ov7r (own_fr O3.out f37 (fun _ _ h => h)) (own_fr O4.out f37 (fun _ _ h => h)) Hmb.out
      have HPS := Lib.hid PS
      have F47 := Lib.hid (F46.out.then_ f7 (fun _ h => h.elim))
      clear ov7 ov7r PS f7 f37
      go_wp2_with fail
      with_reducible refine HPS.out.mono ?_
      rintro e w8 ⟨rfl, f8⟩
      have F48 := Lib.hid (F47.out.then_ f8 (fun _ h => h.elim))
      clear f8 HPS
      have PL := olast_any w8 S L ps (IsO.fr (S2 := fun _ => False) OL4.out F48.out (fun _ _ h => h)) HPL.out
      rw [HLv.out] at PL
      have HPL2 := Lib.hid PL
      clear PL
      go_wp2_with fail
      with_reducible refine HPL2.out.mono ?_
      rintro e w9 ⟨rfl, f9⟩
      have F49 := Lib.hid (F48.out.then_ f9 (fun _ h => h.elim))
      clear f9 HPL2
      go_wp2_with (first
        | (go_at_call 14; (with_reducible refine (none_put _ _ _).mono ?_); rintro e w2 ⟨rfl, rfl⟩)
        | (go_at_call 15; (with_reducible refine (none_drop _ _).mono ?_); rintro e w2 ⟨rfl, rfl⟩)
        | (go_at_call 12; (with_reducible refine (none_range _ _ _ _).mono ?_); rintro e w2 ⟨rfl, rfl⟩)
        | (go_at_call 9; (with_reducible refine (none_len _).mono ?_); rintro e w2 ⟨rfl, rfl⟩)
        | (go_at_call 13; (with_reducible refine (none_last _).mono ?_); rintro e w2 ⟨rfl, rfl⟩))
      go_ret
      exact ⟨rfl, F4.out.then_ F49.out (fun _ h => h.elim)⟩
end Go.Proofs.Ytjegnhcpepkpoaa
