/- Law 12: the walk of OrderNew. -/
import Derived.Test.YtjegnhcpepkpoaaOrdS
namespace Go.Proofs.Ytjegnhcpepkpoaa
open Go.RowKit

set_option maxRecDepth 4000 in
set_option maxHeartbeats 3200000 in
theorem onew_any (w : World) (a : Option Addr) (cap : Nat) (cs : List OC) (hr : Row w a (cs.flatMap OC.cells)) (hB : ∀ c ∈ cs, -9223372036854775808 ≤ c.stamp) :
    Calls Try.prog 5 #[.slice a cs.length cap] w fun r w' => r = .returned (.bool true) ∧ Fr (fun _ => False) w w' := by
  have HR := Lib.hid hr
  have HBd := Lib.hid hB
  clear hr hB
  go_enter Try.func5, Try.ntmps5
  go_wp2_with fail
  refine (alive12_any w).mono ?_
  rintro e w1 ⟨rfl, f1⟩
  have F1 := Lib.hid f1
  clear f1
  by_cases hbig : (100 : Int) < cs.length
  · go_wp2_with fail
    go_ret
    exact ⟨rfl, F1.out⟩
  have hlen : cs.length ≤ 100 := by omega
  go_wp2_with fail
  have O0 := Lib.hid (new_o w1)
  have M0 := Lib.hid (new_m (w1.alloc (.cells #[.slice none 0 0] 27)))
  have O0' := Lib.hid (IsO.fr (S2 := fun _ => False) O0.out ((Fr.refl _ _).alloc (.cells #[.slice none 0 0, .slice none 0 0] 31)) (fun _ _ h => h))
  have F2 := Lib.hid ((F1.out.alloc (.cells #[.slice none 0 0] 27)).alloc (.cells #[.slice none 0 0, .slice none 0 0] 31))
  have Hw1 := Lib.hid (show w.heap.size ≤ w1.heap.size from F1.out.size)
  have hz1 : (w1.alloc (.cells #[.slice none 0 0] 27)).heap.size = w1.heap.size + 1 := Array.size_push ..
  rw [hz1] at M0
  clear O0 hz1
  obtain ⟨L, hL⟩ : ∃ L, w1.heap.size = L := ⟨_, rfl⟩
  rw [hL] at O0' M0 Hw1 ⊢
  clear hL
  obtain ⟨M, hM⟩ : ∃ M, L + 1 = M := ⟨_, rfl⟩
  have HML := Lib.hid hM
  rw [hM] at M0 ⊢
  clear hM
  go_loopw [22] (fun i wr => ∃ k : Nat, k ≤ cs.length ∧ i = .int .i64 k ∧ ∃ S T ss aa, IsO wr S L (oruns [] (cs.take k)) ∧ IsM wr T M ss aa ∧ Both (oruns [] (cs.take k)) ss aa ∧ (∀ j, S j → ¬ T j) ∧ (∀ j, S j → w.heap.size ≤ j) ∧ (∀ j, T j → w.heap.size ≤ j) ∧ Fr (fun _ => False) w wr) (fun i _ => ((cs.length : Int) - intOf i).toNat)
  case atStart => exact ⟨0, by omega, rfl, _, _, [], [], O0'.out, M0.out, both_nil, fun j h1 h2 => by have h1 : j = L := h1; have h2 : j = M := h2; have := HML.out; omega, fun j hj => by have hj : j = L := hj; have := Hw1.out; omega, fun j hj => by have hj : j = M := hj; have := Hw1.out; have := HML.out; omega, F2.out⟩
  case round =>
    obtain ⟨k, hk, rfl, S, T, ss, aa, ho, hm, hb, hd, hlow, hlowT, hf⟩ := hrel
    have HO := Lib.hid ho
    have HM := Lib.hid hm
    have HB := Lib.hid hb
    have HD := Lib.hid hd
    have HLow := Lib.hid hlow
    have HLowT := Lib.hid hlowT
    have HF := Lib.hid hf
    by_cases hlt : k < cs.length
    · obtain ⟨b, off, rfl, hbk, x0, x1, x2⟩ := (HR.out.fr hf (fun b hb h => h)).oc hlt
      have hsucc := oruns_succ (ps := []) hlt
      have hln := oruns_len [] (cs.take k)
      have hris := ris_runs (ps := []) List.Pairwise.nil (cs.take k)
      rw [List.length_take, List.length_nil] at hln
      obtain ⟨ys, hys⟩ : ∃ ys, oruns [] (cs.take k) = ys := ⟨_, rfl⟩
      obtain ⟨c, hce⟩ : ∃ c, cs[k] = c := ⟨_, rfl⟩
      rw [hys] at hsucc hln hris HO HB
      rw [hce] at hsucc x0 x1 x2
      have HSc := Lib.hid hsucc
      have HRi := Lib.hid hris
      have hyl : ys.length ≤ 1000 := by omega
      have hltI : (k : Int) < cs.length := by omega
      have w1 : IntKind.i64.wrap ((k : Int) + 1) = k + 1 := IntWalk.i64_in _ (by omega)
      have FAc := Lib.hid ((Fr.refl (fun _ => False) wr).alloc (.cells #[.int .i64 c.kind, .int .i64 c.stamp, .int .i64 c.at_] 33))
      have Hsw := Lib.hid (show w.heap.size ≤ wr.heap.size from HF.out.size)
      have HD1 := Lib.hid (does_any (wr.alloc (.cells #[.int .i64 c.kind, .int .i64 c.stamp, .int .i64 c.at_] 33)) S T L M ys ss aa c (IsO.fr HO.out FAc.out (fun _ _ h => h)) (IsM.fr HM.out FAc.out (fun _ _ h => h)) HD.out hyl HRi.out HB.out)
      clear ho hm hb hd hlow hlowT hf hys hce hsucc hris hln
      go_wp2_with (go_at_call 8; go_must (with_reducible refine HD1.out.mono ?_); rintro e w2 ⟨rfl, S2, T2, ss2, aa2, o2, m2, b2, d2, f2, g2, gt2⟩; have O2 := Lib.hid o2; have M2 := Lib.hid m2; have B2 := Lib.hid b2; have D2 := Lib.hid d2; have Fd := Lib.hid f2; have G2 := Lib.hid g2; have GT2 := Lib.hid gt2; clear o2 m2 b2 d2 f2 g2 gt2)
      go_roundw
      case rel =>
        have hsz : (wr.alloc (.cells #[.int .i64 c.kind, .int .i64 c.stamp, .int .i64 c.at_] 33)).heap.size = wr.heap.size + 1 := Array.size_push ..
        refine ⟨k + 1, by omega, by go_num, S2, T2, ss2, aa2, by rw [HSc.out]; exact O2.out, M2.out, by rw [HSc.out]; exact B2.out, D2.out, fun j hj => ?_, fun j hj => ?_, ?_⟩
        · rcases G2.out j hj with h | h
          · exact HLow.out j h
          · have := Hsw.out; omega
        · rcases GT2.out j hj with h | h
          · exact HLowT.out j h
          · have := Hsw.out; omega
        · exact (HF.out.then_ FAc.out (fun _ h => h.elim)).then_ Fd.out (fun j hj => .inr (hj.elim (HLow.out j) (HLowT.out j)))
      case measure => simp [intOf]; omega
    · clear ho hm hb hd hlow hlowT hf
      obtain rfl : k = cs.length := by omega
      have e : cs.take cs.length = cs := List.take_length
      rw [e] at HO HB
      have hris := ris_runs (ps := []) List.Pairwise.nil cs
      have hln := oruns_len [] cs
      have hbd := runs_bnd (ps := []) (fun _ h => nomatch h) HBd.out
      rw [List.length_nil] at hln
      obtain ⟨ps, hps⟩ : ∃ ps, oruns [] cs = ps := ⟨_, rfl⟩
      rw [hps] at HO HB hris hln hbd
      have hpl : ps.length ≤ 1000 := by omega
      have HRi := Lib.hid hris
      have Hra := Lib.hid (range_all hbd)
      have HPL := Lib.hid hpl
      obtain ⟨n, hn⟩ : ∃ n, ps.length = n := ⟨_, rfl⟩
      have HN := Lib.hid hn
      rw [hn] at hpl
      clear e hps hris hbd hln hn
      go_wp2_with fail
      have PR := range_up wr S L ps (-9223372036854775808) 0 HO.out HPL.out HRi.out
      rw [Hra.out] at PR
      with_reducible refine PR.mono ?_
      clear PR
      rintro e w3 ⟨v3, rfl, ov3, f3⟩
      have hnew : ∀ j, v3.ownBlock = some j → wr.heap.size ≤ j := fun j hj => by
        rcases ov3.2 j hj with h | h
        · exact h.elim
        · exact h.1
      have HNew := Lib.hid hnew
      have O3 := Lib.hid (IsO.fr (S2 := fun _ => False) HO.out f3 (fun _ _ h => h))
      have M3 := Lib.hid (IsM.fr (S2 := fun _ => False) HM.out f3 (fun _ _ h => h))
      have F3 := Lib.hid (HF.out.then_ f3 (fun _ h => h.elim))
      have HSl := Lib.hid (show ∀ j, S j → j < wr.heap.size from fun j hj => Rw.lt HO.out hj)
      have HTl := Lib.hid (show ∀ j, T j → j < wr.heap.size from fun j hj => HM.out.lt hj)
      have ov := ov3.1
      rw [HN.out] at ov
      obtain ⟨a3, c3, rfl, -, -⟩ := own_form ov
      have OV3 := Lib.hid ov
      have Hsw := Lib.hid (show w.heap.size ≤ wr.heap.size from HF.out.size)
      obtain ⟨B0, hB0⟩ : ∃ B0, wr.heap.size = B0 := ⟨_, rfl⟩
      rw [hB0] at HNew HSl HTl Hsw
      clear ov3 ov f3 hnew hB0
      go_wp2_with fail
      go_loopw [35] (fun i w4 => ∃ j : Nat, j ≤ n ∧ i = .int .i64 j ∧ (∃ vs, w4.ownsRow 0 44 2 (.slice a3 n c3) n vs) ∧ Fr (fun k => (Value.slice a3 n c3).ownBlock = some k) w3 w4) (fun i _ => ((n : Int) - intOf i).toNat)
      case atStart => exact ⟨0, by omega, rfl, ⟨_, OV3.out⟩, Fr.refl _ _⟩
      case round =>
        obtain ⟨j, hj, rfl, ⟨vs, hv⟩, hf⟩ := hrel
        have HV := Lib.hid hv
        have HF4 := Lib.hid hf
        by_cases hjn : j < n
        · have hjI : (j : Int) < n := by omega
          obtain ⟨g, cc, e1⟩ := own_some hv (by omega)
          simp only [Value.slice.injEq] at e1
          obtain ⟨rfl, -, rfl⟩ := e1
          have hvl := hv.1
          have p0 := (hv.cellAt (j * 2) (by omega))
          have p1 := (hv.cellAt (j * 2 + 1) (by omega))
          rw [List.getElem?_eq_getElem (by omega)] at p0 p1
          have fz0 := hv.frozenAt (j * 2)
          have fz1 := hv.frozenAt (j * 2 + 1)
          obtain ⟨x0, hx0⟩ : ∃ x0, vs[j * 2]'(by omega) = x0 := ⟨_, rfl⟩
          obtain ⟨x1, hx1⟩ : ∃ x1, vs[j * 2 + 1]'(by omega) = x1 := ⟨_, rfl⟩
          rw [hx0] at p0
          rw [hx1] at p1
          obtain ⟨hv2, _⟩ := hv.stored (j * 2) (.int .i64 (-j))
          obtain ⟨hv3, _⟩ := hv2.stored (j * 2 + 1) (.int .i64 (-1))
          have HV3 := Lib.hid hv3
          have wn : IntKind.i64.wrap (-(j : Int)) = -j := IntWalk.i64_in _ (by omega)
          have w1 : IntKind.i64.wrap ((j : Int) + 1) = j + 1 := IntWalk.i64_in _ (by omega)
          clear hv hf hvl hx0 hx1 hv2 hv3
          go_wp2_with fail
          go_roundw
          case rel => exact ⟨j + 1, by omega, by go_num, ⟨_, HV3.out⟩, (HF4.out.set rfl _).set rfl _⟩
          case measure => simp [intOf]; omega
        · have hjI : ¬ (j : Int) < n := by omega
          have HF34 := Lib.hid (show Fr (fun k => B0 ≤ k) w3 wr from hf.mono (fun k hk => HNew.out k hk))
          have O4 := Lib.hid (IsO.fr O3.out HF34.out (fun j hj h => by have := HSl.out j hj; have h : B0 ≤ j := h; omega))
          have M4 := Lib.hid (IsM.fr M3.out HF34.out (fun j hj h => by have := HTl.out j hj; have h : B0 ≤ j := h; omega))
          have F4 := Lib.hid (F3.out.then_ HF34.out (fun j hj => .inr (by have := Hsw.out; have hj : B0 ≤ j := hj; omega)))
          clear hv hf
          go_wp2_with fail
          have PR := mrange_up wr T M ps ss aa (-9223372036854775808) 0 M4.out HB.out HRi.out HPL.out
          rw [Hra.out, HN.out] at PR
          with_reducible refine PR.mono ?_
          clear PR
          rintro e w5 ⟨v1, v2, rfl, o1, o2, f5⟩
          have O1 := Lib.hid o1
          have O2 := Lib.hid o2
          have F45 := Lib.hid f5
          clear o1 o2 f5
          go_wp2_with fail
          have PR := range_up w5 S L ps (-9223372036854775808) 0 (IsO.fr (S2 := fun _ => False) O4.out F45.out (fun _ _ h => h)) HPL.out HRi.out
          rw [Hra.out] at PR
          with_reducible refine PR.mono ?_
          clear PR
          rintro e w6 ⟨v7, rfl, ov6, f6⟩
          have ov6r := ov6.1
          rw [HN.out] at ov6r
          have PS := same_any w6 v7 v1 v2 ps n HN.out ov6r (own_fr O1.out f6 (fun _ _ h => h)) (own_fr O2.out f6 (fun _ _ h => h)) (by have := HPL.out; have := HN.out; omega)
          have HPS := Lib.hid PS
          have F46 := Lib.hid (F45.out.then_ f6 (fun _ h => h.elim))
          clear ov6 ov6r PS f6
          go_wp2_with fail
          with_reducible refine HPS.out.mono ?_
          rintro e w7 ⟨rfl, f7⟩
          have F47 := Lib.hid (F46.out.then_ f7 (fun _ h => h.elim))
          clear f7 HPS
          go_wp2_with fail
          go_ret
          exact ⟨rfl, F4.out.then_ F47.out (fun _ h => h.elim)⟩
end Go.Proofs.Ytjegnhcpepkpoaa
