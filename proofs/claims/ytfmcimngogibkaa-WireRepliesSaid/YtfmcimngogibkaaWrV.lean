/- Law 22: codes; the walk of WireTold. -/
import Derived.Test.YtfmcimngogibkaaWrU
import Derived.Test.YtfmcimngogibkaaWrN
set_option linter.unusedSimpArgs false
set_option linter.unusedVariables false
namespace Go.Proofs.Ytfmcimngogibkaa
open Go.RowKit

theorem Try.infoInt : (Try.prog.info? 3).map (fun i => (i.zero, i.size, i.bytes)) = some (some (iVal 0), 1, 8) := by kernel_rfl
set_option maxRecDepth 4000 in
set_option maxHeartbeats 3200000 in
theorem codes_any (w : World) (a0 : Option Addr) (n0 c0 : Nat) (rs : List Int) (hn0 : rs.length = n0) (hb0 : n0 ≤ 1000) (h0 : Row w a0 (rs.flatMap iCells)) :
    Calls Try.prog 18 #[.slice a0 n0 c0] w fun e w' => ∃ a c, e = .returned (.slice a n0 c) ∧ Row w' a (rs.flatMap iCells) ∧ Fr (fun _ => False) w w' := by
  obtain ⟨i0, hi0, hz0, hz1, hz2⟩ := info_parts Try.infoInt
  have H0 := Lib.hid h0
  have HN0 := Lib.hid hn0
  clear h0 hn0
  go_enter Try.func18, Try.ntmps18
  go_wp2_with fail
  go_loopw [8, 3] (fun i v wr => ∃ k : Nat, k ≤ n0 ∧ i = .int .i64 k ∧ wr.ownsRow 0 3 1 v k ((rs.take k).flatMap iCells) ∧ (∀ m, v.ownBlock = some m → w.heap.size ≤ m) ∧ Fr (fun _ => False) w wr) (fun i _ _ => ((n0 : Int) - intOf i).toNat)
  case atStart => exact ⟨0, Nat.zero_le _, rfl, World.ownsRow_nil _ _ _ _, fun k hk => by simp [Value.ownBlock] at hk, Fr.refl _ _⟩
  case round =>
    obtain ⟨k, hk, rfl, ov, hge, hf⟩ := hrel
    have HV := Lib.hid ov
    have HGe := Lib.hid hge
    have HF := Lib.hid hf
    by_cases hlt : k < n0
    · have hltI : (k : Int) < n0 := by omega
      have hkl : k < rs.length := by rw [HN0.out]; exact hlt
      obtain ⟨b, off, rfl, HRg⟩ := rowI (H0.out.fr hf (fun _ _ h => h)) hkl
      have hbl : b < wr.heap.size := World.block_lt_of_cell? _ _ (HRg 0 _ rfl)
      obtain ⟨x, hx⟩ : ∃ x, rs[k] = x := ⟨_, rfl⟩
      rw [hx] at HRg
      have p0 : wr.cell? ⟨b, off + k, none⟩ = some (.int .i64 x) := by have h := HRg 0 _ rfl; simpa using h
      have HX := Lib.hid (show (rs.take (k + 1)).flatMap iCells = (rs.take k).flatMap iCells ++ iCells x from by rw [List.take_succ_eq_append_getElem hkl, List.flatMap_append, hx]; simp)
      have w1 : IntKind.i64.wrap ((k : Int) + 1) = k + 1 := IntWalk.i64_in _ (by omega)
      clear ov hge hf hx HRg
      go_wp2_with (at_builtin; go_must (refine wpList_append_fresh _ wr rfl (.tmp 12) (.tmp 14) 51 rfl 3 i0 (iVal 0) 1 8 Try.underlying51 hi0 hz0 hz1 hz2 rfl (by decide) u3 k _ rfl HV.out #[.int .i64 x] rfl rfl rfl (iOne x) (by omega) (by omega) ?_); intro g3 cap3 w3 hown3 hf3 hat3; have HOWN3 := Lib.hid hown3; have HF3 := Lib.hid hf3; have HAT3 := Lib.hid hat3; clear hown3 hf3 hat3)
      have FA := Lib.hid ((Fr.refl (fun _ => False) wr).alloc (.cells #[.int .i64 x] 3))
      have hsw := HF.out.size
      go_roundw
      case rel =>
        refine ⟨k + 1, by omega, by go_num, ?_, fun j hj => ?_, (HF.out.then_ FA.out (fun _ h => h.elim)).then_ HF3.out (fun j hj => .inr (HGe.out j hj))⟩
        · rw [HX.out]
          have h := HOWN3.out
          simpa [iCells] using h
        · rcases HAT3.out j hj with h | h
          · exact HGe.out j h
          · have h2 : (wr.alloc (.cells #[.int .i64 x] 3)).heap.size = wr.heap.size + 1 := Array.size_push ..
            omega
      case measure => simp [intOf]; omega
    · have hltI : ¬ (k : Int) < n0 := by omega
      have hkn : k = n0 := by omega
      have e : rs.take k = rs := List.take_of_length_le (by have := HN0.out; omega)
      rw [e] at HV
      obtain ⟨a, c, hv, hr⟩ := own_row2 HV.out
      have HR := Lib.hid hr
      have HVe := Lib.hid hv
      have HK := Lib.hid hkn
      clear ov hge hf e hv hr hkn
      go_wp2_with fail
      go_ret
      first | exact ⟨a, c, by rw [← HK.out, ← HVe.out]; rfl, HR.out, HF.out⟩ | exact ⟨a, ⟨c, by rw [← HK.out, ← HVe.out]; rfl⟩, HR.out, HF.out⟩

theorem repNone_is {w : World} {v : Value} (h : RepIs w v Rep.none) : ∃ a1 c1 a2 c2 a3 c3, v = .agg #[.int .i64 0, .slice a1 0 c1, .slice a2 0 c2, .slice a3 0 c3] := by
  obtain ⟨a1, c1, a2, c2, a3, c3, e, -⟩ := h
  exact ⟨a1, c1, a2, c2, a3, c3, e⟩
set_option maxRecDepth 4000 in
set_option maxHeartbeats 3200000 in
theorem wtold_any (w : World) (l : List Int) (hB : Bytes l) (hl : l.length ≤ 140737488355328) :
    Calls Try.prog 7 #[.string (strOfNums l)] w fun e w' => e = .returned (.bool true) ∧ Fr (fun _ => False) w w' := by
  have hs := strOfNums_size l
  have HA := Lib.hid (alive22_any w)
  have HB := Lib.hid hB
  clear hB
  go_enter Try.func7, Try.ntmps7
  go_wp2_with fail
  refine HA.out.mono ?_
  rintro e w1 ⟨rfl, f1⟩
  have F1 := Lib.hid f1
  clear f1
  by_cases h1 : (2000 : Int) < l.length
  · go_wp2_with fail
    go_ret
    exact ⟨rfl, F1.out⟩
  have PR := readRep_any w1 l HB.out
  obtain ⟨ok, hok⟩ : ∃ ok, repOk l = ok := ⟨_, rfl⟩
  cases ok with
  | false =>
    rw [hok, if_neg (by decide), if_neg (by decide)] at PR
    have HP := Lib.hid PR
    clear PR hok
    go_wp2_with fail
    refine HP.out.mono ?_
    rintro e w2 ⟨v, rfl, hv, f2⟩
    obtain ⟨a1, c1, a2, c2, a3, c3, rfl⟩ := repNone_is hv
    have F2 := Lib.hid (F1.out.then_ f2 (fun _ h => h.elim))
    clear f2 hv
    go_wp2_with fail
    go_ret
    exact ⟨rfl, F2.out.alloc _⟩
  | true =>
    obtain ⟨q1, q2, q3, q4⟩ := rep_whole HB.out hok
    rw [hok, if_pos rfl, if_pos rfl] at PR
    obtain ⟨q, hq⟩ : ∃ q, (rdRep l).1 = q := ⟨_, rfl⟩
    rw [hq] at PR q1 q2 q3 q4
    have HP := Lib.hid PR
    have Q1 := Lib.hid q1
    have Q2 := Lib.hid q2
    have Q3 := Lib.hid q3
    have Q4 := Lib.hid q4
    clear PR hok hq q1 q2 q3 q4
    go_wp2_with fail
    refine HP.out.mono ?_
    rintro e w2 ⟨v, rfl, ⟨a0, c0, a1, c1, a2, c2, rfl, r0, r1, r2⟩, f2⟩
    have F2 := Lib.hid (F1.out.then_ f2 (fun _ h => h.elim))
    obtain ⟨er, rs, la, lt⟩ := q
    have hft := rfit_of Q2.out
    obtain ⟨n0, hn0⟩ : ∃ n, rs.length = n := ⟨_, rfl⟩
    obtain ⟨n1, hn1⟩ : ∃ n, la.length = n := ⟨_, rfl⟩
    obtain ⟨n2, hn2⟩ : ∃ n, lt.length = n := ⟨_, rfl⟩
    have l0 : n0 ≤ 16 := hn0 ▸ hft.n0
    have l1 : n1 ≤ 16 := hn1 ▸ hft.n1
    have l2 : n2 ≤ 16 := hn2 ▸ hft.n2
    simp only [hn0, hn1, hn2]
    have Hb := Lib.hid (heap_alloc_new w2 (.cells #[.int .i64 er, .slice a0 n0 c0, .slice a1 n1 c1, .slice a2 n2 c2] 47))
    have FA := Lib.hid ((Fr.refl (fun _ => False) w2).alloc (.cells #[.int .i64 er, .slice a0 n0 c0, .slice a1 n1 c1, .slice a2 n2 c2] 47))
    have HC := Lib.hid (fun W (hf : Fr (fun _ => False) w2 W) => codes_any W a0 n0 c0 rs hn0 (by omega) (r0.fr hf (fun _ _ h => h)))
    have HO := Lib.hid (show repOut er rs la lt = l from by rw [repOut, if_pos (show rfits er rs la lt = true from Q2.out)]; exact Q1.out)
    have HY := Lib.hid (fun W (hf : Fr (fun _ => False) w2 W) a c (hr : Row W a (rs.flatMap iCells)) => by
      have h := refReply_any W er a n0 c a1 n1 c1 a2 n2 c2 rs la lt hn0 hn1 hn2 (by omega) (by omega) (by omega) hr (r1.fr hf (fun _ _ h => h)) (r2.fr hf (fun _ _ h => h)) Q3.out Q4.out
      rwa [HO.out] at h)
    have q0 := blk_cell Hb.out 0 rfl; have q1 := blk_cell Hb.out 1 rfl; have q2 := blk_cell Hb.out 2 rfl; have q3 := blk_cell Hb.out 3 rfl
    clear r0 r1 r2 f2 hn0 hn1 hn2 hft
    go_upto_region 8 with fail
    go_region_held3 (fun w' => w'.cell? ⟨w2.heap.size, 0, none⟩ = some (Value.int .i64 er) ∧ w'.cell? ⟨w2.heap.size, 1, none⟩ = some (Value.slice a0 n0 c0) ∧ w'.cell? ⟨w2.heap.size, 2, none⟩ = some (Value.slice a1 n1 c1) ∧ w'.cell? ⟨w2.heap.size, 3, none⟩ = some (Value.slice a2 n2 c2))
      (first | exact ⟨q0, q1, q2, q3⟩ | go_keep)
      (first
        | (go_at_call 18; go_must (with_reducible refine (HC.out _ (FA.out.then_ (S2 := fun _ => False) (by repeat (first | (with_reducible exact Fr.refl _ _) | (with_reducible refine Fr.drew ?_) | (with_reducible refine Fr.drewN ?_ _) | (with_reducible refine Fr.alloc ?_ _) | (with_reducible refine Fr.set1 ?_ _) | (with_reducible refine Fr.setNew ?_ (by omega) _))) (fun _ h => h.elim))).mono ?_); rintro e w3 ⟨ac, cc, rfl, hrc, f3⟩; have HRc := Lib.hid hrc; have FC := Lib.hid ((FA.out.drew).then_ f3 (fun _ h => h.elim)); have Hb := Lib.hid (f3.blk (blk_drew Hb.out) (fun h => h)); have q0 := blk_cell Hb.out 0 rfl; have q1 := blk_cell Hb.out 1 rfl; have q2 := blk_cell Hb.out 2 rfl; have q3 := blk_cell Hb.out 3 rfl; clear hrc f3)
        | (go_at_call 17; go_must (with_reducible refine (HY.out _ FC.out ac cc HRc.out).mono ?_); rintro e w4 ⟨rfl, f4⟩; have FD := Lib.hid (FC.out.then_ f4 (fun _ h => h.elim)); have Hb := Lib.hid (f4.blk Hb.out (fun h => h)); have q0 := blk_cell Hb.out 0 rfl; have q1 := blk_cell Hb.out 1 rfl; have q2 := blk_cell Hb.out 2 rfl; have q3 := blk_cell Hb.out 3 rfl; clear f4))
    go_wp2_with fail
    go_ret
    exact ⟨rfl, F2.out.then_ FD.out (fun _ h => h.elim)⟩
end Go.Proofs.Ytfmcimngogibkaa
