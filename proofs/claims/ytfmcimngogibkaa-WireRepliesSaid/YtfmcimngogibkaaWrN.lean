/- Law 22: the walk of WireReads. -/
import Derived.Test.YtfmcimngogibkaaWrM
set_option linter.unusedSimpArgs false
set_option linter.unusedVariables false
namespace Go.Proofs.Ytfmcimngogibkaa
open Go.RowKit

theorem none_is {w : World} {v : Value} (h : ReqIs w v Req.none) : ∃ a1 c1 a2 c2 a3 c3, v = .agg (reqCells 0 a1 0 c1 a2 0 c2 0 a3 0 c3 Flt.zero) := by
  obtain ⟨a1, c1, a2, c2, a3, c3, e, -⟩ := h
  exact ⟨a1, c1, a2, c2, a3, c3, e⟩
set_option maxRecDepth 4000 in
set_option maxHeartbeats 3200000 in
theorem wreads_any (w : World) (l : List Int) (hB : Bytes l) (hl : l.length ≤ 140737488355328) :
    Calls Try.prog 4 #[.string (strOfNums l)] w fun e w' => e = .returned (.bool true) ∧ Fr (fun _ => False) w w' := by
  have hs := strOfNums_size l
  have HA := Lib.hid (alive22_any w)
  have HB := Lib.hid hB
  clear hB
  go_enter Try.func4, Try.ntmps4
  go_wp2_with fail
  refine HA.out.mono ?_
  rintro e w1 ⟨rfl, f1⟩
  have F1 := Lib.hid f1
  clear f1
  by_cases h1 : (2000 : Int) < l.length
  · go_wp2_with fail
    go_ret
    exact ⟨rfl, F1.out⟩
  have PR := read_any w1 l HB.out
  obtain ⟨ok, hok⟩ : ∃ ok, rdOk l = ok := ⟨_, rfl⟩
  cases ok with
  | false =>
    rw [hok, if_neg (by decide), if_neg (by decide)] at PR
    have HP := Lib.hid PR
    clear PR hok
    go_wp2_with fail
    refine HP.out.mono ?_
    rintro e w2 ⟨v, rfl, hv, f2⟩
    obtain ⟨a1, c1, a2, c2, a3, c3, rfl⟩ := none_is hv
    have F2 := Lib.hid (F1.out.then_ f2 (fun _ h => h.elim))
    clear f2 hv
    go_wp2_with fail
    go_ret
    exact ⟨rfl, F2.out.alloc _⟩
  | true =>
    obtain ⟨q1, q2, q3, q4, q5, q6⟩ := req_whole HB.out hok
    rw [hok, if_pos rfl, if_pos rfl] at PR
    obtain ⟨q, hq⟩ : ∃ q, (rdReq l).1 = q := ⟨_, rfl⟩
    rw [hq] at PR q1 q2 q3 q4 q5 q6
    have HP := Lib.hid PR
    have Q1 := Lib.hid q1
    have Q2 := Lib.hid q2
    have Q3 := Lib.hid q3
    have Q456 := Lib.hid (And.intro q4 (And.intro q5 q6))
    clear PR hok hq q1 q2 q3 q4 q5 q6
    go_wp2_with fail
    refine HP.out.mono ?_
    rintro e w2 ⟨v, rfl, ⟨a1, c1, a2, c2, a3, c3, rfl, r1, r2, r3⟩, f2⟩
    have F2 := Lib.hid (F1.out.then_ f2 (fun _ h => h.elim))
    obtain ⟨op, la, lt, now, li, f⟩ := q
    obtain ⟨n1, hn1⟩ : ∃ n, la.length = n := ⟨_, rfl⟩
    obtain ⟨n2, hn2⟩ : ∃ n, lt.length = n := ⟨_, rfl⟩
    obtain ⟨n3, hn3⟩ : ∃ n, li.length = n := ⟨_, rfl⟩
    have q456 := Q456.out
    simp only [hn1, hn2, hn3] at q456 ⊢
    have Hb := Lib.hid (heap_alloc_new w2 (.cells (reqCells op a1 n1 c1 a2 n2 c2 now a3 n3 c3 f) 31))
    have FA := Lib.hid ((Fr.refl (fun _ => False) w2).alloc (.cells (reqCells op a1 n1 c1 a2 n2 c2 now a3 n3 c3 f) 31))
    have HG := Lib.hid (rgood_any (w2.alloc (.cells (reqCells op a1 n1 c1 a2 n2 c2 now a3 n3 c3 f) 31)) op a1 n1 c1 a2 n2 c2 now a3 n3 c3 f la lt hn1 hn2 (by omega) (by omega) (r1.fr FA.out (fun _ _ h => h)) (r2.fr FA.out (fun _ _ h => h)))
    have HY := Lib.hid (fun W (hf : Fr (fun _ => False) w2 W) => rbytes_any W op a1 n1 c1 a2 n2 c2 now a3 n3 c3 f la lt li hn1 hn2 hn3 (by omega) (by omega) (by omega) (r1.fr hf (fun _ _ h => h)) (r2.fr hf (fun _ _ h => h)) (r3.fr hf (fun _ _ h => h)) Q3.out.accs Q3.out.txs Q3.out.ids Q3.out.flt)
    rw [show reqBytes op la lt now li f = l from Q1.out] at HY
    rw [show wgood op la lt now n3 f = true from hn3 ▸ Q2.out] at HG
    clear r1 r2 r3 f2 hn1 hn2 hn3 q456
    go_wp2_with (first
      | ((with_reducible refine wpList_load_row_w ?lw 31 _ rfl w2.heap.size rfl 31 _ _ _ (by first | (with_reducible exact Hb.out) | exact Hb2.out) Try.underlying31 rfl rfl ?_); (case lw => rfl))
      | (go_at_call 11; go_must (with_reducible refine HG.out.mono ?_); rintro e w3 ⟨rfl, f3⟩; have Hb2 := Lib.hid (f3.blk Hb.out (fun h => h)); have F3 := Lib.hid (FA.out.then_ f3 (fun _ h => h.elim)); clear f3)
      | (go_at_call 15; go_must (with_reducible refine (HY.out _ F3.out).mono ?_); rintro e w4 ⟨rfl, f4⟩; have F4 := Lib.hid (F3.out.then_ f4 (fun _ h => h.elim)); clear f4))
    go_ret
    exact ⟨rfl, F2.out.then_ F4.out (fun _ h => h.elim)⟩
end Go.Proofs.Ytfmcimngogibkaa
