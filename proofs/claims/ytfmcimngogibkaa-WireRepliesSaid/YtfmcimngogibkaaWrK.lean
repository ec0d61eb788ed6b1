/- The document's Good of requests. -/
import Derived.Test.YtfmcimngogibkaaWrD
set_option linter.unusedSimpArgs false
set_option linter.unusedVariables false
namespace Go.Proofs.Ytfmcimngogibkaa
open Go.RowKit

section
variable (w : World) (op : Int) (a1 : Option Addr) (n1 c1 : Nat) (a2 : Option Addr) (n2 c2 : Nat) (now : Int) (a3 : Option Addr) (n3 c3 : Nat) (f : Flt)
set_option maxRecDepth 4000 in
set_option maxHeartbeats 1600000 in
theorem rEng_any : Calls Try.prog 22 #[reqAgg op a1 n1 c1 a2 n2 c2 now a3 n3 c3 f] w fun e w' => e = .returned (.bool (engGood op n1 n2 now)) ∧ Fr (fun _ => False) w w' := by
  rcases ops3 op with rfl | rfl | rfl | ⟨h1, h2, h3⟩
  · have hg : engGood 1 n1 n2 now = (decide (1 ≤ n1) && decide (n1 ≤ 8)) := rfl
    rw [hg]
    by_cases k1 : 1 ≤ n1
    · have k1I : (0 : Int) < n1 := by omega
      go_enter Try.func22, Try.ntmps22
      go_wp2_with fail
      go_ret
      exact ⟨by congr 2; simp [k1]; omega, by repeat (first | (with_reducible exact Fr.refl _ _) | (with_reducible refine Fr.drew ?_) | (with_reducible refine Fr.drewN ?_ _) | (with_reducible refine Fr.alloc ?_ _) | (with_reducible refine Fr.set1 ?_ _) | (with_reducible refine Fr.setNew ?_ (by omega) _))⟩
    · have k1I : ¬ (0 : Int) < n1 := by omega
      go_enter Try.func22, Try.ntmps22
      go_wp2_with fail
      go_ret
      exact ⟨by simp [k1], by repeat (first | (with_reducible exact Fr.refl _ _) | (with_reducible refine Fr.drew ?_) | (with_reducible refine Fr.drewN ?_ _) | (with_reducible refine Fr.alloc ?_ _) | (with_reducible refine Fr.set1 ?_ _) | (with_reducible refine Fr.setNew ?_ (by omega) _))⟩
  · have hg : engGood 2 n1 n2 now = (decide (1 ≤ n2) && decide (n2 ≤ 8)) := rfl
    rw [hg]
    by_cases k1 : 1 ≤ n2
    · have k1I : (0 : Int) < n2 := by omega
      go_enter Try.func22, Try.ntmps22
      go_wp2_with fail
      go_ret
      exact ⟨by congr 2; simp [k1]; omega, by repeat (first | (with_reducible exact Fr.refl _ _) | (with_reducible refine Fr.drew ?_) | (with_reducible refine Fr.drewN ?_ _) | (with_reducible refine Fr.alloc ?_ _) | (with_reducible refine Fr.set1 ?_ _) | (with_reducible refine Fr.setNew ?_ (by omega) _))⟩
    · have k1I : ¬ (0 : Int) < n2 := by omega
      go_enter Try.func22, Try.ntmps22
      go_wp2_with fail
      go_ret
      exact ⟨by simp [k1], by repeat (first | (with_reducible exact Fr.refl _ _) | (with_reducible refine Fr.drew ?_) | (with_reducible refine Fr.drewN ?_ _) | (with_reducible refine Fr.alloc ?_ _) | (with_reducible refine Fr.set1 ?_ _) | (with_reducible refine Fr.setNew ?_ (by omega) _))⟩
  · have hg : engGood 3 n1 n2 now = (decide (0 ≤ now) && decide (now ≤ 1099511627776)) := rfl
    rw [hg]
    by_cases k1 : 0 ≤ now
    · go_enter Try.func22, Try.ntmps22
      go_wp2_with fail
      go_ret
      exact ⟨by simp [k1], by repeat (first | (with_reducible exact Fr.refl _ _) | (with_reducible refine Fr.drew ?_) | (with_reducible refine Fr.drewN ?_ _) | (with_reducible refine Fr.alloc ?_ _) | (with_reducible refine Fr.set1 ?_ _) | (with_reducible refine Fr.setNew ?_ (by omega) _))⟩
    · have k2 : decide (0 ≤ now) = false := decide_eq_false k1
      rw [k2]
      go_enter Try.func22, Try.ntmps22
      go_wp2_with fail
      go_ret
      exact ⟨rfl, by repeat (first | (with_reducible exact Fr.refl _ _) | (with_reducible refine Fr.drew ?_) | (with_reducible refine Fr.drewN ?_ _) | (with_reducible refine Fr.alloc ?_ _) | (with_reducible refine Fr.set1 ?_ _) | (with_reducible refine Fr.setNew ?_ (by omega) _))⟩
  · have hg : engGood op n1 n2 now = false := by
      simp only [beq_eq_false_iff_ne, ne_eq] at h1 h2 h3
      simp [engGood, h1, h2, h3]
    rw [hg]
    go_enter Try.func22, Try.ntmps22
    go_wp2_with fail
    go_ret
    exact ⟨rfl, by repeat (first | (with_reducible exact Fr.refl _ _) | (with_reducible refine Fr.drew ?_) | (with_reducible refine Fr.drewN ?_ _) | (with_reducible refine Fr.alloc ?_ _) | (with_reducible refine Fr.set1 ?_ _) | (with_reducible refine Fr.setNew ?_ (by omega) _))⟩
set_option maxRecDepth 4000 in
set_option maxHeartbeats 1600000 in
theorem rAsk_any : Calls Try.prog 23 #[reqAgg op a1 n1 c1 a2 n2 c2 now a3 n3 c3 f] w fun e w' => e = .returned (.bool (askGood op n3 f)) ∧ Fr (fun _ => False) w w' := by
  obtain ⟨b, hb⟩ : ∃ b, askGood op n3 f = b := ⟨_, rfl⟩
  have HB := Lib.hid hb
  rw [hb]
  clear hb
  rcases ops45 op with h4 | ⟨h4, h5⟩ | ⟨h4, h5, h6⟩ | ⟨h4, h5, h6⟩
  · by_cases k1 : 1 ≤ n3
    · have k1I : (0 : Int) < n3 := by omega
      go_enter Try.func23, Try.ntmps23
      go_wp2_with fail
      go_ret
      exact ⟨by rw [← HB.out, ask45 _ _ (.inl (by simpa using h4))]; congr 2; simp [k1]; omega, by repeat (first | (with_reducible exact Fr.refl _ _) | (with_reducible refine Fr.drew ?_) | (with_reducible refine Fr.drewN ?_ _) | (with_reducible refine Fr.alloc ?_ _) | (with_reducible refine Fr.set1 ?_ _) | (with_reducible refine Fr.setNew ?_ (by omega) _))⟩
    · have k1I : ¬ (0 : Int) < n3 := by omega
      go_enter Try.func23, Try.ntmps23
      go_wp2_with fail
      go_ret
      exact ⟨by rw [← HB.out, ask45 _ _ (.inl (by simpa using h4))]; simp [k1], by repeat (first | (with_reducible exact Fr.refl _ _) | (with_reducible refine Fr.drew ?_) | (with_reducible refine Fr.drewN ?_ _) | (with_reducible refine Fr.alloc ?_ _) | (with_reducible refine Fr.set1 ?_ _) | (with_reducible refine Fr.setNew ?_ (by omega) _))⟩
  · by_cases k1 : 1 ≤ n3
    · have k1I : (0 : Int) < n3 := by omega
      go_enter Try.func23, Try.ntmps23
      go_wp2_with fail
      go_ret
      exact ⟨by rw [← HB.out, ask45 _ _ (.inr (by simpa using h5))]; congr 2; simp [k1]; omega, by repeat (first | (with_reducible exact Fr.refl _ _) | (with_reducible refine Fr.drew ?_) | (with_reducible refine Fr.drewN ?_ _) | (with_reducible refine Fr.alloc ?_ _) | (with_reducible refine Fr.set1 ?_ _) | (with_reducible refine Fr.setNew ?_ (by omega) _))⟩
    · have k1I : ¬ (0 : Int) < n3 := by omega
      go_enter Try.func23, Try.ntmps23
      go_wp2_with fail
      go_ret
      exact ⟨by rw [← HB.out, ask45 _ _ (.inr (by simpa using h5))]; simp [k1], by repeat (first | (with_reducible exact Fr.refl _ _) | (with_reducible refine Fr.drew ?_) | (with_reducible refine Fr.drewN ?_ _) | (with_reducible refine Fr.alloc ?_ _) | (with_reducible refine Fr.set1 ?_ _) | (with_reducible refine Fr.setNew ?_ (by omega) _))⟩
  · have HV := Lib.hid (HB.out.symm.trans (ask6 n3 f (by simpa using h6)))
    obtain ⟨x, d0, d1, d2, d3, d4, d5⟩ := f
    cases q1 : decide (0 ≤ d0)
    · have r1 : ¬ 0 ≤ d0 := of_decide_eq_false q1
      go_enter Try.func23, Try.ntmps23
      go_wp2_with fail
      go_ret
      exact ⟨by rw [HV.out, fltGood]; simp; omega, by repeat (first | (with_reducible exact Fr.refl _ _) | (with_reducible refine Fr.drew ?_) | (with_reducible refine Fr.drewN ?_ _) | (with_reducible refine Fr.alloc ?_ _) | (with_reducible refine Fr.set1 ?_ _) | (with_reducible refine Fr.setNew ?_ (by omega) _))⟩
    have r1 : 0 ≤ d0 := of_decide_eq_true q1
    cases q2 : decide (0 ≤ d1)
    · have r2 : ¬ 0 ≤ d1 := of_decide_eq_false q2
      go_enter Try.func23, Try.ntmps23
      go_wp2_with fail
      go_ret
      exact ⟨by rw [HV.out, fltGood]; simp; omega, by repeat (first | (with_reducible exact Fr.refl _ _) | (with_reducible refine Fr.drew ?_) | (with_reducible refine Fr.drewN ?_ _) | (with_reducible refine Fr.alloc ?_ _) | (with_reducible refine Fr.set1 ?_ _) | (with_reducible refine Fr.setNew ?_ (by omega) _))⟩
    have r2 : 0 ≤ d1 := of_decide_eq_true q2
    cases q3 : decide (0 < d5)
    · have r3 : ¬ 0 < d5 := of_decide_eq_false q3
      go_enter Try.func23, Try.ntmps23
      go_wp2_with fail
      go_ret
      exact ⟨by rw [HV.out, fltGood]; simp; omega, by repeat (first | (with_reducible exact Fr.refl _ _) | (with_reducible refine Fr.drew ?_) | (with_reducible refine Fr.drewN ?_ _) | (with_reducible refine Fr.alloc ?_ _) | (with_reducible refine Fr.set1 ?_ _) | (with_reducible refine Fr.setNew ?_ (by omega) _))⟩
    have r3 : 0 < d5 := of_decide_eq_true q3
    cases q4 : decide (d5 < 17)
    · have r4 : ¬ d5 < 17 := of_decide_eq_false q4
      go_enter Try.func23, Try.ntmps23
      go_wp2_with fail
      go_ret
      exact ⟨by rw [HV.out, fltGood]; simp; omega, by repeat (first | (with_reducible exact Fr.refl _ _) | (with_reducible refine Fr.drew ?_) | (with_reducible refine Fr.drewN ?_ _) | (with_reducible refine Fr.alloc ?_ _) | (with_reducible refine Fr.set1 ?_ _) | (with_reducible refine Fr.setNew ?_ (by omega) _))⟩
    have r4 : d5 < 17 := of_decide_eq_true q4
    cases d2
    · go_enter Try.func23, Try.ntmps23
      go_wp2_with fail
      go_ret
      exact ⟨by rw [HV.out, fltGood]; have r5 : 1 ≤ d5 := r3; have r6 : d5 ≤ 16 := (by omega); simp [r1, r2, r5, r6], by repeat (first | (with_reducible exact Fr.refl _ _) | (with_reducible refine Fr.drew ?_) | (with_reducible refine Fr.drewN ?_ _) | (with_reducible refine Fr.alloc ?_ _) | (with_reducible refine Fr.set1 ?_ _) | (with_reducible refine Fr.setNew ?_ (by omega) _))⟩
    · go_enter Try.func23, Try.ntmps23
      go_wp2_with fail
      go_ret
      exact ⟨by rw [HV.out, fltGood]; have r5 : 1 ≤ d5 := r3; have r6 : d5 ≤ 16 := (by omega); simp [r1, r2, r5, r6], by repeat (first | (with_reducible exact Fr.refl _ _) | (with_reducible refine Fr.drew ?_) | (with_reducible refine Fr.drewN ?_ _) | (with_reducible refine Fr.alloc ?_ _) | (with_reducible refine Fr.set1 ?_ _) | (with_reducible refine Fr.setNew ?_ (by omega) _))⟩
  · have hv := ask0 n3 f h4 h5 h6
    rw [HB.out] at hv
    rw [hv]
    clear hv
    go_enter Try.func23, Try.ntmps23
    go_wp2_with fail
    go_ret
    exact ⟨rfl, by repeat (first | (with_reducible exact Fr.refl _ _) | (with_reducible refine Fr.drew ?_) | (with_reducible refine Fr.drewN ?_ _) | (with_reducible refine Fr.alloc ?_ _) | (with_reducible refine Fr.set1 ?_ _) | (with_reducible refine Fr.setNew ?_ (by omega) _))⟩
end

set_option maxRecDepth 4000 in
set_option maxHeartbeats 6400000 in
theorem rgood_any (w : World) (op : Int) (a1 : Option Addr) (n1 c1 : Nat) (a2 : Option Addr) (n2 c2 : Nat) (now : Int) (a3 : Option Addr) (n3 c3 : Nat) (f : Flt) (la : List Acc) (lt : List Tx)
    (hn1 : la.length = n1) (hn2 : lt.length = n2) (hb1 : n1 ≤ 140737488355328) (hb2 : n2 ≤ 140737488355328) (h1 : Row w a1 (la.flatMap Acc.cells)) (h2 : Row w a2 (lt.flatMap Tx.cells)) :
    Calls Try.prog 11 #[.agg #[.int .i64 op, .slice a1 n1 c1, .slice a2 n2 c2, .int .i64 now, .slice a3 n3 c3, .int .u64 f.acct.hi, .int .u64 f.acct.lo, .int .i64 f.from_, .int .i64 f.upto, .bool f.deb, .bool f.cre, .bool f.lat, .int .i64 f.lim]] w fun e w' => e = .returned (.bool (wgood op la lt now n3 f)) ∧ Fr (fun _ => False) w w' := by
  obtain ⟨R, hR⟩ : ∃ R, wgood op la lt now n3 f = R := ⟨_, rfl⟩
  have HR := Lib.hid hR
  rw [hR]
  clear hR
  have H1 := Lib.hid h1
  have H2 := Lib.hid h2
  have HN1 := Lib.hid hn1
  have HN2 := Lib.hid hn2
  have HBq := Lib.hid (heap_alloc_new w (.cells #[.int .i64 op, .slice a1 n1 c1, .slice a2 n2 c2, .int .i64 now, .slice a3 n3 c3, .int .u64 f.acct.hi, .int .u64 f.acct.lo, .int .i64 f.from_, .int .i64 f.upto, .bool f.deb, .bool f.cre, .bool f.lat, .int .i64 f.lim] 31))
  have FAq := Lib.hid ((Fr.refl (fun _ => False) w).alloc (.cells #[.int .i64 op, .slice a1 n1 c1, .slice a2 n2 c2, .int .i64 now, .slice a3 n3 c3, .int .u64 f.acct.hi, .int .u64 f.acct.lo, .int .i64 f.from_, .int .i64 f.upto, .bool f.deb, .bool f.cre, .bool f.lat, .int .i64 f.lim] 31))
  have HE := Lib.hid (rEng_any (w.alloc (.cells #[.int .i64 op, .slice a1 n1 c1, .slice a2 n2 c2, .int .i64 now, .slice a3 n3 c3, .int .u64 f.acct.hi, .int .u64 f.acct.lo, .int .i64 f.from_, .int .i64 f.upto, .bool f.deb, .bool f.cre, .bool f.lat, .int .i64 f.lim] 31)) op a1 n1 c1 a2 n2 c2 now a3 n3 c3 f)
  have HK := Lib.hid (fun W => rAsk_any W op a1 n1 c1 a2 n2 c2 now a3 n3 c3 f)
  obtain ⟨eg, heg⟩ : ∃ eg, engGood op n1 n2 now = eg := ⟨_, rfl⟩
  obtain ⟨ag, hag⟩ : ∃ ag, askGood op n3 f = ag := ⟨_, rfl⟩
  rw [heg] at HE
  rw [hag] at HK
  have HEg := Lib.hid heg
  have HAg := Lib.hid hag
  clear h1 h2 hn1 hn2 heg hag
  go_enter Try.func11, Try.ntmps11
  go_upto_region 1 with fail
  go_cut [14] from 7 (fun s w' => s = .bool (!(eg || ag)) ∧ w'.heap[w.heap.size]? = some (.cells #[.int .i64 op, .slice a1 n1 c1, .slice a2 n2 c2, .int .i64 now, .slice a3 n3 c3, .int .u64 f.acct.hi, .int .u64 f.acct.lo, .int .i64 f.from_, .int .i64 f.upto, .bool f.deb, .bool f.cre, .bool f.lat, .int .i64 f.lim] 31 (0, 0)) ∧ Fr (fun _ => False) w w')
  case first =>
    cases eg
    all_goals
      go_wp2_with (first
        | ((with_reducible refine wpList_load_row_w ?lw 31 _ rfl w.heap.size rfl 31 _ _ _ (by first | (with_reducible exact HBq.out) | exact HB1.out) Try.underlying31 rfl rfl ?_); (case lw => rfl))
        | (go_at_call 22; go_must (with_reducible refine HE.out.mono ?_); rintro e w2 ⟨rfl, f2⟩; have F1 := Lib.hid (FAq.out.then_ f2 (fun _ h => h.elim)); have HB1 := Lib.hid (f2.blk HBq.out (fun h => h)); clear f2)
        | (go_at_call 23; go_must (with_reducible refine (HK.out _).mono ?_); rintro e w2 ⟨rfl, f2⟩; have F1 := Lib.hid (F1.out.then_ f2 (fun _ h => h.elim)); have HB1 := Lib.hid (f2.blk HB1.out (fun h => h)); clear f2))
      go_meet
      exact ⟨by simp, HB1.out, F1.out⟩
  case rest =>
  obtain ⟨rfl, hbq, f2⟩ := hcut
  have HB1 := Lib.hid hbq
  have F1 := Lib.hid f2
  have q1 := blk_cell hbq 1 rfl
  have HV0 := Lib.hid (show R = ((eg || ag) && (if op = 1 then la.all Acc.good else if op = 2 then lt.all Tx.good else true)) from by
    rw [← HR.out, wgood, HN1.out, HN2.out, HEg.out, HAg.out])
  clear hbq f2 HE HK
  cases hor : (eg || ag)
  · go_wp2_with fail
    go_ret
    exact ⟨by rw [HV0.out, hor]; rfl, F1.out⟩
  · rw [hor, Bool.true_and] at HV0
    clear hor
    go_wp2_with fail
    go_loopw [18] (fun i wr => ∃ k : Nat, k ≤ n1 ∧ i = .int .i64 k ∧ (op = 1 → (la.take k).all Acc.good = true) ∧ wr.heap[w.heap.size]? = some (.cells #[.int .i64 op, .slice a1 n1 c1, .slice a2 n2 c2, .int .i64 now, .slice a3 n3 c3, .int .u64 f.acct.hi, .int .u64 f.acct.lo, .int .i64 f.from_, .int .i64 f.upto, .bool f.deb, .bool f.cre, .bool f.lat, .int .i64 f.lim] 31 (0, 0)) ∧ Fr (fun _ => False) w wr) (fun i _ => ((n1 : Int) - intOf i).toNat)
    case atStart => exact ⟨0, Nat.zero_le _, rfl, fun _ => rfl, HB1.out, F1.out⟩
    case round =>
      obtain ⟨k, hk, rfl, hall, hbq, hf⟩ := hrel
      have HAll := Lib.hid hall
      have HF := Lib.hid hf
      have HBr := Lib.hid hbq
      by_cases hlt : k < n1
      · have hltI : (k : Int) < n1 := by omega
        have hkl : k < la.length := by rw [HN1.out]; exact hlt
        obtain ⟨b, off, rfl, HRg⟩ := rowAcc (H1.out.fr hf (fun _ _ h => h)) hkl
        have hbl : b < wr.heap.size := World.block_lt_of_cell? _ _ (HRg 0 _ rfl)
        obtain ⟨x, hx⟩ : ∃ x, la[k] = x := ⟨_, rfl⟩
        rw [hx] at HRg
        have HRg := Lib.hid (show wr.rangeAt b (off + k * 14) (#[.int .u64 x.id.hi, .int .u64 x.id.lo, .int .u64 x.dp.hi, .int .u64 x.dp.lo, .int .u64 x.dq.hi, .int .u64 x.dq.lo, .int .u64 x.cp.hi, .int .u64 x.cp.lo, .int .u64 x.cq.hi, .int .u64 x.cq.lo, .int .i64 x.ledger, .int .i64 x.code, .int .i64 x.flags, .int .i64 x.stamp] : Array Value).toList from HRg)
        have HX := Lib.hid (all_succ (f := Acc.good) hkl hx)
        have HBk := Lib.hid (heap_alloc_new wr (.cells #[.int .u64 x.id.hi, .int .u64 x.id.lo, .int .u64 x.dp.hi, .int .u64 x.dp.lo, .int .u64 x.dq.hi, .int .u64 x.dq.lo, .int .u64 x.cp.hi, .int .u64 x.cp.lo, .int .u64 x.cq.hi, .int .u64 x.cq.lo, .int .i64 x.ledger, .int .i64 x.code, .int .i64 x.flags, .int .i64 x.stamp] 58))
        have FA := Lib.hid ((Fr.refl (fun _ => False) wr).alloc (.cells #[.int .u64 x.id.hi, .int .u64 x.id.lo, .int .u64 x.dp.hi, .int .u64 x.dp.lo, .int .u64 x.dq.hi, .int .u64 x.dq.lo, .int .u64 x.cp.hi, .int .u64 x.cp.lo, .int .u64 x.cq.hi, .int .u64 x.cq.lo, .int .i64 x.ledger, .int .i64 x.code, .int .i64 x.flags, .int .i64 x.stamp] 58))
        have HBra := Lib.hid (blk_alloc HBr.out (.cells #[.int .u64 x.id.hi, .int .u64 x.id.lo, .int .u64 x.dp.hi, .int .u64 x.dp.lo, .int .u64 x.dq.hi, .int .u64 x.dq.lo, .int .u64 x.cp.hi, .int .u64 x.cp.lo, .int .u64 x.cq.hi, .int .u64 x.cq.lo, .int .i64 x.ledger, .int .i64 x.code, .int .i64 x.flags, .int .i64 x.stamp] 58))
        have q0 := blk_cell HBra.out 0 rfl
        have HG := Lib.hid (refGood_any (wr.alloc (.cells #[.int .u64 x.id.hi, .int .u64 x.id.lo, .int .u64 x.dp.hi, .int .u64 x.dp.lo, .int .u64 x.dq.hi, .int .u64 x.dq.lo, .int .u64 x.cp.hi, .int .u64 x.cp.lo, .int .u64 x.cq.hi, .int .u64 x.cq.lo, .int .i64 x.ledger, .int .i64 x.code, .int .i64 x.flags, .int .i64 x.stamp] 58)) x)
        obtain ⟨gd, hgd⟩ : ∃ gd, x.good = gd := ⟨_, rfl⟩
        rw [hgd, show x.val = .agg #[.int .u64 x.id.hi, .int .u64 x.id.lo, .int .u64 x.dp.hi, .int .u64 x.dp.lo, .int .u64 x.dq.hi, .int .u64 x.dq.lo, .int .u64 x.cp.hi, .int .u64 x.cp.lo, .int .u64 x.cq.hi, .int .u64 x.cq.lo, .int .i64 x.ledger, .int .i64 x.code, .int .i64 x.flags, .int .i64 x.stamp] from rfl] at HG
        have HGd := Lib.hid hgd
        have HXe := Lib.hid hx
        have w1 : IntKind.i64.wrap ((k : Int) + 1) = k + 1 := IntWalk.i64_in _ (by omega)
        clear hall hf hx hgd hbq
        cases ho : (op == 1)
        · have Hno := Lib.hid (show op ≠ 1 from by simpa using ho)
          go_wp2_with ((with_reducible refine wpList_load_mid_w ?lw 58 _ rfl b (off + k * 14) rfl #[.int .u64 x.id.hi, .int .u64 x.id.lo, .int .u64 x.dp.hi, .int .u64 x.dp.lo, .int .u64 x.dq.hi, .int .u64 x.dq.lo, .int .u64 x.cp.hi, .int .u64 x.cp.lo, .int .u64 x.cq.hi, .int .u64 x.cq.lo, .int .i64 x.ledger, .int .i64 x.code, .int .i64 x.flags, .int .i64 x.stamp] _ HRg.out Try.underlying58 rfl rfl ?_); (case lw => rfl))
          go_roundw
          case rel => first | exact ⟨k + 1, by omega, by go_num, fun e => absurd e Hno.out, HBra.out, HF.out.then_ FA.out (fun _ h => h.elim)⟩ | ((repeat apply Exists.intro); refine (fun a b => ⟨b, a⟩ : ∀ {P Q : Prop}, P → Q → Q ∧ P) ?_ ?_; (first | rfl | exact ⟨rfl, rfl⟩ | exact ⟨rfl, rfl, rfl⟩ | exact ⟨rfl, rfl, rfl, rfl⟩); exact ⟨k + 1, by omega, by go_num, fun e => absurd e Hno.out, HBra.out, HF.out.then_ FA.out (fun _ h => h.elim)⟩)
          case measure => simp [intOf]; omega
        · have Heq := Lib.hid (show op = 1 from by simpa using ho)
          cases gd
          · have HV := Lib.hid (show R = false from by rw [HV0.out, if_pos Heq.out]; exact all_false hkl rfl (by rw [HXe.out]; exact HGd.out))
            go_wp2_with (first
              | ((with_reducible refine wpList_load_mid_w ?lw 58 _ rfl b (off + k * 14) rfl #[.int .u64 x.id.hi, .int .u64 x.id.lo, .int .u64 x.dp.hi, .int .u64 x.dp.lo, .int .u64 x.dq.hi, .int .u64 x.dq.lo, .int .u64 x.cp.hi, .int .u64 x.cp.lo, .int .u64 x.cq.hi, .int .u64 x.cq.lo, .int .i64 x.ledger, .int .i64 x.code, .int .i64 x.flags, .int .i64 x.stamp] _ HRg.out Try.underlying58 rfl rfl ?_); (case lw => rfl))
              | ((with_reducible refine wpList_load_row_w ?lw 58 _ rfl wr.heap.size rfl 58 _ _ _ HBk.out Try.underlying58 rfl rfl ?_); (case lw => rfl))
              | (go_at_call 24; go_must (with_reducible refine HG.out.mono ?_); rintro e w2 ⟨rfl, f2⟩; have F3 := Lib.hid f2; clear f2))
            go_ret
            exact ⟨by rw [HV.out]; rfl, (HF.out.then_ FA.out (fun _ h => h.elim)).then_ F3.out (fun _ h => h.elim)⟩
          · have HS := Lib.hid (show (la.take (k + 1)).all Acc.good = true from by rw [HX.out, HAll.out Heq.out, HGd.out]; rfl)
            go_wp2_with (first
              | ((with_reducible refine wpList_load_mid_w ?lw 58 _ rfl b (off + k * 14) rfl #[.int .u64 x.id.hi, .int .u64 x.id.lo, .int .u64 x.dp.hi, .int .u64 x.dp.lo, .int .u64 x.dq.hi, .int .u64 x.dq.lo, .int .u64 x.cp.hi, .int .u64 x.cp.lo, .int .u64 x.cq.hi, .int .u64 x.cq.lo, .int .i64 x.ledger, .int .i64 x.code, .int .i64 x.flags, .int .i64 x.stamp] _ HRg.out Try.underlying58 rfl rfl ?_); (case lw => rfl))
              | ((with_reducible refine wpList_load_row_w ?lw 58 _ rfl wr.heap.size rfl 58 _ _ _ HBk.out Try.underlying58 rfl rfl ?_); (case lw => rfl))
              | (go_at_call 24; go_must (with_reducible refine HG.out.mono ?_); rintro e w2 ⟨rfl, f2⟩; have F3 := Lib.hid f2; have HB3 := Lib.hid (f2.blk HBra.out (fun h => h)); clear f2))
            go_roundw
            case rel => first | exact ⟨k + 1, by omega, by go_num, fun _ => (by first | exact HS.out | exact List.all_eq_true.1 HS.out), HB3.out, (HF.out.then_ FA.out (fun _ h => h.elim)).then_ F3.out (fun _ h => h.elim)⟩ | ((repeat apply Exists.intro); refine (fun a b => ⟨b, a⟩ : ∀ {P Q : Prop}, P → Q → Q ∧ P) ?_ ?_; (first | rfl | exact ⟨rfl, rfl⟩ | exact ⟨rfl, rfl, rfl⟩ | exact ⟨rfl, rfl, rfl, rfl⟩); exact ⟨k + 1, by omega, by go_num, fun _ => (by first | exact HS.out | exact List.all_eq_true.1 HS.out), HB3.out, (HF.out.then_ FA.out (fun _ h => h.elim)).then_ F3.out (fun _ h => h.elim)⟩)
            case measure => simp [intOf]; omega
      · have hltI : ¬ (k : Int) < n1 := by omega
        have HAl1 := Lib.hid (show op = 1 → la.all Acc.good = true from fun e => by have h := HAll.out e; rwa [show la.take k = la from List.take_of_length_le (by have := HN1.out; omega)] at h)
        have q1 := blk_cell HBr.out 1 rfl
        have q2 := blk_cell HBr.out 2 rfl
        clear hall hf hbq
        go_wp2_with fail
        go_loopw [34] (fun i wr => ∃ k : Nat, k ≤ n2 ∧ i = .int .i64 k ∧ (op = 2 → (lt.take k).all Tx.good = true) ∧ wr.heap[w.heap.size]? = some (.cells #[.int .i64 op, .slice a1 n1 c1, .slice a2 n2 c2, .int .i64 now, .slice a3 n3 c3, .int .u64 f.acct.hi, .int .u64 f.acct.lo, .int .i64 f.from_, .int .i64 f.upto, .bool f.deb, .bool f.cre, .bool f.lat, .int .i64 f.lim] 31 (0, 0)) ∧ Fr (fun _ => False) w wr) (fun i _ => ((n2 : Int) - intOf i).toNat)
        case atStart => exact ⟨0, Nat.zero_le _, rfl, fun _ => rfl, HBr.out, HF.out⟩
        case round =>
          obtain ⟨k, hk, rfl, hall, hbq, hf⟩ := hrel
          have HAll := Lib.hid hall
          have HF := Lib.hid hf
          have HBr := Lib.hid hbq
          by_cases hlt : k < n2
          · have hltI : (k : Int) < n2 := by omega
            have hkl : k < lt.length := by rw [HN2.out]; exact hlt
            obtain ⟨b, off, rfl, HRg⟩ := rowTx (H2.out.fr hf (fun _ _ h => h)) hkl
            have hbl : b < wr.heap.size := World.block_lt_of_cell? _ _ (HRg 0 _ rfl)
            obtain ⟨x, hx⟩ : ∃ x, lt[k] = x := ⟨_, rfl⟩
            rw [hx] at HRg
            have HRg := Lib.hid (show wr.rangeAt b (off + k * 16) (#[.int .u64 x.id.hi, .int .u64 x.id.lo, .int .u64 x.debit.hi, .int .u64 x.debit.lo, .int .u64 x.credit.hi, .int .u64 x.credit.lo, .int .u64 x.amount.hi, .int .u64 x.amount.lo, .int .u64 x.pending.hi, .int .u64 x.pending.lo, .int .i64 x.timeout, .int .i64 x.ledger, .int .i64 x.code, .int .i64 x.flags, .int .i64 x.stamp, .int .i64 x.born] : Array Value).toList from HRg)
            have HX := Lib.hid (all_succ (f := Tx.good) hkl hx)
            have HBk := Lib.hid (heap_alloc_new wr (.cells #[.int .u64 x.id.hi, .int .u64 x.id.lo, .int .u64 x.debit.hi, .int .u64 x.debit.lo, .int .u64 x.credit.hi, .int .u64 x.credit.lo, .int .u64 x.amount.hi, .int .u64 x.amount.lo, .int .u64 x.pending.hi, .int .u64 x.pending.lo, .int .i64 x.timeout, .int .i64 x.ledger, .int .i64 x.code, .int .i64 x.flags, .int .i64 x.stamp, .int .i64 x.born] 61))
            have FA := Lib.hid ((Fr.refl (fun _ => False) wr).alloc (.cells #[.int .u64 x.id.hi, .int .u64 x.id.lo, .int .u64 x.debit.hi, .int .u64 x.debit.lo, .int .u64 x.credit.hi, .int .u64 x.credit.lo, .int .u64 x.amount.hi, .int .u64 x.amount.lo, .int .u64 x.pending.hi, .int .u64 x.pending.lo, .int .i64 x.timeout, .int .i64 x.ledger, .int .i64 x.code, .int .i64 x.flags, .int .i64 x.stamp, .int .i64 x.born] 61))
            have HBra := Lib.hid (blk_alloc HBr.out (.cells #[.int .u64 x.id.hi, .int .u64 x.id.lo, .int .u64 x.debit.hi, .int .u64 x.debit.lo, .int .u64 x.credit.hi, .int .u64 x.credit.lo, .int .u64 x.amount.hi, .int .u64 x.amount.lo, .int .u64 x.pending.hi, .int .u64 x.pending.lo, .int .i64 x.timeout, .int .i64 x.ledger, .int .i64 x.code, .int .i64 x.flags, .int .i64 x.stamp, .int .i64 x.born] 61))
            have q0 := blk_cell HBra.out 0 rfl
            have HG := Lib.hid (xrefGood_any (wr.alloc (.cells #[.int .u64 x.id.hi, .int .u64 x.id.lo, .int .u64 x.debit.hi, .int .u64 x.debit.lo, .int .u64 x.credit.hi, .int .u64 x.credit.lo, .int .u64 x.amount.hi, .int .u64 x.amount.lo, .int .u64 x.pending.hi, .int .u64 x.pending.lo, .int .i64 x.timeout, .int .i64 x.ledger, .int .i64 x.code, .int .i64 x.flags, .int .i64 x.stamp, .int .i64 x.born] 61)) x)
            obtain ⟨gd, hgd⟩ : ∃ gd, x.good = gd := ⟨_, rfl⟩
            rw [hgd, show x.val = .agg #[.int .u64 x.id.hi, .int .u64 x.id.lo, .int .u64 x.debit.hi, .int .u64 x.debit.lo, .int .u64 x.credit.hi, .int .u64 x.credit.lo, .int .u64 x.amount.hi, .int .u64 x.amount.lo, .int .u64 x.pending.hi, .int .u64 x.pending.lo, .int .i64 x.timeout, .int .i64 x.ledger, .int .i64 x.code, .int .i64 x.flags, .int .i64 x.stamp, .int .i64 x.born] from rfl] at HG
            have HGd := Lib.hid hgd
            have HXe := Lib.hid hx
            have w1 : IntKind.i64.wrap ((k : Int) + 1) = k + 1 := IntWalk.i64_in _ (by omega)
            clear hall hf hx hgd hbq
            cases ho : (op == 2)
            · have Hno := Lib.hid (show op ≠ 2 from by simpa using ho)
              go_wp2_with ((with_reducible refine wpList_load_mid_w ?lw 61 _ rfl b (off + k * 16) rfl #[.int .u64 x.id.hi, .int .u64 x.id.lo, .int .u64 x.debit.hi, .int .u64 x.debit.lo, .int .u64 x.credit.hi, .int .u64 x.credit.lo, .int .u64 x.amount.hi, .int .u64 x.amount.lo, .int .u64 x.pending.hi, .int .u64 x.pending.lo, .int .i64 x.timeout, .int .i64 x.ledger, .int .i64 x.code, .int .i64 x.flags, .int .i64 x.stamp, .int .i64 x.born] _ HRg.out Try.underlying61 rfl rfl ?_); (case lw => rfl))
              go_roundw
              case rel => first | exact ⟨k + 1, by omega, by go_num, fun e => absurd e Hno.out, HBra.out, HF.out.then_ FA.out (fun _ h => h.elim)⟩ | ((repeat apply Exists.intro); refine (fun a b => ⟨b, a⟩ : ∀ {P Q : Prop}, P → Q → Q ∧ P) ?_ ?_; (first | rfl | exact ⟨rfl, rfl⟩ | exact ⟨rfl, rfl, rfl⟩ | exact ⟨rfl, rfl, rfl, rfl⟩); exact ⟨k + 1, by omega, by go_num, fun e => absurd e Hno.out, HBra.out, HF.out.then_ FA.out (fun _ h => h.elim)⟩)
              case measure => simp [intOf]; omega
            · have Heq := Lib.hid (show op = 2 from by simpa using ho)
              cases gd
              · have HV := Lib.hid (show R = false from by rw [HV0.out, if_neg (by have := Heq.out; omega), if_pos Heq.out]; exact all_false hkl rfl (by rw [HXe.out]; exact HGd.out))
                go_wp2_with (first
                  | ((with_reducible refine wpList_load_mid_w ?lw 61 _ rfl b (off + k * 16) rfl #[.int .u64 x.id.hi, .int .u64 x.id.lo, .int .u64 x.debit.hi, .int .u64 x.debit.lo, .int .u64 x.credit.hi, .int .u64 x.credit.lo, .int .u64 x.amount.hi, .int .u64 x.amount.lo, .int .u64 x.pending.hi, .int .u64 x.pending.lo, .int .i64 x.timeout, .int .i64 x.ledger, .int .i64 x.code, .int .i64 x.flags, .int .i64 x.stamp, .int .i64 x.born] _ HRg.out Try.underlying61 rfl rfl ?_); (case lw => rfl))
                  | ((with_reducible refine wpList_load_row_w ?lw 61 _ rfl wr.heap.size rfl 61 _ _ _ HBk.out Try.underlying61 rfl rfl ?_); (case lw => rfl))
                  | (go_at_call 25; go_must (with_reducible refine HG.out.mono ?_); rintro e w2 ⟨rfl, f2⟩; have F3 := Lib.hid f2; clear f2))
                go_ret
                exact ⟨by rw [HV.out]; rfl, (HF.out.then_ FA.out (fun _ h => h.elim)).then_ F3.out (fun _ h => h.elim)⟩
              · have HS := Lib.hid (show (lt.take (k + 1)).all Tx.good = true from by rw [HX.out, HAll.out Heq.out, HGd.out]; rfl)
                go_wp2_with (first
                  | ((with_reducible refine wpList_load_mid_w ?lw 61 _ rfl b (off + k * 16) rfl #[.int .u64 x.id.hi, .int .u64 x.id.lo, .int .u64 x.debit.hi, .int .u64 x.debit.lo, .int .u64 x.credit.hi, .int .u64 x.credit.lo, .int .u64 x.amount.hi, .int .u64 x.amount.lo, .int .u64 x.pending.hi, .int .u64 x.pending.lo, .int .i64 x.timeout, .int .i64 x.ledger, .int .i64 x.code, .int .i64 x.flags, .int .i64 x.stamp, .int .i64 x.born] _ HRg.out Try.underlying61 rfl rfl ?_); (case lw => rfl))
                  | ((with_reducible refine wpList_load_row_w ?lw 61 _ rfl wr.heap.size rfl 61 _ _ _ HBk.out Try.underlying61 rfl rfl ?_); (case lw => rfl))
                  | (go_at_call 25; go_must (with_reducible refine HG.out.mono ?_); rintro e w2 ⟨rfl, f2⟩; have F3 := Lib.hid f2; have HB3 := Lib.hid (f2.blk HBra.out (fun h => h)); clear f2))
                go_roundw
                case rel => first | exact ⟨k + 1, by omega, by go_num, fun _ => (by first | exact HS.out | exact List.all_eq_true.1 HS.out), HB3.out, (HF.out.then_ FA.out (fun _ h => h.elim)).then_ F3.out (fun _ h => h.elim)⟩ | ((repeat apply Exists.intro); refine (fun a b => ⟨b, a⟩ : ∀ {P Q : Prop}, P → Q → Q ∧ P) ?_ ?_; (first | rfl | exact ⟨rfl, rfl⟩ | exact ⟨rfl, rfl, rfl⟩ | exact ⟨rfl, rfl, rfl, rfl⟩); exact ⟨k + 1, by omega, by go_num, fun _ => (by first | exact HS.out | exact List.all_eq_true.1 HS.out), HB3.out, (HF.out.then_ FA.out (fun _ h => h.elim)).then_ F3.out (fun _ h => h.elim)⟩)
                case measure => simp [intOf]; omega
          · have hltI : ¬ (k : Int) < n2 := by omega
            have HAl2 := Lib.hid (show op = 2 → lt.all Tx.good = true from fun e => by have h := HAll.out e; rwa [show lt.take k = lt from List.take_of_length_le (by have := HN2.out; omega)] at h)
            have q1 := blk_cell HBr.out 1 rfl
            have q2 := blk_cell HBr.out 2 rfl
            clear hall hf hbq
            have HV := Lib.hid (show R = true from by
              rw [HV0.out]
              split
              · rename_i e; exact HAl1.out e
              · split
                · rename_i e; exact HAl2.out e
                · rfl)
            go_wp2_with fail
            go_ret
            exact ⟨by rw [HV.out]; rfl, HF.out⟩

end Go.Proofs.Ytfmcimngogibkaa
