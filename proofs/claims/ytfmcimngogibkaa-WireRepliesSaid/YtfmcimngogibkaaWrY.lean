/- Law 22: the walk of WireReplies. -/
import Derived.Test.YtfmcimngogibkaaWrV
import Derived.Test.YtfmcimngogibkaaWrX
set_option linter.unusedSimpArgs false
set_option linter.unusedVariables false
namespace Go.Proofs.Ytfmcimngogibkaa
open Go.RowKit

theorem rep_read {er : Int} {rs : List Int} {la : List Acc} {lt : List Tx} (h : rfits er rs la lt = true) (ha : ∀ x ∈ la, x.ok) (ht : ∀ x ∈ lt, x.ok) : repOk (repBytes er rs la lt) = true ∧ (rdRep (repBytes er rs la lt)).1 = ⟨er, rs, la, lt⟩ := by
  have e := rep_again (rfit_of h) ha ht []
  rw [List.append_nil] at e
  refine ⟨?_, by rw [e]⟩
  rw [repOk, e]
  simp only [Rep.fits, h]
  rfl
theorem rep_case (er : Int) (rs : List Int) (la : List Acc) (lt : List Tx) (ha : ∀ x ∈ la, x.ok) (ht : ∀ x ∈ lt, x.ok) : ∃ er' rs' la' lt', rfits er' rs' la' lt' = true ∧ (∀ x ∈ la', x.ok) ∧ (∀ x ∈ lt', x.ok) ∧ repBytes er' rs' la' lt' = repOut er rs la lt ∧
    ((rfits er rs la lt = true ∧ er' = er ∧ rs' = rs ∧ la' = la ∧ lt' = lt) ∨ (rfits er rs la lt = false ∧ er' = 3 ∧ rs' = [])) := by
  unfold repOut
  by_cases h : rfits er rs la lt = true
  · exact ⟨er, rs, la, lt, h, ha, ht, (if_pos h).symm, .inl ⟨h, rfl, rfl, rfl, rfl⟩⟩
  · exact ⟨3, [], [], [], rfl, (fun _ h => nomatch h), (fun _ h => nomatch h), (if_neg h).symm, .inr ⟨by simpa using h, rfl, rfl⟩⟩
set_option maxRecDepth 4000 in
set_option maxHeartbeats 6400000 in
theorem wreplies_any (w : World) (v : Value) (p : Rep) (hv : RepIs w v p) (ha : ∀ x ∈ p.accs, x.ok) (ht : ∀ x ∈ p.txs, x.ok) (hb0 : p.rs.length ≤ 140737488355328) (hb1 : p.accs.length ≤ 140737488355328) (hb2 : p.txs.length ≤ 140737488355328) :
    Calls Try.prog 8 #[v] w fun e w' => e = .returned (.bool true) ∧ Fr (fun _ => False) w w' := by
  obtain ⟨er, rs, la, lt⟩ := p
  obtain ⟨a0, c0, a1, c1, a2, c2, rfl, r0, r1, r2⟩ := hv
  simp only at ha ht hb0 hb1 hb2 r0 r1 r2 ⊢
  obtain ⟨er', rs', la', lt', hf', ha', ht', hl', hcase⟩ := rep_case er rs la lt ha ht
  obtain ⟨l, hle⟩ : ∃ l, repOut er rs la lt = l := ⟨_, rfl⟩
  have hrd := rep_read hf' ha' ht'
  rw [hl', hle] at hrd
  have hlB : Bytes l := by rw [← hle, ← hl']; exact rep_bytes_ok er' rs' la' lt'
  have hout' : repOut er' rs' la' lt' = l := by rw [repOut, if_pos hf', hl', hle]
  have hft' := rfit_of hf'
  obtain ⟨n0, hn0⟩ : ∃ n, rs.length = n := ⟨_, rfl⟩
  obtain ⟨n1, hn1⟩ : ∃ n, la.length = n := ⟨_, rfl⟩
  obtain ⟨n2, hn2⟩ : ∃ n, lt.length = n := ⟨_, rfl⟩
  rw [hn0, hn1, hn2]
  rw [hn0] at hb0
  rw [hn1] at hb1
  rw [hn2] at hb2
  have Bq := Lib.hid (heap_alloc_new w (.cells #[.int .i64 er, .slice a0 n0 c0, .slice a1 n1 c1, .slice a2 n2 c2] 47))
  have FA := Lib.hid ((Fr.refl (fun _ => False) w).alloc (.cells #[.int .i64 er, .slice a0 n0 c0, .slice a1 n1 c1, .slice a2 n2 c2] 47))
  have HR0 := Lib.hid r0
  have HR1 := Lib.hid r1
  have HR2 := Lib.hid r2
  have HN0 := Lib.hid hn0
  have HN1 := Lib.hid hn1
  have HN2 := Lib.hid hn2
  have HA := Lib.hid ha
  have HT := Lib.hid ht
  have HLe := Lib.hid hle
  have HRd := Lib.hid hrd
  have HLB := Lib.hid hlB
  have HOut := Lib.hid hout'
  have HFt := Lib.hid hft'
  have HCase := Lib.hid hcase
  clear r0 r1 r2 hn0 hn1 hn2 ha ht hle hrd hlB hout' hft' hcase hf' ha' ht' hl'
  have wa : IntKind.i64.wrap ((n0 : Int) + n1) = n0 + n1 := IntWalk.i64_in _ (by omega)
  have wb : IntKind.i64.wrap ((n0 : Int) + n1 + n2) = n0 + n1 + n2 := IntWalk.i64_in _ (by omega)
  go_enter Try.func8, Try.ntmps8
  go_wp2_with fail
  refine (alive22_any _).mono ?_
  rintro e w1 ⟨rfl, f1⟩
  have F1 := Lib.hid (FA.out.then_ f1 (fun _ h => h.elim))
  have B1 := Lib.hid (f1.blk Bq.out (fun h => h))
  have q0 := blk_cell B1.out 0 rfl; have q1 := blk_cell B1.out 1 rfl; have q2 := blk_cell B1.out 2 rfl; have q3 := blk_cell B1.out 3 rfl
  clear f1
  by_cases hbig : (100 : Int) < n0 + n1 + n2
  · go_wp2_with fail
    go_ret
    exact ⟨rfl, F1.out⟩
  have hs0 : n0 ≤ 100 := by omega
  have hs1 : n1 ≤ 100 := by omega
  have hs2 : n2 ≤ 100 := by omega
  have HP1 := Lib.hid (reply_any w1 er a0 n0 c0 a1 n1 c1 a2 n2 c2 rs la lt HN0.out HN1.out HN2.out hb0 hb1 hb2 (HR0.out.fr F1.out (fun _ _ h => h)) (HR1.out.fr F1.out (fun _ _ h => h)) (HR2.out.fr F1.out (fun _ _ h => h)))
  rw [HLe.out] at HP1
  go_wp2_with fail
  refine HP1.out.mono ?_
  rintro e w2 ⟨rfl, f2⟩
  have F2 := Lib.hid (F1.out.then_ f2 (fun _ h => h.elim))
  have B2 := Lib.hid (f2.blk B1.out (fun h => h))
  have HC := Lib.hid (fun W (hf : Fr (fun _ => False) w W) => codes_any W a0 n0 c0 rs HN0.out (by omega) (HR0.out.fr hf (fun _ _ h => h)))
  have HY := Lib.hid (fun W (hf : Fr (fun _ => False) w W) a c (hr : Row W a (rs.flatMap iCells)) => by
    have h := refReply_any W er a n0 c a1 n1 c1 a2 n2 c2 rs la lt HN0.out HN1.out HN2.out (by omega) (by omega) (by omega) hr (HR1.out.fr hf (fun _ _ h => h)) (HR2.out.fr hf (fun _ _ h => h)) HA.out HT.out
    rwa [HLe.out] at h)
  clear q0 q1 q2 q3 f2
  have q0 := blk_cell B2.out 0 rfl; have q1 := blk_cell B2.out 1 rfl; have q2 := blk_cell B2.out 2 rfl; have q3 := blk_cell B2.out 3 rfl
  go_upto_region 6 with fail
  go_region_held3 (fun w' => w'.cell? ⟨w.heap.size, 0, none⟩ = some (Value.int .i64 er) ∧ w'.cell? ⟨w.heap.size, 1, none⟩ = some (Value.slice a0 n0 c0) ∧ w'.cell? ⟨w.heap.size, 2, none⟩ = some (Value.slice a1 n1 c1) ∧ w'.cell? ⟨w.heap.size, 3, none⟩ = some (Value.slice a2 n2 c2))
    (first | exact ⟨q0, q1, q2, q3⟩ | go_keep)
    (first
      | (go_at_call 18; go_must (with_reducible refine (HC.out _ (F2.out.then_ (S2 := fun _ => False) (by repeat (first | (with_reducible exact Fr.refl _ _) | (with_reducible refine Fr.drew ?_) | (with_reducible refine Fr.drewN ?_ _) | (with_reducible refine Fr.alloc ?_ _) | (with_reducible refine Fr.set1 ?_ _) | (with_reducible refine Fr.setNew ?_ (by omega) _))) (fun _ h => h.elim))).mono ?_); rintro e w3 ⟨ac, cc, rfl, hrc, f3⟩; have HRc := Lib.hid hrc; have FC := Lib.hid ((F2.out.drew).then_ f3 (fun _ h => h.elim)); have Hb := Lib.hid (f3.blk (blk_drew B2.out) (fun h => h)); have q0 := blk_cell Hb.out 0 rfl; have q1 := blk_cell Hb.out 1 rfl; have q2 := blk_cell Hb.out 2 rfl; have q3 := blk_cell Hb.out 3 rfl; clear hrc f3)
      | (go_at_call 17; go_must (with_reducible refine (HY.out _ FC.out ac cc HRc.out).mono ?_); rintro e w4 ⟨rfl, f4⟩; have FD := Lib.hid (FC.out.then_ f4 (fun _ h => h.elim)); have Hb := Lib.hid (f4.blk Hb.out (fun h => h)); have q0 := blk_cell Hb.out 0 rfl; have q1 := blk_cell Hb.out 1 rfl; have q2 := blk_cell Hb.out 2 rfl; have q3 := blk_cell Hb.out 3 rfl; clear f4))
  have HP2 := Lib.hid (readRep_any w4 l HLB.out)
  rw [HRd.out.1, if_pos rfl, if_pos rfl, HRd.out.2] at HP2
  clear HC HY HRc FC q0 q1 q2 q3
  go_wp2_with fail
  refine HP2.out.mono ?_
  rintro e w5 ⟨v5, rfl, ⟨b0, d0, b1, d1, b2, d2, rfl, x0, x1, x2⟩, f5⟩
  simp only at x0 x1 x2 ⊢
  obtain ⟨m0, hm0⟩ : ∃ n, rs'.length = n := ⟨_, rfl⟩
  obtain ⟨m1, hm1⟩ : ∃ n, la'.length = n := ⟨_, rfl⟩
  obtain ⟨m2, hm2⟩ : ∃ n, lt'.length = n := ⟨_, rfl⟩
  rw [hm0, hm1, hm2]
  have l0 : m0 ≤ 16 := hm0 ▸ HFt.out.n0
  have l1 : m1 ≤ 16 := hm1 ▸ HFt.out.n1
  have l2 : m2 ≤ 16 := hm2 ▸ HFt.out.n2
  have F5 := Lib.hid (FD.out.then_ f5 (fun _ h => h.elim))
  have B5 := Lib.hid (f5.blk Hb.out (fun h => h))
  have FX := Lib.hid ((Fr.refl (fun _ => False) w5).alloc (.cells #[.int .i64 er', .slice b0 m0 d0, .slice b1 m1 d1, .slice b2 m2 d2] 47))
  have BX := Lib.hid (heap_alloc_new w5 (.cells #[.int .i64 er', .slice b0 m0 d0, .slice b1 m1 d1, .slice b2 m2 d2] 47))
  have X0 := Lib.hid (x0.fr FX.out (fun _ _ h => h))
  have X1 := Lib.hid (x1.fr FX.out (fun _ _ h => h))
  have X2 := Lib.hid (x2.fr FX.out (fun _ _ h => h))
  have HP3 := Lib.hid (reply_any (w5.alloc (.cells #[.int .i64 er', .slice b0 m0 d0, .slice b1 m1 d1, .slice b2 m2 d2] 47)) er' b0 m0 d0 b1 m1 d1 b2 m2 d2 rs' la' lt' hm0 hm1 hm2 (by omega) (by omega) (by omega) X0.out X1.out X2.out)
  rw [HOut.out] at HP3
  have HM0 := Lib.hid hm0
  have HM1 := Lib.hid hm1
  have HM2 := Lib.hid hm2
  have z0 := blk_cell BX.out 0 rfl; have z1 := blk_cell BX.out 1 rfl; have z2 := blk_cell BX.out 2 rfl; have z3 := blk_cell BX.out 3 rfl
  clear x0 x1 x2 f5 hm0 hm1 hm2
  go_wp2_with fail
  refine HP3.out.mono ?_
  rintro e w6 ⟨rfl, f6⟩
  have F6 := Lib.hid (((F5.out.then_ FX.out (fun _ h => h.elim))).then_ f6 (fun _ h => h.elim))
  have B6 := Lib.hid (f6.blk (FX.out.blk B5.out (fun h => h)) (fun h => h))
  have BX6 := Lib.hid (f6.blk BX.out (fun h => h))
  have Y0 := Lib.hid (X0.out.fr f6 (fun _ _ h => h))
  have Y1 := Lib.hid (X1.out.fr f6 (fun _ _ h => h))
  have Y2 := Lib.hid (X2.out.fr f6 (fun _ _ h => h))
  have HC := Lib.hid (fun W (hf : Fr (fun _ => False) w W) => codes_any W a0 n0 c0 rs HN0.out (by omega) (HR0.out.fr hf (fun _ _ h => h)))
  obtain ⟨ft, hft⟩ : ∃ ft, rfits er rs la lt = ft := ⟨_, rfl⟩
  have HFts := Lib.hid hft
  have HY := Lib.hid (fun W (hf : Fr (fun _ => False) w W) a c (hr : Row W a (rs.flatMap iCells)) => by
    have h := refFits_any W er a n0 c a1 n1 c1 a2 n2 c2 rs la lt HN0.out HN1.out HN2.out (by omega) (by omega) (by omega) hr (HR1.out.fr hf (fun _ _ h => h)) (HR2.out.fr hf (fun _ _ h => h))
    rwa [HFts.out] at h)
  clear z0 z1 z2 z3 f6 hft
  have q0 := blk_cell B6.out 0 rfl; have q1 := blk_cell B6.out 1 rfl; have q2 := blk_cell B6.out 2 rfl; have q3 := blk_cell B6.out 3 rfl
  go_upto_region 11 with fail
  go_region_held3 (fun w' => w'.cell? ⟨w.heap.size, 0, none⟩ = some (Value.int .i64 er) ∧ w'.cell? ⟨w.heap.size, 1, none⟩ = some (Value.slice a0 n0 c0) ∧ w'.cell? ⟨w.heap.size, 2, none⟩ = some (Value.slice a1 n1 c1) ∧ w'.cell? ⟨w.heap.size, 3, none⟩ = some (Value.slice a2 n2 c2))
    (first | exact ⟨q0, q1, q2, q3⟩ | go_keep)
    (first
      | (go_at_call 18; go_must (with_reducible refine (HC.out _ (F6.out.then_ (S2 := fun _ => False) (by repeat (first | (with_reducible exact Fr.refl _ _) | (with_reducible refine Fr.drew ?_) | (with_reducible refine Fr.drewN ?_ _) | (with_reducible refine Fr.alloc ?_ _) | (with_reducible refine Fr.set1 ?_ _) | (with_reducible refine Fr.setNew ?_ (by omega) _))) (fun _ h => h.elim))).mono ?_); rintro e w7 ⟨ac, cc, rfl, hrc, f7⟩; have HRc := Lib.hid hrc; have FC := Lib.hid ((F6.out.drew).then_ f7 (fun _ h => h.elim)); have Ff := Lib.hid f7; have Hb := Lib.hid (f7.blk (blk_drew B6.out) (fun h => h)); have Hx := Lib.hid (f7.blk (blk_drew BX6.out) (fun h => h)); have q0 := blk_cell Hb.out 0 rfl; have q1 := blk_cell Hb.out 1 rfl; have q2 := blk_cell Hb.out 2 rfl; have q3 := blk_cell Hb.out 3 rfl; clear hrc f7)
      | (go_at_call 20; go_must (with_reducible refine (HY.out _ FC.out ac cc HRc.out).mono ?_); rintro e w8 ⟨rfl, f8⟩; have FD := Lib.hid (FC.out.then_ f8 (fun _ h => h.elim)); have Fg := Lib.hid f8; have Hb := Lib.hid (f8.blk Hb.out (fun h => h)); have Hx := Lib.hid (f8.blk Hx.out (fun h => h)); have q0 := blk_cell Hb.out 0 rfl; have q1 := blk_cell Hb.out 1 rfl; have q2 := blk_cell Hb.out 2 rfl; have q3 := blk_cell Hb.out 3 rfl; clear f8))
  have z0 := blk_cell Hx.out 0 rfl; have z1 := blk_cell Hx.out 1 rfl; have z2 := blk_cell Hx.out 2 rfl; have z3 := blk_cell Hx.out 3 rfl
  rcases HCase.out with ⟨e1, e2, e3, e4, e5⟩ | ⟨e1, e2, e3⟩
  · have eft : ft = true := HFts.out.symm.trans e1
    subst eft
    subst e2 e3 e4 e5
    obtain rfl : m0 = n0 := HM0.out.symm.trans HN0.out
    obtain rfl : m1 = n1 := HM1.out.symm.trans HN1.out
    obtain rfl : m2 = n2 := HM2.out.symm.trans HN2.out
    have HSm := Lib.hid (same_any w8 b1 m1 d1 a1 c1 b2 m2 d2 a2 c2 la' lt' HM1.out HM2.out (by omega) (by omega) (Row.fr (S := fun _ => False) (Row.fr (w := w6.drew) (S := fun _ => False) Y1.out Ff.out (fun _ _ h => h)) Fg.out (fun _ _ h => h)) (HR1.out.fr FD.out (fun _ _ h => h)) (Row.fr (S := fun _ => False) (Row.fr (w := w6.drew) (S := fun _ => False) Y2.out Ff.out (fun _ _ h => h)) Fg.out (fun _ _ h => h)) (HR2.out.fr FD.out (fun _ _ h => h)))
    clear e1
    go_wp2_with fail
    refine HSm.out.mono ?_
    rintro e w9 ⟨rfl, f9⟩
    have F9 := Lib.hid (FD.out.then_ f9 (fun _ h => h.elim))
    clear f9
    go_wp2_with fail
    go_ret
    exact ⟨rfl, F9.out⟩
  · have eft : ft = false := HFts.out.symm.trans e1
    subst eft
    subst e2 e3
    obtain rfl : m0 = 0 := HM0.out.symm
    clear e1
    go_wp2_with fail
    go_ret
    exact ⟨rfl, FD.out⟩
end Go.Proofs.Ytfmcimngogibkaa
