/- Put of a record. -/
import Derived.Test.YtfmcimngogibkaaWXferG
import Derived.Test.YtfmcimngogibkaaArr5
import Derived.Lib.ItoaWalk
import Derived.LoopN
import Derived.Deep.DeepMust
set_option linter.unusedSimpArgs false
set_option linter.unusedVariables false
namespace Go.Proofs.Ytfmcimngogibkaa
open Go.RowKit
set_option maxHeartbeats 6400000 in
theorem xputRec_any (w : World) (S : Nat → Prop) (g : Nat) (l : List Int) (a : Tx) (h : IsW w S g l) (hl : l.length + 1000 ≤ 140737488355328) :
    Calls Try.prog 55 #[.pointer (some ⟨g, 0, none⟩), a.val] w fun e w' => e = .returned (.tuple #[]) ∧ IsW w' (Gro S w w') g (l ++ (if a.good = true then a else Tx.none).bytes) ∧ Fr S w w' := by
  have HW0 := Lib.hid h
  clear h
  unfold Tx.val
  have hB := Lib.hid (heap_alloc_new w (.cells #[.int .u64 a.id.hi, .int .u64 a.id.lo, .int .u64 a.debit.hi, .int .u64 a.debit.lo, .int .u64 a.credit.hi, .int .u64 a.credit.lo, .int .u64 a.amount.hi, .int .u64 a.amount.lo, .int .u64 a.pending.hi, .int .u64 a.pending.lo, .int .i64 a.timeout, .int .i64 a.ledger, .int .i64 a.code, .int .i64 a.flags, .int .i64 a.stamp, .int .i64 a.born] 61))
  have Hgd := Lib.hid (show ∀ W, Calls Try.prog 35 #[.agg #[.int .u64 a.id.hi, .int .u64 a.id.lo, .int .u64 a.debit.hi, .int .u64 a.debit.lo, .int .u64 a.credit.hi, .int .u64 a.credit.lo, .int .u64 a.amount.hi, .int .u64 a.amount.lo, .int .u64 a.pending.hi, .int .u64 a.pending.lo, .int .i64 a.timeout, .int .i64 a.ledger, .int .i64 a.code, .int .i64 a.flags, .int .i64 a.stamp, .int .i64 a.born]] W fun e w' => e = .returned (.bool a.good) ∧ Fr (fun _ => False) W w' from fun W => xgood_any W a)
  cases hgd : a.good
  all_goals
    rw [hgd] at Hgd
    go_enter Try.func55, Try.ntmps55
    go_wp2_with fail
    refine (Hgd.out _).mono ?_
    rintro e w1 ⟨rfl, f1⟩
    have ba := f1.blk hB.out (fun h => h)
    have a0 := blk_cell ba 0 rfl; have a1 := blk_cell ba 1 rfl; have a2 := blk_cell ba 2 rfl; have a3 := blk_cell ba 3 rfl; have a4 := blk_cell ba 4 rfl; have a5 := blk_cell ba 5 rfl; have a6 := blk_cell ba 6 rfl; have a7 := blk_cell ba 7 rfl; have a8 := blk_cell ba 8 rfl; have a9 := blk_cell ba 9 rfl; have a10 := blk_cell ba 10 rfl; have a11 := blk_cell ba 11 rfl; have a12 := blk_cell ba 12 rfl; have a13 := blk_cell ba 13 rfl; have a14 := blk_cell ba 14 rfl; have a15 := blk_cell ba 15 rfl
    have b0 := blk_free ba 0; have b1 := blk_free ba 1; have b2 := blk_free ba 2; have b3 := blk_free ba 3; have b4 := blk_free ba 4; have b5 := blk_free ba 5; have b6 := blk_free ba 6; have b7 := blk_free ba 7; have b8 := blk_free ba 8; have b9 := blk_free ba 9; have b10 := blk_free ba 10; have b11 := blk_free ba 11; have b12 := blk_free ba 12; have b13 := blk_free ba 13; have b14 := blk_free ba 14; have b15 := blk_free ba 15
    have hlt := blk_lt ba
    have F1 := Lib.hid f1
    have Ba := Lib.hid ba
    clear f1 ba
    go_wp2_with fail
  rotate_left
  · go_name_world V hV
    have FV := Lib.hid (show Fr (fun _ => False) w V from by rw [← hV]; (repeat (first | (with_reducible exact Fr.refl _ _) | (with_reducible refine Fr.drew ?_) | (with_reducible refine Fr.drewN ?_ _) | (with_reducible refine Fr.alloc ?_ _) | (with_reducible refine Fr.set1 ?_ _) | (with_reducible refine Fr.setNew ?_ (by omega) _))) <;> exact ((Fr.refl _ w).alloc _).then_ F1.out (fun _ h => h.elim))
    have v10 : V.cell? ⟨w.heap.size, 10, none⟩ = some (.int .i64 a.timeout) := by subst hV; exact a10
    have v11 : V.cell? ⟨w.heap.size, 11, none⟩ = some (.int .i64 a.ledger) := by subst hV; exact a11
    have v12 : V.cell? ⟨w.heap.size, 12, none⟩ = some (.int .i64 a.code) := by subst hV; exact a12
    have v13 : V.cell? ⟨w.heap.size, 13, none⟩ = some (.int .i64 a.flags) := by subst hV; exact a13
    have v14 : V.cell? ⟨w.heap.size, 14, none⟩ = some (.int .i64 a.stamp) := by subst hV; exact a14
    have v15 : V.cell? ⟨w.heap.size, 15, none⟩ = some (.int .i64 a.born) := by subst hV; exact a15
    have HW := Lib.hid (isW_ex HW0.out (Nat.le_refl _) FV.out)
    have HF := Lib.hid (FV.out.mono (S2 := S) (fun _ h => h.elim))
    have hl0 := World.block_lt_of_cell? V _ v10
    have U10 := Lib.hid v10
    have U11 := Lib.hid v11
    have U12 := Lib.hid v12
    have U13 := Lib.hid v13
    have U14 := Lib.hid v14
    have U15 := Lib.hid v15
    clear hV FV Ba F1 hlt a0 b0 a1 b1 a2 b2 a3 b3 a4 b4 a5 b5 a6 b6 a7 b7 a8 b8 a9 b9 a10 b10 a11 b11 a12 b12 a13 b13 a14 b14 a15 b15 v10 v11 v12 v13 v14 v15
    refine wp_loop_rounds 6 ?_
    rw [rounds_succ]
    have hi := idx_0
    go_wp2_with fail
    clear hi
    refine (wNum_any _ _ g _ _ _ (isW_more2 HW.out (by repeat (first | (with_reducible exact Fr.refl _ _) | (with_reducible refine Fr.drew ?_) | (with_reducible refine Fr.drewN ?_ _) | (with_reducible refine Fr.alloc ?_ _) | (with_reducible refine Fr.set1 ?_ _) | (with_reducible refine Fr.setNew ?_ (by omega) _)))) (by first | omega | (simp only [List.length_append, wideBytes_len, blen]; omega))).mono ?_
    rintro e w2 ⟨rfl, h2, f2⟩
    obtain ⟨p1, p2, p3, p4⟩ := put_step2 hl0 HF.out (by repeat (first | (with_reducible exact Fr.refl _ _) | (with_reducible refine Fr.drew ?_) | (with_reducible refine Fr.drewN ?_ _) | (with_reducible refine Fr.alloc ?_ _) | (with_reducible refine Fr.set1 ?_ _) | (with_reducible refine Fr.setNew ?_ (by omega) _))) h2 f2
    have u10 := p4 _ _ U10.out; have u11 := p4 _ _ U11.out; have u12 := p4 _ _ U12.out; have u13 := p4 _ _ U13.out; have u14 := p4 _ _ U14.out; have u15 := p4 _ _ U15.out
    have HW := Lib.hid p1
    have HF := Lib.hid p2
    have hl0 := p3
    have U10 := Lib.hid u10; have U11 := Lib.hid u11; have U12 := Lib.hid u12; have U13 := Lib.hid u13; have U14 := Lib.hid u14; have U15 := Lib.hid u15
    clear h2 f2 p1 p2 p3 p4 u10 u11 u12 u13 u14 u15
    go_wp2_with fail
    rw [rounds_succ]
    have hi := idx_1
    go_wp2_with fail
    clear hi
    refine (wNum_any _ _ g _ _ _ (isW_more2 HW.out (by repeat (first | (with_reducible exact Fr.refl _ _) | (with_reducible refine Fr.drew ?_) | (with_reducible refine Fr.drewN ?_ _) | (with_reducible refine Fr.alloc ?_ _) | (with_reducible refine Fr.set1 ?_ _) | (with_reducible refine Fr.setNew ?_ (by omega) _)))) (by first | omega | (simp only [List.length_append, wideBytes_len, blen]; omega))).mono ?_
    rintro e w2 ⟨rfl, h2, f2⟩
    obtain ⟨p1, p2, p3, p4⟩ := put_step2 hl0 HF.out (by repeat (first | (with_reducible exact Fr.refl _ _) | (with_reducible refine Fr.drew ?_) | (with_reducible refine Fr.drewN ?_ _) | (with_reducible refine Fr.alloc ?_ _) | (with_reducible refine Fr.set1 ?_ _) | (with_reducible refine Fr.setNew ?_ (by omega) _))) h2 f2
    have u10 := p4 _ _ U10.out; have u11 := p4 _ _ U11.out; have u12 := p4 _ _ U12.out; have u13 := p4 _ _ U13.out; have u14 := p4 _ _ U14.out; have u15 := p4 _ _ U15.out
    have HW := Lib.hid p1
    have HF := Lib.hid p2
    have hl0 := p3
    have U10 := Lib.hid u10; have U11 := Lib.hid u11; have U12 := Lib.hid u12; have U13 := Lib.hid u13; have U14 := Lib.hid u14; have U15 := Lib.hid u15
    clear h2 f2 p1 p2 p3 p4 u10 u11 u12 u13 u14 u15
    go_wp2_with fail
    rw [rounds_succ]
    have hi := idx_2
    go_wp2_with fail
    clear hi
    refine (wNum_any _ _ g _ _ _ (isW_more2 HW.out (by repeat (first | (with_reducible exact Fr.refl _ _) | (with_reducible refine Fr.drew ?_) | (with_reducible refine Fr.drewN ?_ _) | (with_reducible refine Fr.alloc ?_ _) | (with_reducible refine Fr.set1 ?_ _) | (with_reducible refine Fr.setNew ?_ (by omega) _)))) (by first | omega | (simp only [List.length_append, wideBytes_len, blen]; omega))).mono ?_
    rintro e w2 ⟨rfl, h2, f2⟩
    obtain ⟨p1, p2, p3, p4⟩ := put_step2 hl0 HF.out (by repeat (first | (with_reducible exact Fr.refl _ _) | (with_reducible refine Fr.drew ?_) | (with_reducible refine Fr.drewN ?_ _) | (with_reducible refine Fr.alloc ?_ _) | (with_reducible refine Fr.set1 ?_ _) | (with_reducible refine Fr.setNew ?_ (by omega) _))) h2 f2
    have u10 := p4 _ _ U10.out; have u11 := p4 _ _ U11.out; have u12 := p4 _ _ U12.out; have u13 := p4 _ _ U13.out; have u14 := p4 _ _ U14.out; have u15 := p4 _ _ U15.out
    have HW := Lib.hid p1
    have HF := Lib.hid p2
    have hl0 := p3
    have U10 := Lib.hid u10; have U11 := Lib.hid u11; have U12 := Lib.hid u12; have U13 := Lib.hid u13; have U14 := Lib.hid u14; have U15 := Lib.hid u15
    clear h2 f2 p1 p2 p3 p4 u10 u11 u12 u13 u14 u15
    go_wp2_with fail
    rw [rounds_succ]
    have hi := idx_3
    go_wp2_with fail
    clear hi
    refine (wNum_any _ _ g _ _ _ (isW_more2 HW.out (by repeat (first | (with_reducible exact Fr.refl _ _) | (with_reducible refine Fr.drew ?_) | (with_reducible refine Fr.drewN ?_ _) | (with_reducible refine Fr.alloc ?_ _) | (with_reducible refine Fr.set1 ?_ _) | (with_reducible refine Fr.setNew ?_ (by omega) _)))) (by first | omega | (simp only [List.length_append, wideBytes_len, blen]; omega))).mono ?_
    rintro e w2 ⟨rfl, h2, f2⟩
    obtain ⟨p1, p2, p3, p4⟩ := put_step2 hl0 HF.out (by repeat (first | (with_reducible exact Fr.refl _ _) | (with_reducible refine Fr.drew ?_) | (with_reducible refine Fr.drewN ?_ _) | (with_reducible refine Fr.alloc ?_ _) | (with_reducible refine Fr.set1 ?_ _) | (with_reducible refine Fr.setNew ?_ (by omega) _))) h2 f2
    have u10 := p4 _ _ U10.out; have u11 := p4 _ _ U11.out; have u12 := p4 _ _ U12.out; have u13 := p4 _ _ U13.out; have u14 := p4 _ _ U14.out; have u15 := p4 _ _ U15.out
    have HW := Lib.hid p1
    have HF := Lib.hid p2
    have hl0 := p3
    have U10 := Lib.hid u10; have U11 := Lib.hid u11; have U12 := Lib.hid u12; have U13 := Lib.hid u13; have U14 := Lib.hid u14; have U15 := Lib.hid u15
    clear h2 f2 p1 p2 p3 p4 u10 u11 u12 u13 u14 u15
    go_wp2_with fail
    rw [rounds_succ]
    have hi := idx_4
    go_wp2_with fail
    clear hi
    refine (wNum_any _ _ g _ _ _ (isW_more2 HW.out (by repeat (first | (with_reducible exact Fr.refl _ _) | (with_reducible refine Fr.drew ?_) | (with_reducible refine Fr.drewN ?_ _) | (with_reducible refine Fr.alloc ?_ _) | (with_reducible refine Fr.set1 ?_ _) | (with_reducible refine Fr.setNew ?_ (by omega) _)))) (by first | omega | (simp only [List.length_append, wideBytes_len, blen]; omega))).mono ?_
    rintro e w2 ⟨rfl, h2, f2⟩
    obtain ⟨p1, p2, p3, p4⟩ := put_step2 hl0 HF.out (by repeat (first | (with_reducible exact Fr.refl _ _) | (with_reducible refine Fr.drew ?_) | (with_reducible refine Fr.drewN ?_ _) | (with_reducible refine Fr.alloc ?_ _) | (with_reducible refine Fr.set1 ?_ _) | (with_reducible refine Fr.setNew ?_ (by omega) _))) h2 f2
    have u10 := p4 _ _ U10.out; have u11 := p4 _ _ U11.out; have u12 := p4 _ _ U12.out; have u13 := p4 _ _ U13.out; have u14 := p4 _ _ U14.out; have u15 := p4 _ _ U15.out
    have HW := Lib.hid p1
    have HF := Lib.hid p2
    have hl0 := p3
    have U10 := Lib.hid u10; have U11 := Lib.hid u11; have U12 := Lib.hid u12; have U13 := Lib.hid u13; have U14 := Lib.hid u14; have U15 := Lib.hid u15
    clear h2 f2 p1 p2 p3 p4 u10 u11 u12 u13 u14 u15
    go_wp2_with fail
    rw [rounds_succ]
    have u10 := U10.out; have u11 := U11.out; have u12 := U12.out; have u13 := U13.out; have u14 := U14.out; have u15 := U15.out
    go_wp2_with fail
    refine (wInt_any _ _ g _ 4 _ (isW_more2 HW.out (by repeat (first | (with_reducible exact Fr.refl _ _) | (with_reducible refine Fr.drew ?_) | (with_reducible refine Fr.drewN ?_ _) | (with_reducible refine Fr.alloc ?_ _) | (with_reducible refine Fr.set1 ?_ _) | (with_reducible refine Fr.setNew ?_ (by omega) _)))) (by simp only [List.length_append, wideBytes_len, blen]; omega)).mono ?_
    rintro e w2 ⟨rfl, h2, f2⟩
    rw [show clamp 4 = 4 from rfl] at h2
    obtain ⟨p1, p2, p3, p4⟩ := put_step2 hl0 HF.out (by repeat (first | (with_reducible exact Fr.refl _ _) | (with_reducible refine Fr.drew ?_) | (with_reducible refine Fr.drewN ?_ _) | (with_reducible refine Fr.alloc ?_ _) | (with_reducible refine Fr.set1 ?_ _) | (with_reducible refine Fr.setNew ?_ (by omega) _))) h2 f2
    clear u10 u11 u12 u13 u14 u15
    have u11 := p4 _ _ U11.out; have u12 := p4 _ _ U12.out; have u13 := p4 _ _ U13.out; have u14 := p4 _ _ U14.out; have u15 := p4 _ _ U15.out
    have HW := Lib.hid p1
    have HF := Lib.hid p2
    have hl0 := p3
    have U11 := Lib.hid u11; have U12 := Lib.hid u12; have U13 := Lib.hid u13; have U14 := Lib.hid u14; have U15 := Lib.hid u15
    clear h2 f2 p1 p2 p3 p4
    go_wp2_with fail
    refine (wInt_any _ _ g _ 4 _ (isW_more2 HW.out (by repeat (first | (with_reducible exact Fr.refl _ _) | (with_reducible refine Fr.drew ?_) | (with_reducible refine Fr.drewN ?_ _) | (with_reducible refine Fr.alloc ?_ _) | (with_reducible refine Fr.set1 ?_ _) | (with_reducible refine Fr.setNew ?_ (by omega) _)))) (by simp only [List.length_append, wideBytes_len, blen]; omega)).mono ?_
    rintro e w2 ⟨rfl, h2, f2⟩
    rw [show clamp 4 = 4 from rfl] at h2
    obtain ⟨p1, p2, p3, p4⟩ := put_step2 hl0 HF.out (by repeat (first | (with_reducible exact Fr.refl _ _) | (with_reducible refine Fr.drew ?_) | (with_reducible refine Fr.drewN ?_ _) | (with_reducible refine Fr.alloc ?_ _) | (with_reducible refine Fr.set1 ?_ _) | (with_reducible refine Fr.setNew ?_ (by omega) _))) h2 f2
    clear u11 u12 u13 u14 u15
    have u12 := p4 _ _ U12.out; have u13 := p4 _ _ U13.out; have u14 := p4 _ _ U14.out; have u15 := p4 _ _ U15.out
    have HW := Lib.hid p1
    have HF := Lib.hid p2
    have hl0 := p3
    have U12 := Lib.hid u12; have U13 := Lib.hid u13; have U14 := Lib.hid u14; have U15 := Lib.hid u15
    clear h2 f2 p1 p2 p3 p4
    go_wp2_with fail
    refine (wInt_any _ _ g _ 2 _ (isW_more2 HW.out (by repeat (first | (with_reducible exact Fr.refl _ _) | (with_reducible refine Fr.drew ?_) | (with_reducible refine Fr.drewN ?_ _) | (with_reducible refine Fr.alloc ?_ _) | (with_reducible refine Fr.set1 ?_ _) | (with_reducible refine Fr.setNew ?_ (by omega) _)))) (by simp only [List.length_append, wideBytes_len, blen]; omega)).mono ?_
    rintro e w2 ⟨rfl, h2, f2⟩
    rw [show clamp 2 = 2 from rfl] at h2
    obtain ⟨p1, p2, p3, p4⟩ := put_step2 hl0 HF.out (by repeat (first | (with_reducible exact Fr.refl _ _) | (with_reducible refine Fr.drew ?_) | (with_reducible refine Fr.drewN ?_ _) | (with_reducible refine Fr.alloc ?_ _) | (with_reducible refine Fr.set1 ?_ _) | (with_reducible refine Fr.setNew ?_ (by omega) _))) h2 f2
    clear u12 u13 u14 u15
    have u13 := p4 _ _ U13.out; have u14 := p4 _ _ U14.out; have u15 := p4 _ _ U15.out
    have HW := Lib.hid p1
    have HF := Lib.hid p2
    have hl0 := p3
    have U13 := Lib.hid u13; have U14 := Lib.hid u14; have U15 := Lib.hid u15
    clear h2 f2 p1 p2 p3 p4
    go_wp2_with fail
    refine (wInt_any _ _ g _ 2 _ (isW_more2 HW.out (by repeat (first | (with_reducible exact Fr.refl _ _) | (with_reducible refine Fr.drew ?_) | (with_reducible refine Fr.drewN ?_ _) | (with_reducible refine Fr.alloc ?_ _) | (with_reducible refine Fr.set1 ?_ _) | (with_reducible refine Fr.setNew ?_ (by omega) _)))) (by simp only [List.length_append, wideBytes_len, blen]; omega)).mono ?_
    rintro e w2 ⟨rfl, h2, f2⟩
    rw [show clamp 2 = 2 from rfl] at h2
    obtain ⟨p1, p2, p3, p4⟩ := put_step2 hl0 HF.out (by repeat (first | (with_reducible exact Fr.refl _ _) | (with_reducible refine Fr.drew ?_) | (with_reducible refine Fr.drewN ?_ _) | (with_reducible refine Fr.alloc ?_ _) | (with_reducible refine Fr.set1 ?_ _) | (with_reducible refine Fr.setNew ?_ (by omega) _))) h2 f2
    clear u13 u14 u15
    have u14 := p4 _ _ U14.out; have u15 := p4 _ _ U15.out
    have HW := Lib.hid p1
    have HF := Lib.hid p2
    have hl0 := p3
    have U14 := Lib.hid u14; have U15 := Lib.hid u15
    clear h2 f2 p1 p2 p3 p4
    go_wp2_with fail
    refine (wInt_any _ _ g _ 8 _ (isW_more2 HW.out (by repeat (first | (with_reducible exact Fr.refl _ _) | (with_reducible refine Fr.drew ?_) | (with_reducible refine Fr.drewN ?_ _) | (with_reducible refine Fr.alloc ?_ _) | (with_reducible refine Fr.set1 ?_ _) | (with_reducible refine Fr.setNew ?_ (by omega) _)))) (by simp only [List.length_append, wideBytes_len, blen]; omega)).mono ?_
    rintro e w2 ⟨rfl, h2, f2⟩
    rw [show clamp 8 = 8 from rfl] at h2
    obtain ⟨p1, p2, p3, p4⟩ := put_step2 hl0 HF.out (by repeat (first | (with_reducible exact Fr.refl _ _) | (with_reducible refine Fr.drew ?_) | (with_reducible refine Fr.drewN ?_ _) | (with_reducible refine Fr.alloc ?_ _) | (with_reducible refine Fr.set1 ?_ _) | (with_reducible refine Fr.setNew ?_ (by omega) _))) h2 f2
    clear u14 u15
    have u15 := p4 _ _ U15.out
    have HW := Lib.hid p1
    have HF := Lib.hid p2
    have hl0 := p3
    have U15 := Lib.hid u15
    clear h2 f2 p1 p2 p3 p4
    go_wp2_with fail
    refine (wInt_any _ _ g _ 8 _ (isW_more2 HW.out (by repeat (first | (with_reducible exact Fr.refl _ _) | (with_reducible refine Fr.drew ?_) | (with_reducible refine Fr.drewN ?_ _) | (with_reducible refine Fr.alloc ?_ _) | (with_reducible refine Fr.set1 ?_ _) | (with_reducible refine Fr.setNew ?_ (by omega) _)))) (by simp only [List.length_append, wideBytes_len, blen]; omega)).mono ?_
    rintro e w2 ⟨rfl, h2, f2⟩
    rw [show clamp 8 = 8 from rfl] at h2
    obtain ⟨p1, p2, p3, p4⟩ := put_step2 hl0 HF.out (by repeat (first | (with_reducible exact Fr.refl _ _) | (with_reducible refine Fr.drew ?_) | (with_reducible refine Fr.drewN ?_ _) | (with_reducible refine Fr.alloc ?_ _) | (with_reducible refine Fr.set1 ?_ _) | (with_reducible refine Fr.setNew ?_ (by omega) _))) h2 f2
    clear u15
    have HW := Lib.hid p1
    have HF := Lib.hid p2
    have hl0 := p3
    clear h2 f2 p1 p2 p3 p4
    go_wp2_with fail
    go_end0
    have h := isW_mono (S2 := Gro S w _) HW.out (fun k hk => hk.1)
    refine ⟨rfl, ?_, HF.out⟩
    simp only [if_true, Tx.bytes, ← List.append_assoc]
    exact h
  · go_name_world V hV
    have FV := Lib.hid (show Fr (fun _ => False) w V from by rw [← hV]; (repeat (first | (with_reducible exact Fr.refl _ _) | (with_reducible refine Fr.drew ?_) | (with_reducible refine Fr.drewN ?_ _) | (with_reducible refine Fr.alloc ?_ _) | (with_reducible refine Fr.set1 ?_ _) | (with_reducible refine Fr.setNew ?_ (by omega) _))) <;> exact ((Fr.refl _ w).alloc _).then_ F1.out (fun _ h => h.elim))
    have v10 : V.cell? ⟨w.heap.size, 10, none⟩ = some (.int .i64 0) := by subst hV; go_simp
    have v11 : V.cell? ⟨w.heap.size, 11, none⟩ = some (.int .i64 0) := by subst hV; go_simp
    have v12 : V.cell? ⟨w.heap.size, 12, none⟩ = some (.int .i64 0) := by subst hV; go_simp
    have v13 : V.cell? ⟨w.heap.size, 13, none⟩ = some (.int .i64 0) := by subst hV; go_simp
    have v14 : V.cell? ⟨w.heap.size, 14, none⟩ = some (.int .i64 0) := by subst hV; go_simp
    have v15 : V.cell? ⟨w.heap.size, 15, none⟩ = some (.int .i64 0) := by subst hV; go_simp
    have HW := Lib.hid (isW_ex HW0.out (Nat.le_refl _) FV.out)
    have HF := Lib.hid (FV.out.mono (S2 := S) (fun _ h => h.elim))
    have hl0 := World.block_lt_of_cell? V _ v10
    have U10 := Lib.hid v10
    have U11 := Lib.hid v11
    have U12 := Lib.hid v12
    have U13 := Lib.hid v13
    have U14 := Lib.hid v14
    have U15 := Lib.hid v15
    clear hV FV Ba F1 hlt a0 b0 a1 b1 a2 b2 a3 b3 a4 b4 a5 b5 a6 b6 a7 b7 a8 b8 a9 b9 a10 b10 a11 b11 a12 b12 a13 b13 a14 b14 a15 b15 v10 v11 v12 v13 v14 v15
    refine wp_loop_rounds 6 ?_
    rw [rounds_succ]
    have hi := idx_0
    go_wp2_with fail
    clear hi
    refine (wNum_any _ _ g _ _ _ (isW_more2 HW.out (by repeat (first | (with_reducible exact Fr.refl _ _) | (with_reducible refine Fr.drew ?_) | (with_reducible refine Fr.drewN ?_ _) | (with_reducible refine Fr.alloc ?_ _) | (with_reducible refine Fr.set1 ?_ _) | (with_reducible refine Fr.setNew ?_ (by omega) _)))) (by first | omega | (simp only [List.length_append, wideBytes_len, blen]; omega))).mono ?_
    rintro e w2 ⟨rfl, h2, f2⟩
    obtain ⟨p1, p2, p3, p4⟩ := put_step2 hl0 HF.out (by repeat (first | (with_reducible exact Fr.refl _ _) | (with_reducible refine Fr.drew ?_) | (with_reducible refine Fr.drewN ?_ _) | (with_reducible refine Fr.alloc ?_ _) | (with_reducible refine Fr.set1 ?_ _) | (with_reducible refine Fr.setNew ?_ (by omega) _))) h2 f2
    have u10 := p4 _ _ U10.out; have u11 := p4 _ _ U11.out; have u12 := p4 _ _ U12.out; have u13 := p4 _ _ U13.out; have u14 := p4 _ _ U14.out; have u15 := p4 _ _ U15.out
    have HW := Lib.hid p1
    have HF := Lib.hid p2
    have hl0 := p3
    have U10 := Lib.hid u10; have U11 := Lib.hid u11; have U12 := Lib.hid u12; have U13 := Lib.hid u13; have U14 := Lib.hid u14; have U15 := Lib.hid u15
    clear h2 f2 p1 p2 p3 p4 u10 u11 u12 u13 u14 u15
    go_wp2_with fail
    rw [rounds_succ]
    have hi := idx_1
    go_wp2_with fail
    clear hi
    refine (wNum_any _ _ g _ _ _ (isW_more2 HW.out (by repeat (first | (with_reducible exact Fr.refl _ _) | (with_reducible refine Fr.drew ?_) | (with_reducible refine Fr.drewN ?_ _) | (with_reducible refine Fr.alloc ?_ _) | (with_reducible refine Fr.set1 ?_ _) | (with_reducible refine Fr.setNew ?_ (by omega) _)))) (by first | omega | (simp only [List.length_append, wideBytes_len, blen]; omega))).mono ?_
    rintro e w2 ⟨rfl, h2, f2⟩
    obtain ⟨p1, p2, p3, p4⟩ := put_step2 hl0 HF.out (by repeat (first | (with_reducible exact Fr.refl _ _) | (with_reducible refine Fr.drew ?_) | (with_reducible refine Fr.drewN ?_ _) | (with_reducible refine Fr.alloc ?_ _) | (with_reducible refine Fr.set1 ?_ _) | (with_reducible refine Fr.setNew ?_ (by omega) _))) h2 f2
    have u10 := p4 _ _ U10.out; have u11 := p4 _ _ U11.out; have u12 := p4 _ _ U12.out; have u13 := p4 _ _ U13.out; have u14 := p4 _ _ U14.out; have u15 := p4 _ _ U15.out
    have HW := Lib.hid p1
    have HF := Lib.hid p2
    have hl0 := p3
    have U10 := Lib.hid u10; have U11 := Lib.hid u11; have U12 := Lib.hid u12; have U13 := Lib.hid u13; have U14 := Lib.hid u14; have U15 := Lib.hid u15
    clear h2 f2 p1 p2 p3 p4 u10 u11 u12 u13 u14 u15
    go_wp2_with fail
    rw [rounds_succ]
    have hi := idx_2
    go_wp2_with fail
    clear hi
    refine (wNum_any _ _ g _ _ _ (isW_more2 HW.out (by repeat (first | (with_reducible exact Fr.refl _ _) | (with_reducible refine Fr.drew ?_) | (with_reducible refine Fr.drewN ?_ _) | (with_reducible refine Fr.alloc ?_ _) | (with_reducible refine Fr.set1 ?_ _) | (with_reducible refine Fr.setNew ?_ (by omega) _)))) (by first | omega | (simp only [List.length_append, wideBytes_len, blen]; omega))).mono ?_
    rintro e w2 ⟨rfl, h2, f2⟩
    obtain ⟨p1, p2, p3, p4⟩ := put_step2 hl0 HF.out (by repeat (first | (with_reducible exact Fr.refl _ _) | (with_reducible refine Fr.drew ?_) | (with_reducible refine Fr.drewN ?_ _) | (with_reducible refine Fr.alloc ?_ _) | (with_reducible refine Fr.set1 ?_ _) | (with_reducible refine Fr.setNew ?_ (by omega) _))) h2 f2
    have u10 := p4 _ _ U10.out; have u11 := p4 _ _ U11.out; have u12 := p4 _ _ U12.out; have u13 := p4 _ _ U13.out; have u14 := p4 _ _ U14.out; have u15 := p4 _ _ U15.out
    have HW := Lib.hid p1
    have HF := Lib.hid p2
    have hl0 := p3
    have U10 := Lib.hid u10; have U11 := Lib.hid u11; have U12 := Lib.hid u12; have U13 := Lib.hid u13; have U14 := Lib.hid u14; have U15 := Lib.hid u15
    clear h2 f2 p1 p2 p3 p4 u10 u11 u12 u13 u14 u15
    go_wp2_with fail
    rw [rounds_succ]
    have hi := idx_3
    go_wp2_with fail
    clear hi
    refine (wNum_any _ _ g _ _ _ (isW_more2 HW.out (by repeat (first | (with_reducible exact Fr.refl _ _) | (with_reducible refine Fr.drew ?_) | (with_reducible refine Fr.drewN ?_ _) | (with_reducible refine Fr.alloc ?_ _) | (with_reducible refine Fr.set1 ?_ _) | (with_reducible refine Fr.setNew ?_ (by omega) _)))) (by first | omega | (simp only [List.length_append, wideBytes_len, blen]; omega))).mono ?_
    rintro e w2 ⟨rfl, h2, f2⟩
    obtain ⟨p1, p2, p3, p4⟩ := put_step2 hl0 HF.out (by repeat (first | (with_reducible exact Fr.refl _ _) | (with_reducible refine Fr.drew ?_) | (with_reducible refine Fr.drewN ?_ _) | (with_reducible refine Fr.alloc ?_ _) | (with_reducible refine Fr.set1 ?_ _) | (with_reducible refine Fr.setNew ?_ (by omega) _))) h2 f2
    have u10 := p4 _ _ U10.out; have u11 := p4 _ _ U11.out; have u12 := p4 _ _ U12.out; have u13 := p4 _ _ U13.out; have u14 := p4 _ _ U14.out; have u15 := p4 _ _ U15.out
    have HW := Lib.hid p1
    have HF := Lib.hid p2
    have hl0 := p3
    have U10 := Lib.hid u10; have U11 := Lib.hid u11; have U12 := Lib.hid u12; have U13 := Lib.hid u13; have U14 := Lib.hid u14; have U15 := Lib.hid u15
    clear h2 f2 p1 p2 p3 p4 u10 u11 u12 u13 u14 u15
    go_wp2_with fail
    rw [rounds_succ]
    have hi := idx_4
    go_wp2_with fail
    clear hi
    refine (wNum_any _ _ g _ _ _ (isW_more2 HW.out (by repeat (first | (with_reducible exact Fr.refl _ _) | (with_reducible refine Fr.drew ?_) | (with_reducible refine Fr.drewN ?_ _) | (with_reducible refine Fr.alloc ?_ _) | (with_reducible refine Fr.set1 ?_ _) | (with_reducible refine Fr.setNew ?_ (by omega) _)))) (by first | omega | (simp only [List.length_append, wideBytes_len, blen]; omega))).mono ?_
    rintro e w2 ⟨rfl, h2, f2⟩
    obtain ⟨p1, p2, p3, p4⟩ := put_step2 hl0 HF.out (by repeat (first | (with_reducible exact Fr.refl _ _) | (with_reducible refine Fr.drew ?_) | (with_reducible refine Fr.drewN ?_ _) | (with_reducible refine Fr.alloc ?_ _) | (with_reducible refine Fr.set1 ?_ _) | (with_reducible refine Fr.setNew ?_ (by omega) _))) h2 f2
    have u10 := p4 _ _ U10.out; have u11 := p4 _ _ U11.out; have u12 := p4 _ _ U12.out; have u13 := p4 _ _ U13.out; have u14 := p4 _ _ U14.out; have u15 := p4 _ _ U15.out
    have HW := Lib.hid p1
    have HF := Lib.hid p2
    have hl0 := p3
    have U10 := Lib.hid u10; have U11 := Lib.hid u11; have U12 := Lib.hid u12; have U13 := Lib.hid u13; have U14 := Lib.hid u14; have U15 := Lib.hid u15
    clear h2 f2 p1 p2 p3 p4 u10 u11 u12 u13 u14 u15
    go_wp2_with fail
    rw [rounds_succ]
    have u10 := U10.out; have u11 := U11.out; have u12 := U12.out; have u13 := U13.out; have u14 := U14.out; have u15 := U15.out
    go_wp2_with fail
    refine (wInt_any _ _ g _ 4 _ (isW_more2 HW.out (by repeat (first | (with_reducible exact Fr.refl _ _) | (with_reducible refine Fr.drew ?_) | (with_reducible refine Fr.drewN ?_ _) | (with_reducible refine Fr.alloc ?_ _) | (with_reducible refine Fr.set1 ?_ _) | (with_reducible refine Fr.setNew ?_ (by omega) _)))) (by simp only [List.length_append, wideBytes_len, blen]; omega)).mono ?_
    rintro e w2 ⟨rfl, h2, f2⟩
    rw [show clamp 4 = 4 from rfl] at h2
    obtain ⟨p1, p2, p3, p4⟩ := put_step2 hl0 HF.out (by repeat (first | (with_reducible exact Fr.refl _ _) | (with_reducible refine Fr.drew ?_) | (with_reducible refine Fr.drewN ?_ _) | (with_reducible refine Fr.alloc ?_ _) | (with_reducible refine Fr.set1 ?_ _) | (with_reducible refine Fr.setNew ?_ (by omega) _))) h2 f2
    clear u10 u11 u12 u13 u14 u15
    have u11 := p4 _ _ U11.out; have u12 := p4 _ _ U12.out; have u13 := p4 _ _ U13.out; have u14 := p4 _ _ U14.out; have u15 := p4 _ _ U15.out
    have HW := Lib.hid p1
    have HF := Lib.hid p2
    have hl0 := p3
    have U11 := Lib.hid u11; have U12 := Lib.hid u12; have U13 := Lib.hid u13; have U14 := Lib.hid u14; have U15 := Lib.hid u15
    clear h2 f2 p1 p2 p3 p4
    go_wp2_with fail
    refine (wInt_any _ _ g _ 4 _ (isW_more2 HW.out (by repeat (first | (with_reducible exact Fr.refl _ _) | (with_reducible refine Fr.drew ?_) | (with_reducible refine Fr.drewN ?_ _) | (with_reducible refine Fr.alloc ?_ _) | (with_reducible refine Fr.set1 ?_ _) | (with_reducible refine Fr.setNew ?_ (by omega) _)))) (by simp only [List.length_append, wideBytes_len, blen]; omega)).mono ?_
    rintro e w2 ⟨rfl, h2, f2⟩
    rw [show clamp 4 = 4 from rfl] at h2
    obtain ⟨p1, p2, p3, p4⟩ := put_step2 hl0 HF.out (by repeat (first | (with_reducible exact Fr.refl _ _) | (with_reducible refine Fr.drew ?_) | (with_reducible refine Fr.drewN ?_ _) | (with_reducible refine Fr.alloc ?_ _) | (with_reducible refine Fr.set1 ?_ _) | (with_reducible refine Fr.setNew ?_ (by omega) _))) h2 f2
    clear u11 u12 u13 u14 u15
    have u12 := p4 _ _ U12.out; have u13 := p4 _ _ U13.out; have u14 := p4 _ _ U14.out; have u15 := p4 _ _ U15.out
    have HW := Lib.hid p1
    have HF := Lib.hid p2
    have hl0 := p3
    have U12 := Lib.hid u12; have U13 := Lib.hid u13; have U14 := Lib.hid u14; have U15 := Lib.hid u15
    clear h2 f2 p1 p2 p3 p4
    go_wp2_with fail
    refine (wInt_any _ _ g _ 2 _ (isW_more2 HW.out (by repeat (first | (with_reducible exact Fr.refl _ _) | (with_reducible refine Fr.drew ?_) | (with_reducible refine Fr.drewN ?_ _) | (with_reducible refine Fr.alloc ?_ _) | (with_reducible refine Fr.set1 ?_ _) | (with_reducible refine Fr.setNew ?_ (by omega) _)))) (by simp only [List.length_append, wideBytes_len, blen]; omega)).mono ?_
    rintro e w2 ⟨rfl, h2, f2⟩
    rw [show clamp 2 = 2 from rfl] at h2
    obtain ⟨p1, p2, p3, p4⟩ := put_step2 hl0 HF.out (by repeat (first | (with_reducible exact Fr.refl _ _) | (with_reducible refine Fr.drew ?_) | (with_reducible refine Fr.drewN ?_ _) | (with_reducible refine Fr.alloc ?_ _) | (with_reducible refine Fr.set1 ?_ _) | (with_reducible refine Fr.setNew ?_ (by omega) _))) h2 f2
    clear u12 u13 u14 u15
    have u13 := p4 _ _ U13.out; have u14 := p4 _ _ U14.out; have u15 := p4 _ _ U15.out
    have HW := Lib.hid p1
    have HF := Lib.hid p2
    have hl0 := p3
    have U13 := Lib.hid u13; have U14 := Lib.hid u14; have U15 := Lib.hid u15
    clear h2 f2 p1 p2 p3 p4
    go_wp2_with fail
    refine (wInt_any _ _ g _ 2 _ (isW_more2 HW.out (by repeat (first | (with_reducible exact Fr.refl _ _) | (with_reducible refine Fr.drew ?_) | (with_reducible refine Fr.drewN ?_ _) | (with_reducible refine Fr.alloc ?_ _) | (with_reducible refine Fr.set1 ?_ _) | (with_reducible refine Fr.setNew ?_ (by omega) _)))) (by simp only [List.length_append, wideBytes_len, blen]; omega)).mono ?_
    rintro e w2 ⟨rfl, h2, f2⟩
    rw [show clamp 2 = 2 from rfl] at h2
    obtain ⟨p1, p2, p3, p4⟩ := put_step2 hl0 HF.out (by repeat (first | (with_reducible exact Fr.refl _ _) | (with_reducible refine Fr.drew ?_) | (with_reducible refine Fr.drewN ?_ _) | (with_reducible refine Fr.alloc ?_ _) | (with_reducible refine Fr.set1 ?_ _) | (with_reducible refine Fr.setNew ?_ (by omega) _))) h2 f2
    clear u13 u14 u15
    have u14 := p4 _ _ U14.out; have u15 := p4 _ _ U15.out
    have HW := Lib.hid p1
    have HF := Lib.hid p2
    have hl0 := p3
    have U14 := Lib.hid u14; have U15 := Lib.hid u15
    clear h2 f2 p1 p2 p3 p4
    go_wp2_with fail
    refine (wInt_any _ _ g _ 8 _ (isW_more2 HW.out (by repeat (first | (with_reducible exact Fr.refl _ _) | (with_reducible refine Fr.drew ?_) | (with_reducible refine Fr.drewN ?_ _) | (with_reducible refine Fr.alloc ?_ _) | (with_reducible refine Fr.set1 ?_ _) | (with_reducible refine Fr.setNew ?_ (by omega) _)))) (by simp only [List.length_append, wideBytes_len, blen]; omega)).mono ?_
    rintro e w2 ⟨rfl, h2, f2⟩
    rw [show clamp 8 = 8 from rfl] at h2
    obtain ⟨p1, p2, p3, p4⟩ := put_step2 hl0 HF.out (by repeat (first | (with_reducible exact Fr.refl _ _) | (with_reducible refine Fr.drew ?_) | (with_reducible refine Fr.drewN ?_ _) | (with_reducible refine Fr.alloc ?_ _) | (with_reducible refine Fr.set1 ?_ _) | (with_reducible refine Fr.setNew ?_ (by omega) _))) h2 f2
    clear u14 u15
    have u15 := p4 _ _ U15.out
    have HW := Lib.hid p1
    have HF := Lib.hid p2
    have hl0 := p3
    have U15 := Lib.hid u15
    clear h2 f2 p1 p2 p3 p4
    go_wp2_with fail
    refine (wInt_any _ _ g _ 8 _ (isW_more2 HW.out (by repeat (first | (with_reducible exact Fr.refl _ _) | (with_reducible refine Fr.drew ?_) | (with_reducible refine Fr.drewN ?_ _) | (with_reducible refine Fr.alloc ?_ _) | (with_reducible refine Fr.set1 ?_ _) | (with_reducible refine Fr.setNew ?_ (by omega) _)))) (by simp only [List.length_append, wideBytes_len, blen]; omega)).mono ?_
    rintro e w2 ⟨rfl, h2, f2⟩
    rw [show clamp 8 = 8 from rfl] at h2
    obtain ⟨p1, p2, p3, p4⟩ := put_step2 hl0 HF.out (by repeat (first | (with_reducible exact Fr.refl _ _) | (with_reducible refine Fr.drew ?_) | (with_reducible refine Fr.drewN ?_ _) | (with_reducible refine Fr.alloc ?_ _) | (with_reducible refine Fr.set1 ?_ _) | (with_reducible refine Fr.setNew ?_ (by omega) _))) h2 f2
    clear u15
    have HW := Lib.hid p1
    have HF := Lib.hid p2
    have hl0 := p3
    clear h2 f2 p1 p2 p3 p4
    go_wp2_with fail
    go_end0
    have h := isW_mono (S2 := Gro S w _) HW.out (fun k hk => hk.1)
    refine ⟨rfl, ?_, HF.out⟩
    simp only [Bool.false_eq_true, if_false, Tx.none, Tx.bytes, ← List.append_assoc]
    exact h
end Go.Proofs.Ytfmcimngogibkaa
