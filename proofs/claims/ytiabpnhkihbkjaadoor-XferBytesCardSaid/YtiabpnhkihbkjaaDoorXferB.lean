/- The law ..Bytes of a record. -/
import Derived.Test.YtiabpnhkihbkjaaDoorXferT
import Derived.Deep.DeepMust
namespace Go.Proofs.YtiabpnhkihbkjaaDoor
open Go.RowKit
attribute [-go_sem] loadCells
set_option maxHeartbeats 12800000 in
theorem recBytes_any (w : World) (a : Tx) (l : List Int) (hm : Most w) (oa : a.ok) (hB : Bytes l) (hl : l.length ≤ 140737488355328) :
    Calls Tryd.prog 8 #[a.val, .string (strOfNums l)] w fun e w' => e = .returned (.bool true) ∧ Fr (fun _ => False) w w' := by
  have HM := Lib.hid hm
  have HBl := Lib.hid hB
  have OA := Lib.hid oa
  have sl := strOfNums_size l
  clear hm hB oa
  have he := eqm_Tx
  have hB := Lib.hid (heap_alloc_new w (.cells #[.int .u64 a.id.hi, .int .u64 a.id.lo, .int .u64 a.debit.hi, .int .u64 a.debit.lo, .int .u64 a.credit.hi, .int .u64 a.credit.lo, .int .u64 a.amount.hi, .int .u64 a.amount.lo, .int .u64 a.pending.hi, .int .u64 a.pending.lo, .int .i64 a.timeout, .int .i64 a.ledger, .int .i64 a.code, .int .i64 a.flags, .int .i64 a.stamp, .int .i64 a.born] 26))
  have HG := Lib.hid (show ∀ W, Calls Tryd.prog 22 #[.agg #[.int .u64 a.id.hi, .int .u64 a.id.lo, .int .u64 a.debit.hi, .int .u64 a.debit.lo, .int .u64 a.credit.hi, .int .u64 a.credit.lo, .int .u64 a.amount.hi, .int .u64 a.amount.lo, .int .u64 a.pending.hi, .int .u64 a.pending.lo, .int .i64 a.timeout, .int .i64 a.ledger, .int .i64 a.code, .int .i64 a.flags, .int .i64 a.stamp, .int .i64 a.born]] W fun e w' => e = .returned (.bool a.good) ∧ Fr (fun _ => False) W w' from fun W => refGood_any W a)
  have HP := Lib.hid (show ∀ W, Calls Tryd.prog 27 #[.agg #[.int .u64 a.id.hi, .int .u64 a.id.lo, .int .u64 a.debit.hi, .int .u64 a.debit.lo, .int .u64 a.credit.hi, .int .u64 a.credit.lo, .int .u64 a.amount.hi, .int .u64 a.amount.lo, .int .u64 a.pending.hi, .int .u64 a.pending.lo, .int .i64 a.timeout, .int .i64 a.ledger, .int .i64 a.code, .int .i64 a.flags, .int .i64 a.stamp, .int .i64 a.born]] W fun e w' => e = .returned (.bool a.good) ∧ Fr (fun _ => False) W w' from fun W => good_any W a)
  have HU := Lib.hid (show ∀ W S g, IsW W S g [] → Calls Tryd.prog 25 #[.pointer (some ⟨g, 0, none⟩), .agg #[.int .u64 a.id.hi, .int .u64 a.id.lo, .int .u64 a.debit.hi, .int .u64 a.debit.lo, .int .u64 a.credit.hi, .int .u64 a.credit.lo, .int .u64 a.amount.hi, .int .u64 a.amount.lo, .int .u64 a.pending.hi, .int .u64 a.pending.lo, .int .i64 a.timeout, .int .i64 a.ledger, .int .i64 a.code, .int .i64 a.flags, .int .i64 a.stamp, .int .i64 a.born]] W fun e w' => e = .returned (.tuple #[]) ∧ IsW w' (Gro S W w') g (if a.good = true then a else Tx.none).bytes ∧ Fr S W w' from fun W S g h => putRec_any W S g [] a h (by simp))
  unfold Tx.val
  go_enter Tryd.func8, Tryd.ntmps8
  go_wp2_with fail
  refine (alive_any _ (HM.out.fr (S := fun _ => False) (by repeat (first | (with_reducible exact Fr.refl _ _) | (with_reducible refine Fr.drew ?_) | (with_reducible refine Fr.drewN ?_ _) | (with_reducible refine Fr.alloc ?_ _) | (with_reducible refine Fr.set1 ?_ _) | (with_reducible refine Fr.setNew ?_ (by omega) _))) (fun h => h))).mono ?_
  rintro e w1 ⟨rfl, f1⟩
  have F1 := Lib.hid (Fr.then_ (S2 := fun _ => False) (by repeat (first | (with_reducible exact Fr.refl _ _) | (with_reducible refine Fr.drew ?_) | (with_reducible refine Fr.drewN ?_ _) | (with_reducible refine Fr.alloc ?_ _) | (with_reducible refine Fr.set1 ?_ _) | (with_reducible refine Fr.setNew ?_ (by omega) _)) : Fr (fun _ => False) w _) f1 (fun _ h => h.elim))
  have ba := f1.blk hB.out (fun h => h)
  have a0 := blk_cell ba 0 rfl; have a1 := blk_cell ba 1 rfl; have a2 := blk_cell ba 2 rfl; have a3 := blk_cell ba 3 rfl; have a4 := blk_cell ba 4 rfl; have a5 := blk_cell ba 5 rfl; have a6 := blk_cell ba 6 rfl; have a7 := blk_cell ba 7 rfl; have a8 := blk_cell ba 8 rfl; have a9 := blk_cell ba 9 rfl; have a10 := blk_cell ba 10 rfl; have a11 := blk_cell ba 11 rfl; have a12 := blk_cell ba 12 rfl; have a13 := blk_cell ba 13 rfl; have a14 := blk_cell ba 14 rfl; have a15 := blk_cell ba 15 rfl
  have hlt := blk_lt ba
  have Ba := Lib.hid ba
  clear ba f1
  by_cases hbig : (100 : Int) < (l.length : Int)
  · go_wp2_with fail
    go_ret
    exact ⟨rfl, F1.out⟩
  have qa := ld_row (P := Tryd.prog) (n := 16) (w.heap.size) (#[.int .u64 a.id.hi, .int .u64 a.id.lo, .int .u64 a.debit.hi, .int .u64 a.debit.lo, .int .u64 a.credit.hi, .int .u64 a.credit.lo, .int .u64 a.amount.hi, .int .u64 a.amount.lo, .int .u64 a.pending.hi, .int .u64 a.pending.lo, .int .i64 a.timeout, .int .i64 a.ledger, .int .i64 a.code, .int .i64 a.flags, .int .i64 a.stamp, .int .i64 a.born]) rfl (blk_alloc Ba.out (.cells #[.slice none 0 0] 45))
  go_wp2_with fail
  clear qa
  obtain ⟨g, hg⟩ : ∃ g, w1.heap.size = g := ⟨_, rfl⟩
  have Hne := Lib.hid (show ¬ w.heap.size = g from by omega)
  have Hge := Lib.hid (show w.heap.size ≤ g from by omega)
  refine (HU.out _ (fun k => k = g) _ ⟨.slice none 0 0, heap_alloc_new w1 _, World.ownsRow_nil _ _ _ _, hg, fun k hk => by simp [Value.ownBlock] at hk⟩).mono ?_
  rintro e w2 ⟨rfl, h2, f2⟩
  obtain ⟨S2, hS2⟩ : ∃ S2, Gro (fun k => k = g) (w1.alloc (.cells #[.slice none 0 0] 45)) w2 = S2 := ⟨_, rfl⟩
  rw [hg, hS2] at h2
  have hSa := Lib.hid (show ∀ k, S2 k → k < w2.heap.size ∧ g ≤ k from by intro k hk; rw [← hS2] at hk; have s2 := f2.size; simp at s2; rcases hk with h | h; (have h : k = g := h; omega); (have h1 := h.1; simp at h1; have h2 := h.2; omega))
  clear hS2
  have F2 := Lib.hid (F1.out.then_ (S2 := fun k => k = g) (Fr.then_ (S2 := fun k => k = g) (by repeat (first | (with_reducible exact Fr.refl _ _) | (with_reducible refine Fr.drew ?_) | (with_reducible refine Fr.drewN ?_ _) | (with_reducible refine Fr.alloc ?_ _) | (with_reducible refine Fr.set1 ?_ _) | (with_reducible refine Fr.setNew ?_ (by omega) _))) f2 (fun _ h => .inl h)) (fun k hk => .inr (by rw [hk]; exact Hge.out)))
  have ba := f2.blk (blk_alloc Ba.out _) Hne.out
  have a0 := blk_cell ba 0 rfl; have a1 := blk_cell ba 1 rfl; have a2 := blk_cell ba 2 rfl; have a3 := blk_cell ba 3 rfl; have a4 := blk_cell ba 4 rfl; have a5 := blk_cell ba 5 rfl; have a6 := blk_cell ba 6 rfl; have a7 := blk_cell ba 7 rfl; have a8 := blk_cell ba 8 rfl; have a9 := blk_cell ba 9 rfl; have a10 := blk_cell ba 10 rfl; have a11 := blk_cell ba 11 rfl; have a12 := blk_cell ba 12 rfl; have a13 := blk_cell ba 13 rfl; have a14 := blk_cell ba 14 rfl; have a15 := blk_cell ba 15 rfl
  have hlt2 := blk_lt ba
  have Ba := Lib.hid ba
  have HW := Lib.hid h2
  clear ba h2 f2
  cases hgd : a.good
  · rw [hgd] at HG HP HW
    rw [if_neg (by decide)] at HW
    have sX := strOfNums_size Tx.none.bytes
    rw [Tx.bytes_len] at sX
    have e1 := Lib.hid (show Tx.left (Tx.none.bytes ++ l, false) = (l, false) from by rw [Tx.left_long (by rw [List.length_append, Tx.bytes_len]; omega), drop_app (Tx.bytes_len _)])
    have e2 := Lib.hid (show Tx.got (Tx.none.bytes ++ l, false) = Tx.none from Tx.again_got l Tx.none_ok Tx.none_good)
    have HR := Lib.hid (show ∀ W, Calls Tryd.prog 23 #[.agg #[.int .u64 0, .int .u64 0, .int .u64 0, .int .u64 0, .int .u64 0, .int .u64 0, .int .u64 0, .int .u64 0, .int .u64 0, .int .u64 0, .int .i64 0, .int .i64 0, .int .i64 0, .int .i64 0, .int .i64 0, .int .i64 0]] W fun e w' => e = .returned (.string (strOfNums Tx.none.bytes)) ∧ Fr (fun _ => False) W w' from fun W => refBytesOf_any W Tx.none Tx.none_ok)
    have sl2 := Tx.bytes_len Tx.none
    have HBX := Lib.hid (show Bytes (Tx.none.bytes ++ l) from by intro x hx; rcases List.mem_append.1 hx with h | h; exact Tx.bytes_ok _ x h; exact HBl.out x h)
    obtain ⟨XB, hXB⟩ : ∃ XB, Tx.none.bytes = XB := ⟨_, rfl⟩
    rw [hXB] at HW sX e1 e2 HR sl2 HBX
    clear hXB hgd
    have qa := ld_row (P := Tryd.prog) (n := 16) (w.heap.size) (#[.int .u64 a.id.hi, .int .u64 a.id.lo, .int .u64 a.debit.hi, .int .u64 a.debit.lo, .int .u64 a.credit.hi, .int .u64 a.credit.lo, .int .u64 a.amount.hi, .int .u64 a.amount.lo, .int .u64 a.pending.hi, .int .u64 a.pending.lo, .int .i64 a.timeout, .int .i64 a.ledger, .int .i64 a.code, .int .i64 a.flags, .int .i64 a.stamp, .int .i64 a.born]) rfl Ba.out
    go_wp2_with fail
    clear qa
    refine (HG.out _).mono ?_
    rintro e w3 ⟨rfl, f3⟩
    have F3 := Lib.hid (F2.out.then_ f3 (fun _ h => h.elim))
    have HF3 := Lib.hid f3
    have HW := Lib.hid (isW_fr (S2 := fun _ => False) HW.out f3 (fun _ _ h => h))
    have ba := f3.blk Ba.out (fun h => h)
    have a0 := blk_cell ba 0 rfl; have a1 := blk_cell ba 1 rfl; have a2 := blk_cell ba 2 rfl; have a3 := blk_cell ba 3 rfl; have a4 := blk_cell ba 4 rfl; have a5 := blk_cell ba 5 rfl; have a6 := blk_cell ba 6 rfl; have a7 := blk_cell ba 7 rfl; have a8 := blk_cell ba 8 rfl; have a9 := blk_cell ba 9 rfl; have a10 := blk_cell ba 10 rfl; have a11 := blk_cell ba 11 rfl; have a12 := blk_cell ba 12 rfl; have a13 := blk_cell ba 13 rfl; have a14 := blk_cell ba 14 rfl; have a15 := blk_cell ba 15 rfl
    have hlt3 := blk_lt ba
    have Ba := Lib.hid ba
    clear ba f3
    have qa := ld_row (P := Tryd.prog) (n := 16) (w.heap.size) (#[.int .u64 a.id.hi, .int .u64 a.id.lo, .int .u64 a.debit.hi, .int .u64 a.debit.lo, .int .u64 a.credit.hi, .int .u64 a.credit.lo, .int .u64 a.amount.hi, .int .u64 a.amount.lo, .int .u64 a.pending.hi, .int .u64 a.pending.lo, .int .i64 a.timeout, .int .i64 a.ledger, .int .i64 a.code, .int .i64 a.flags, .int .i64 a.stamp, .int .i64 a.born]) rfl Ba.out
    go_wp2_with fail
    clear qa
    have HW := Lib.hid (isW_alloc HW.out (.cells #[.int .u64 0, .int .u64 0, .int .u64 0, .int .u64 0, .int .u64 0, .int .u64 0, .int .u64 0, .int .u64 0, .int .u64 0, .int .u64 0, .int .i64 0, .int .i64 0, .int .i64 0, .int .i64 0, .int .i64 0, .int .i64 0] 26))
    have Bb := Lib.hid (heap_alloc_new w3 (.cells #[.int .u64 0, .int .u64 0, .int .u64 0, .int .u64 0, .int .u64 0, .int .u64 0, .int .u64 0, .int .u64 0, .int .u64 0, .int .u64 0, .int .i64 0, .int .i64 0, .int .i64 0, .int .i64 0, .int .i64 0, .int .i64 0] 26))
    have Ba := Lib.hid (blk_alloc Ba.out (.cells #[.int .u64 0, .int .u64 0, .int .u64 0, .int .u64 0, .int .u64 0, .int .u64 0, .int .u64 0, .int .u64 0, .int .u64 0, .int .u64 0, .int .i64 0, .int .i64 0, .int .i64 0, .int .i64 0, .int .i64 0, .int .i64 0] 26))
    have F4 := Lib.hid (F3.out.alloc (.cells #[.int .u64 0, .int .u64 0, .int .u64 0, .int .u64 0, .int .u64 0, .int .u64 0, .int .u64 0, .int .u64 0, .int .u64 0, .int .u64 0, .int .i64 0, .int .i64 0, .int .i64 0, .int .i64 0, .int .i64 0, .int .i64 0] 26))
    refine (wString_any _ _ g XB HW.out).mono ?_
    rintro e w4 ⟨rfl, rfl⟩
    go_wp2_with fail
    rw [strOf_append]
    refine (tRead_any _ _).mono ?_
    rintro e w5 ⟨gr, rfl, hgr, k5, f5⟩
    have Hgr := Lib.hid (show w.heap.size ≤ gr from by have := F4.out.size; omega)
    have Hga := Lib.hid (show ¬ w.heap.size = gr from by have := blk_lt Ba.out; omega)
    have Hgb := Lib.hid (show ¬ w3.heap.size = gr from by have := blk_lt Bb.out; omega)
    have Hg6 := Lib.hid (show w2.heap.size ≤ gr from by have := HF3.out.size; simp at hgr; omega)
    skip
    have HW := Lib.hid (isW_fr (S2 := fun _ => False) HW.out f5 (fun _ _ h => h))
    have Ba := Lib.hid (f5.blk Ba.out (fun h => h))
    have Bb := Lib.hid (f5.blk Bb.out (fun h => h))
    have F5 := Lib.hid (F4.out.then_ f5 (fun _ h => h.elim))
    have K5 := Lib.hid k5
    clear k5 f5 hgr
    go_wp2_with fail
    refine (get_any _ gr (XB ++ l, false) K5.out HBX.out).mono ?_
    rintro e w6 ⟨rfl, k6, f6⟩
    rw [e1.out] at k6
    rw [e1.out, if_neg (by simp), e2.out]
    have f6' : Fr (fun k => k = gr) w5 w6 := f6
    have Hs5 := Lib.hid (show ∀ k, S2 k → ¬ k = gr from fun k hk => by have := (hSa.out k hk).1; have := Hg6.out; omega)
    have HW := Lib.hid (isW_fr (S2 := fun k => k = gr) HW.out f6' Hs5.out)
    have Ba := Lib.hid (f6'.blk Ba.out Hga.out)
    have Bb := Lib.hid (f6'.blk Bb.out Hgb.out)
    have F6 := Lib.hid (F5.out.then_ f6' (fun k hk => .inr (by rw [hk]; exact Hgr.out)))
    have K6 := Lib.hid k6
    clear k6 f6 f6'
    simp only [Tx.none, Tx.val]
    have kc := blk_alloc K6.out (.cells #[.int .u64 0, .int .u64 0, .int .u64 0, .int .u64 0, .int .u64 0, .int .u64 0, .int .u64 0, .int .u64 0, .int .u64 0, .int .u64 0, .int .i64 0, .int .i64 0, .int .i64 0, .int .i64 0, .int .i64 0, .int .i64 0] 26)
    have ba := blk_alloc Ba.out (.cells #[.int .u64 0, .int .u64 0, .int .u64 0, .int .u64 0, .int .u64 0, .int .u64 0, .int .u64 0, .int .u64 0, .int .u64 0, .int .u64 0, .int .i64 0, .int .i64 0, .int .i64 0, .int .i64 0, .int .i64 0, .int .i64 0] 26)
    have bb := blk_alloc Bb.out (.cells #[.int .u64 0, .int .u64 0, .int .u64 0, .int .u64 0, .int .u64 0, .int .u64 0, .int .u64 0, .int .u64 0, .int .u64 0, .int .u64 0, .int .i64 0, .int .i64 0, .int .i64 0, .int .i64 0, .int .i64 0, .int .i64 0] 26)
    have bc := heap_alloc_new w6 (.cells #[.int .u64 0, .int .u64 0, .int .u64 0, .int .u64 0, .int .u64 0, .int .u64 0, .int .u64 0, .int .u64 0, .int .u64 0, .int .u64 0, .int .i64 0, .int .i64 0, .int .i64 0, .int .i64 0, .int .i64 0, .int .i64 0] 26)
    have HW := Lib.hid (isW_alloc HW.out (.cells #[.int .u64 0, .int .u64 0, .int .u64 0, .int .u64 0, .int .u64 0, .int .u64 0, .int .u64 0, .int .u64 0, .int .u64 0, .int .u64 0, .int .i64 0, .int .i64 0, .int .i64 0, .int .i64 0, .int .i64 0, .int .i64 0] 26))
    have FA := Lib.hid (F6.out.alloc (.cells #[.int .u64 0, .int .u64 0, .int .u64 0, .int .u64 0, .int .u64 0, .int .u64 0, .int .u64 0, .int .u64 0, .int .u64 0, .int .u64 0, .int .i64 0, .int .i64 0, .int .i64 0, .int .i64 0, .int .i64 0, .int .i64 0] 26))
    have a0 := blk_cell ba 0 rfl; have a1 := blk_cell ba 1 rfl; have a2 := blk_cell ba 2 rfl; have a3 := blk_cell ba 3 rfl; have a4 := blk_cell ba 4 rfl; have a5 := blk_cell ba 5 rfl; have a6 := blk_cell ba 6 rfl; have a7 := blk_cell ba 7 rfl; have a8 := blk_cell ba 8 rfl; have a9 := blk_cell ba 9 rfl; have a10 := blk_cell ba 10 rfl; have a11 := blk_cell ba 11 rfl; have a12 := blk_cell ba 12 rfl; have a13 := blk_cell ba 13 rfl; have a14 := blk_cell ba 14 rfl; have a15 := blk_cell ba 15 rfl
    have b0 := blk_cell bb 0 rfl; have b1 := blk_cell bb 1 rfl; have b2 := blk_cell bb 2 rfl; have b3 := blk_cell bb 3 rfl; have b4 := blk_cell bb 4 rfl; have b5 := blk_cell bb 5 rfl; have b6 := blk_cell bb 6 rfl; have b7 := blk_cell bb 7 rfl; have b8 := blk_cell bb 8 rfl; have b9 := blk_cell bb 9 rfl; have b10 := blk_cell bb 10 rfl; have b11 := blk_cell bb 11 rfl; have b12 := blk_cell bb 12 rfl; have b13 := blk_cell bb 13 rfl; have b14 := blk_cell bb 14 rfl; have b15 := blk_cell bb 15 rfl
    have c0 := blk_cell bc 0 rfl; have c1 := blk_cell bc 1 rfl; have c2 := blk_cell bc 2 rfl; have c3 := blk_cell bc 3 rfl; have c4 := blk_cell bc 4 rfl; have c5 := blk_cell bc 5 rfl; have c6 := blk_cell bc 6 rfl; have c7 := blk_cell bc 7 rfl; have c8 := blk_cell bc 8 rfl; have c9 := blk_cell bc 9 rfl; have c10 := blk_cell bc 10 rfl; have c11 := blk_cell bc 11 rfl; have c12 := blk_cell bc 12 rfl; have c13 := blk_cell bc 13 rfl; have c14 := blk_cell bc 14 rfl; have c15 := blk_cell bc 15 rfl
    have hsza := blk_lt ba
    have hszb := blk_lt bb
    have hszc := blk_lt bc
    have Ba := Lib.hid ba
    have Bb := Lib.hid bb
    have Bc := Lib.hid bc
    have Kk := Lib.hid kc
    clear ba bb bc kc
    go_wp2_with fail
    clear a0 a1 a2 a3 a4 a5 a6 a7 a8 a9 a10 a11 a12 a13 a14 a15 b0 b1 b2 b3 b4 b5 b6 b7 b8 b9 b10 b11 b12 b13 b14 b15 c0 c1 c2 c3 c4 c5 c6 c7 c8 c9 c10 c11 c12 c13 c14 c15
    go_region_held3 (fun w' => (loadCells ⟨w.heap.size, 0, none⟩ 16).run Tryd.prog w' = .ok #[Value.int .u64 a.id.hi, Value.int .u64 a.id.lo, Value.int .u64 a.debit.hi, Value.int .u64 a.debit.lo, Value.int .u64 a.credit.hi, Value.int .u64 a.credit.lo, Value.int .u64 a.amount.hi, Value.int .u64 a.amount.lo, Value.int .u64 a.pending.hi, Value.int .u64 a.pending.lo, Value.int .i64 a.timeout, Value.int .i64 a.ledger, Value.int .i64 a.code, Value.int .i64 a.flags, Value.int .i64 a.stamp, Value.int .i64 a.born] w' ∧ (loadCells ⟨w3.heap.size, 0, none⟩ 16).run Tryd.prog w' = .ok #[Value.int .u64 0, Value.int .u64 0, Value.int .u64 0, Value.int .u64 0, Value.int .u64 0, Value.int .u64 0, Value.int .u64 0, Value.int .u64 0, Value.int .u64 0, Value.int .u64 0, Value.int .i64 0, Value.int .i64 0, Value.int .i64 0, Value.int .i64 0, Value.int .i64 0, Value.int .i64 0] w' ∧ (loadCells ⟨w6.heap.size, 0, none⟩ 16).run Tryd.prog w' = .ok #[Value.int .u64 0, Value.int .u64 0, Value.int .u64 0, Value.int .u64 0, Value.int .u64 0, Value.int .u64 0, Value.int .u64 0, Value.int .u64 0, Value.int .u64 0, Value.int .u64 0, Value.int .i64 0, Value.int .i64 0, Value.int .i64 0, Value.int .i64 0, Value.int .i64 0, Value.int .i64 0] w')
      (first | exact ⟨ld_row _ _ rfl Ba.out, ld_row _ _ rfl Bb.out, ld_row _ _ rfl Bc.out⟩ | go_keep)
      (first
        | (go_at_call 27; with_reducible refine (HP.out _).mono ?_; rintro e w4 ⟨rfl, f4⟩; have ba := f4.blk Ba.out (fun h => h); have bb := f4.blk Bb.out (fun h => h); have bc := f4.blk Bc.out (fun h => h); have kk := f4.blk Kk.out (fun h => h); have a0 := blk_cell ba 0 rfl; have a1 := blk_cell ba 1 rfl; have a2 := blk_cell ba 2 rfl; have a3 := blk_cell ba 3 rfl; have a4 := blk_cell ba 4 rfl; have a5 := blk_cell ba 5 rfl; have a6 := blk_cell ba 6 rfl; have a7 := blk_cell ba 7 rfl; have a8 := blk_cell ba 8 rfl; have a9 := blk_cell ba 9 rfl; have a10 := blk_cell ba 10 rfl; have a11 := blk_cell ba 11 rfl; have a12 := blk_cell ba 12 rfl; have a13 := blk_cell ba 13 rfl; have a14 := blk_cell ba 14 rfl; have a15 := blk_cell ba 15 rfl; have b0 := blk_cell bb 0 rfl; have b1 := blk_cell bb 1 rfl; have b2 := blk_cell bb 2 rfl; have b3 := blk_cell bb 3 rfl; have b4 := blk_cell bb 4 rfl; have b5 := blk_cell bb 5 rfl; have b6 := blk_cell bb 6 rfl; have b7 := blk_cell bb 7 rfl; have b8 := blk_cell bb 8 rfl; have b9 := blk_cell bb 9 rfl; have b10 := blk_cell bb 10 rfl; have b11 := blk_cell bb 11 rfl; have b12 := blk_cell bb 12 rfl; have b13 := blk_cell bb 13 rfl; have b14 := blk_cell bb 14 rfl; have b15 := blk_cell bb 15 rfl; have c0 := blk_cell bc 0 rfl; have c1 := blk_cell bc 1 rfl; have c2 := blk_cell bc 2 rfl; have c3 := blk_cell bc 3 rfl; have c4 := blk_cell bc 4 rfl; have c5 := blk_cell bc 5 rfl; have c6 := blk_cell bc 6 rfl; have c7 := blk_cell bc 7 rfl; have c8 := blk_cell bc 8 rfl; have c9 := blk_cell bc 9 rfl; have c10 := blk_cell bc 10 rfl; have c11 := blk_cell bc 11 rfl; have c12 := blk_cell bc 12 rfl; have c13 := blk_cell bc 13 rfl; have c14 := blk_cell bc 14 rfl; have c15 := blk_cell bc 15 rfl; have Ba := Lib.hid ba; have Bb := Lib.hid bb; have Bc := Lib.hid bc; have Kk := Lib.hid kk; have HW := Lib.hid (isW_fr (S2 := fun _ => False) HW.out (Fr.then_ (S2 := fun _ => False) (by repeat (first | (with_reducible exact Fr.refl _ _) | (with_reducible refine Fr.drew ?_) | (with_reducible refine Fr.drewN ?_ _) | (with_reducible refine Fr.alloc ?_ _) | (with_reducible refine Fr.set1 ?_ _) | (with_reducible refine Fr.setNew ?_ (by omega) _))) f4 (fun _ h => h.elim)) (fun _ _ h => h)); have FA := Lib.hid (FA.out.then_ (S2 := fun _ => False) (Fr.then_ (S2 := fun _ => False) (by repeat (first | (with_reducible exact Fr.refl _ _) | (with_reducible refine Fr.drew ?_) | (with_reducible refine Fr.drewN ?_ _) | (with_reducible refine Fr.alloc ?_ _) | (with_reducible refine Fr.set1 ?_ _) | (with_reducible refine Fr.setNew ?_ (by omega) _))) f4 (fun _ h => h.elim)) (fun _ h => h.elim)); clear f4 ba bb bc kk)
        | (go_at_call 23; with_reducible refine (HR.out _).mono ?_; rintro e w4 ⟨rfl, f4⟩; have ba := f4.blk Ba.out (fun h => h); have bb := f4.blk Bb.out (fun h => h); have bc := f4.blk Bc.out (fun h => h); have kk := f4.blk Kk.out (fun h => h); have a0 := blk_cell ba 0 rfl; have a1 := blk_cell ba 1 rfl; have a2 := blk_cell ba 2 rfl; have a3 := blk_cell ba 3 rfl; have a4 := blk_cell ba 4 rfl; have a5 := blk_cell ba 5 rfl; have a6 := blk_cell ba 6 rfl; have a7 := blk_cell ba 7 rfl; have a8 := blk_cell ba 8 rfl; have a9 := blk_cell ba 9 rfl; have a10 := blk_cell ba 10 rfl; have a11 := blk_cell ba 11 rfl; have a12 := blk_cell ba 12 rfl; have a13 := blk_cell ba 13 rfl; have a14 := blk_cell ba 14 rfl; have a15 := blk_cell ba 15 rfl; have b0 := blk_cell bb 0 rfl; have b1 := blk_cell bb 1 rfl; have b2 := blk_cell bb 2 rfl; have b3 := blk_cell bb 3 rfl; have b4 := blk_cell bb 4 rfl; have b5 := blk_cell bb 5 rfl; have b6 := blk_cell bb 6 rfl; have b7 := blk_cell bb 7 rfl; have b8 := blk_cell bb 8 rfl; have b9 := blk_cell bb 9 rfl; have b10 := blk_cell bb 10 rfl; have b11 := blk_cell bb 11 rfl; have b12 := blk_cell bb 12 rfl; have b13 := blk_cell bb 13 rfl; have b14 := blk_cell bb 14 rfl; have b15 := blk_cell bb 15 rfl; have c0 := blk_cell bc 0 rfl; have c1 := blk_cell bc 1 rfl; have c2 := blk_cell bc 2 rfl; have c3 := blk_cell bc 3 rfl; have c4 := blk_cell bc 4 rfl; have c5 := blk_cell bc 5 rfl; have c6 := blk_cell bc 6 rfl; have c7 := blk_cell bc 7 rfl; have c8 := blk_cell bc 8 rfl; have c9 := blk_cell bc 9 rfl; have c10 := blk_cell bc 10 rfl; have c11 := blk_cell bc 11 rfl; have c12 := blk_cell bc 12 rfl; have c13 := blk_cell bc 13 rfl; have c14 := blk_cell bc 14 rfl; have c15 := blk_cell bc 15 rfl; have Ba := Lib.hid ba; have Bb := Lib.hid bb; have Bc := Lib.hid bc; have Kk := Lib.hid kk; have HW := Lib.hid (isW_fr (S2 := fun _ => False) HW.out (Fr.then_ (S2 := fun _ => False) (by repeat (first | (with_reducible exact Fr.refl _ _) | (with_reducible refine Fr.drew ?_) | (with_reducible refine Fr.drewN ?_ _) | (with_reducible refine Fr.alloc ?_ _) | (with_reducible refine Fr.set1 ?_ _) | (with_reducible refine Fr.setNew ?_ (by omega) _))) f4 (fun _ h => h.elim)) (fun _ _ h => h)); have FA := Lib.hid (FA.out.then_ (S2 := fun _ => False) (Fr.then_ (S2 := fun _ => False) (by repeat (first | (with_reducible exact Fr.refl _ _) | (with_reducible refine Fr.drew ?_) | (with_reducible refine Fr.drewN ?_ _) | (with_reducible refine Fr.alloc ?_ _) | (with_reducible refine Fr.set1 ?_ _) | (with_reducible refine Fr.setNew ?_ (by omega) _))) f4 (fun _ h => h.elim)) (fun _ h => h.elim)); clear f4 ba bb bc kk)
        | (go_at_call 26; refine (wString_any _ _ g XB (isW_fr (S2 := fun _ => False) HW.out (by repeat (first | (with_reducible exact Fr.refl _ _) | (with_reducible refine Fr.drew ?_) | (with_reducible refine Fr.drewN ?_ _) | (with_reducible refine Fr.alloc ?_ _) | (with_reducible refine Fr.set1 ?_ _) | (with_reducible refine Fr.setNew ?_ (by omega) _))) (fun _ _ h => h))).mono ?_; rintro e w4 ⟨rfl, rfl⟩)
        | (go_at_call 28; refine (wLen_any _ _ g XB (isW_fr (S2 := fun _ => False) HW.out (by repeat (first | (with_reducible exact Fr.refl _ _) | (with_reducible refine Fr.drew ?_) | (with_reducible refine Fr.drewN ?_ _) | (with_reducible refine Fr.alloc ?_ _) | (with_reducible refine Fr.set1 ?_ _) | (with_reducible refine Fr.setNew ?_ (by omega) _))) (fun _ _ h => h))).mono ?_; rintro e w4 ⟨rfl, rfl⟩; rw [sl2])
        | (go_at_call 24; refine (rLeft_any _ gr l false (by first | exact Kk.out | (unfold IsR; (repeat (first | (with_reducible refine blk_drew ?_) | (with_reducible refine blk_drewN ?_ _) | (with_reducible refine blk_alloc ?_ _) | (with_reducible refine blk_far2 ?_ (by omega) _))) <;> exact Kk.out))).mono ?_; rintro e w4 ⟨rfl, rfl⟩))
    go_wp2_with fail
    go_ret
    exact ⟨rfl, FA.out⟩
  · rw [hgd] at HG HP HW
    rw [if_pos rfl] at HW
    have sX := strOfNums_size a.bytes
    rw [Tx.bytes_len] at sX
    have e1 := Lib.hid (show Tx.left (a.bytes ++ l, false) = (l, false) from by rw [Tx.left_long (by rw [List.length_append, Tx.bytes_len]; omega), drop_app (Tx.bytes_len _)])
    have e2 := Lib.hid (show Tx.got (a.bytes ++ l, false) = a from Tx.again_got l OA.out hgd)
    have HR := Lib.hid (show ∀ W, Calls Tryd.prog 23 #[.agg #[.int .u64 a.id.hi, .int .u64 a.id.lo, .int .u64 a.debit.hi, .int .u64 a.debit.lo, .int .u64 a.credit.hi, .int .u64 a.credit.lo, .int .u64 a.amount.hi, .int .u64 a.amount.lo, .int .u64 a.pending.hi, .int .u64 a.pending.lo, .int .i64 a.timeout, .int .i64 a.ledger, .int .i64 a.code, .int .i64 a.flags, .int .i64 a.stamp, .int .i64 a.born]] W fun e w' => e = .returned (.string (strOfNums a.bytes)) ∧ Fr (fun _ => False) W w' from fun W => refBytesOf_any W a OA.out)
    have sl2 := Tx.bytes_len a
    have HBX := Lib.hid (show Bytes (a.bytes ++ l) from by intro x hx; rcases List.mem_append.1 hx with h | h; exact Tx.bytes_ok _ x h; exact HBl.out x h)
    obtain ⟨XB, hXB⟩ : ∃ XB, a.bytes = XB := ⟨_, rfl⟩
    rw [hXB] at HW sX e1 e2 HR sl2 HBX
    clear hXB hgd
    have qa := ld_row (P := Tryd.prog) (n := 16) (w.heap.size) (#[.int .u64 a.id.hi, .int .u64 a.id.lo, .int .u64 a.debit.hi, .int .u64 a.debit.lo, .int .u64 a.credit.hi, .int .u64 a.credit.lo, .int .u64 a.amount.hi, .int .u64 a.amount.lo, .int .u64 a.pending.hi, .int .u64 a.pending.lo, .int .i64 a.timeout, .int .i64 a.ledger, .int .i64 a.code, .int .i64 a.flags, .int .i64 a.stamp, .int .i64 a.born]) rfl Ba.out
    go_wp2_with fail
    clear qa
    refine (HG.out _).mono ?_
    rintro e w3 ⟨rfl, f3⟩
    have F3 := Lib.hid (F2.out.then_ f3 (fun _ h => h.elim))
    have HF3 := Lib.hid f3
    have HW := Lib.hid (isW_fr (S2 := fun _ => False) HW.out f3 (fun _ _ h => h))
    have ba := f3.blk Ba.out (fun h => h)
    have a0 := blk_cell ba 0 rfl; have a1 := blk_cell ba 1 rfl; have a2 := blk_cell ba 2 rfl; have a3 := blk_cell ba 3 rfl; have a4 := blk_cell ba 4 rfl; have a5 := blk_cell ba 5 rfl; have a6 := blk_cell ba 6 rfl; have a7 := blk_cell ba 7 rfl; have a8 := blk_cell ba 8 rfl; have a9 := blk_cell ba 9 rfl; have a10 := blk_cell ba 10 rfl; have a11 := blk_cell ba 11 rfl; have a12 := blk_cell ba 12 rfl; have a13 := blk_cell ba 13 rfl; have a14 := blk_cell ba 14 rfl; have a15 := blk_cell ba 15 rfl
    have hlt3 := blk_lt ba
    have Ba := Lib.hid ba
    clear ba f3
    have qa := ld_row (P := Tryd.prog) (n := 16) (w.heap.size) (#[.int .u64 a.id.hi, .int .u64 a.id.lo, .int .u64 a.debit.hi, .int .u64 a.debit.lo, .int .u64 a.credit.hi, .int .u64 a.credit.lo, .int .u64 a.amount.hi, .int .u64 a.amount.lo, .int .u64 a.pending.hi, .int .u64 a.pending.lo, .int .i64 a.timeout, .int .i64 a.ledger, .int .i64 a.code, .int .i64 a.flags, .int .i64 a.stamp, .int .i64 a.born]) rfl Ba.out
    go_wp2_with fail
    clear qa
    have HW := Lib.hid (isW_alloc HW.out (.cells #[.int .u64 a.id.hi, .int .u64 a.id.lo, .int .u64 a.debit.hi, .int .u64 a.debit.lo, .int .u64 a.credit.hi, .int .u64 a.credit.lo, .int .u64 a.amount.hi, .int .u64 a.amount.lo, .int .u64 a.pending.hi, .int .u64 a.pending.lo, .int .i64 a.timeout, .int .i64 a.ledger, .int .i64 a.code, .int .i64 a.flags, .int .i64 a.stamp, .int .i64 a.born] 26))
    have Bb := Lib.hid (heap_alloc_new w3 (.cells #[.int .u64 a.id.hi, .int .u64 a.id.lo, .int .u64 a.debit.hi, .int .u64 a.debit.lo, .int .u64 a.credit.hi, .int .u64 a.credit.lo, .int .u64 a.amount.hi, .int .u64 a.amount.lo, .int .u64 a.pending.hi, .int .u64 a.pending.lo, .int .i64 a.timeout, .int .i64 a.ledger, .int .i64 a.code, .int .i64 a.flags, .int .i64 a.stamp, .int .i64 a.born] 26))
    have Ba := Lib.hid (blk_alloc Ba.out (.cells #[.int .u64 a.id.hi, .int .u64 a.id.lo, .int .u64 a.debit.hi, .int .u64 a.debit.lo, .int .u64 a.credit.hi, .int .u64 a.credit.lo, .int .u64 a.amount.hi, .int .u64 a.amount.lo, .int .u64 a.pending.hi, .int .u64 a.pending.lo, .int .i64 a.timeout, .int .i64 a.ledger, .int .i64 a.code, .int .i64 a.flags, .int .i64 a.stamp, .int .i64 a.born] 26))
    have F4 := Lib.hid (F3.out.alloc (.cells #[.int .u64 a.id.hi, .int .u64 a.id.lo, .int .u64 a.debit.hi, .int .u64 a.debit.lo, .int .u64 a.credit.hi, .int .u64 a.credit.lo, .int .u64 a.amount.hi, .int .u64 a.amount.lo, .int .u64 a.pending.hi, .int .u64 a.pending.lo, .int .i64 a.timeout, .int .i64 a.ledger, .int .i64 a.code, .int .i64 a.flags, .int .i64 a.stamp, .int .i64 a.born] 26))
    refine (wString_any _ _ g XB HW.out).mono ?_
    rintro e w4 ⟨rfl, rfl⟩
    go_wp2_with fail
    rw [strOf_append]
    refine (tRead_any _ _).mono ?_
    rintro e w5 ⟨gr, rfl, hgr, k5, f5⟩
    have Hgr := Lib.hid (show w.heap.size ≤ gr from by have := F4.out.size; omega)
    have Hga := Lib.hid (show ¬ w.heap.size = gr from by have := blk_lt Ba.out; omega)
    have Hgb := Lib.hid (show ¬ w3.heap.size = gr from by have := blk_lt Bb.out; omega)
    have Hg6 := Lib.hid (show w2.heap.size ≤ gr from by have := HF3.out.size; simp at hgr; omega)
    skip
    have HW := Lib.hid (isW_fr (S2 := fun _ => False) HW.out f5 (fun _ _ h => h))
    have Ba := Lib.hid (f5.blk Ba.out (fun h => h))
    have Bb := Lib.hid (f5.blk Bb.out (fun h => h))
    have F5 := Lib.hid (F4.out.then_ f5 (fun _ h => h.elim))
    have K5 := Lib.hid k5
    clear k5 f5 hgr
    go_wp2_with fail
    refine (get_any _ gr (XB ++ l, false) K5.out HBX.out).mono ?_
    rintro e w6 ⟨rfl, k6, f6⟩
    rw [e1.out] at k6
    rw [e1.out, if_neg (by simp), e2.out]
    have f6' : Fr (fun k => k = gr) w5 w6 := f6
    have Hs5 := Lib.hid (show ∀ k, S2 k → ¬ k = gr from fun k hk => by have := (hSa.out k hk).1; have := Hg6.out; omega)
    have HW := Lib.hid (isW_fr (S2 := fun k => k = gr) HW.out f6' Hs5.out)
    have Ba := Lib.hid (f6'.blk Ba.out Hga.out)
    have Bb := Lib.hid (f6'.blk Bb.out Hgb.out)
    have F6 := Lib.hid (F5.out.then_ f6' (fun k hk => .inr (by rw [hk]; exact Hgr.out)))
    have K6 := Lib.hid k6
    clear k6 f6 f6'
    unfold Tx.val
    have kc := blk_alloc K6.out (.cells #[.int .u64 a.id.hi, .int .u64 a.id.lo, .int .u64 a.debit.hi, .int .u64 a.debit.lo, .int .u64 a.credit.hi, .int .u64 a.credit.lo, .int .u64 a.amount.hi, .int .u64 a.amount.lo, .int .u64 a.pending.hi, .int .u64 a.pending.lo, .int .i64 a.timeout, .int .i64 a.ledger, .int .i64 a.code, .int .i64 a.flags, .int .i64 a.stamp, .int .i64 a.born] 26)
    have ba := blk_alloc Ba.out (.cells #[.int .u64 a.id.hi, .int .u64 a.id.lo, .int .u64 a.debit.hi, .int .u64 a.debit.lo, .int .u64 a.credit.hi, .int .u64 a.credit.lo, .int .u64 a.amount.hi, .int .u64 a.amount.lo, .int .u64 a.pending.hi, .int .u64 a.pending.lo, .int .i64 a.timeout, .int .i64 a.ledger, .int .i64 a.code, .int .i64 a.flags, .int .i64 a.stamp, .int .i64 a.born] 26)
    have bb := blk_alloc Bb.out (.cells #[.int .u64 a.id.hi, .int .u64 a.id.lo, .int .u64 a.debit.hi, .int .u64 a.debit.lo, .int .u64 a.credit.hi, .int .u64 a.credit.lo, .int .u64 a.amount.hi, .int .u64 a.amount.lo, .int .u64 a.pending.hi, .int .u64 a.pending.lo, .int .i64 a.timeout, .int .i64 a.ledger, .int .i64 a.code, .int .i64 a.flags, .int .i64 a.stamp, .int .i64 a.born] 26)
    have bc := heap_alloc_new w6 (.cells #[.int .u64 a.id.hi, .int .u64 a.id.lo, .int .u64 a.debit.hi, .int .u64 a.debit.lo, .int .u64 a.credit.hi, .int .u64 a.credit.lo, .int .u64 a.amount.hi, .int .u64 a.amount.lo, .int .u64 a.pending.hi, .int .u64 a.pending.lo, .int .i64 a.timeout, .int .i64 a.ledger, .int .i64 a.code, .int .i64 a.flags, .int .i64 a.stamp, .int .i64 a.born] 26)
    have HW := Lib.hid (isW_alloc HW.out (.cells #[.int .u64 a.id.hi, .int .u64 a.id.lo, .int .u64 a.debit.hi, .int .u64 a.debit.lo, .int .u64 a.credit.hi, .int .u64 a.credit.lo, .int .u64 a.amount.hi, .int .u64 a.amount.lo, .int .u64 a.pending.hi, .int .u64 a.pending.lo, .int .i64 a.timeout, .int .i64 a.ledger, .int .i64 a.code, .int .i64 a.flags, .int .i64 a.stamp, .int .i64 a.born] 26))
    have FA := Lib.hid (F6.out.alloc (.cells #[.int .u64 a.id.hi, .int .u64 a.id.lo, .int .u64 a.debit.hi, .int .u64 a.debit.lo, .int .u64 a.credit.hi, .int .u64 a.credit.lo, .int .u64 a.amount.hi, .int .u64 a.amount.lo, .int .u64 a.pending.hi, .int .u64 a.pending.lo, .int .i64 a.timeout, .int .i64 a.ledger, .int .i64 a.code, .int .i64 a.flags, .int .i64 a.stamp, .int .i64 a.born] 26))
    have a0 := blk_cell ba 0 rfl; have a1 := blk_cell ba 1 rfl; have a2 := blk_cell ba 2 rfl; have a3 := blk_cell ba 3 rfl; have a4 := blk_cell ba 4 rfl; have a5 := blk_cell ba 5 rfl; have a6 := blk_cell ba 6 rfl; have a7 := blk_cell ba 7 rfl; have a8 := blk_cell ba 8 rfl; have a9 := blk_cell ba 9 rfl; have a10 := blk_cell ba 10 rfl; have a11 := blk_cell ba 11 rfl; have a12 := blk_cell ba 12 rfl; have a13 := blk_cell ba 13 rfl; have a14 := blk_cell ba 14 rfl; have a15 := blk_cell ba 15 rfl
    have b0 := blk_cell bb 0 rfl; have b1 := blk_cell bb 1 rfl; have b2 := blk_cell bb 2 rfl; have b3 := blk_cell bb 3 rfl; have b4 := blk_cell bb 4 rfl; have b5 := blk_cell bb 5 rfl; have b6 := blk_cell bb 6 rfl; have b7 := blk_cell bb 7 rfl; have b8 := blk_cell bb 8 rfl; have b9 := blk_cell bb 9 rfl; have b10 := blk_cell bb 10 rfl; have b11 := blk_cell bb 11 rfl; have b12 := blk_cell bb 12 rfl; have b13 := blk_cell bb 13 rfl; have b14 := blk_cell bb 14 rfl; have b15 := blk_cell bb 15 rfl
    have c0 := blk_cell bc 0 rfl; have c1 := blk_cell bc 1 rfl; have c2 := blk_cell bc 2 rfl; have c3 := blk_cell bc 3 rfl; have c4 := blk_cell bc 4 rfl; have c5 := blk_cell bc 5 rfl; have c6 := blk_cell bc 6 rfl; have c7 := blk_cell bc 7 rfl; have c8 := blk_cell bc 8 rfl; have c9 := blk_cell bc 9 rfl; have c10 := blk_cell bc 10 rfl; have c11 := blk_cell bc 11 rfl; have c12 := blk_cell bc 12 rfl; have c13 := blk_cell bc 13 rfl; have c14 := blk_cell bc 14 rfl; have c15 := blk_cell bc 15 rfl
    have hsza := blk_lt ba
    have hszb := blk_lt bb
    have hszc := blk_lt bc
    have Ba := Lib.hid ba
    have Bb := Lib.hid bb
    have Bc := Lib.hid bc
    have Kk := Lib.hid kc
    clear ba bb bc kc
    go_wp2_with fail
    clear a0 a1 a2 a3 a4 a5 a6 a7 a8 a9 a10 a11 a12 a13 a14 a15 b0 b1 b2 b3 b4 b5 b6 b7 b8 b9 b10 b11 b12 b13 b14 b15 c0 c1 c2 c3 c4 c5 c6 c7 c8 c9 c10 c11 c12 c13 c14 c15
    go_region_held3 (fun w' => (loadCells ⟨w.heap.size, 0, none⟩ 16).run Tryd.prog w' = .ok #[Value.int .u64 a.id.hi, Value.int .u64 a.id.lo, Value.int .u64 a.debit.hi, Value.int .u64 a.debit.lo, Value.int .u64 a.credit.hi, Value.int .u64 a.credit.lo, Value.int .u64 a.amount.hi, Value.int .u64 a.amount.lo, Value.int .u64 a.pending.hi, Value.int .u64 a.pending.lo, Value.int .i64 a.timeout, Value.int .i64 a.ledger, Value.int .i64 a.code, Value.int .i64 a.flags, Value.int .i64 a.stamp, Value.int .i64 a.born] w' ∧ (loadCells ⟨w3.heap.size, 0, none⟩ 16).run Tryd.prog w' = .ok #[Value.int .u64 a.id.hi, Value.int .u64 a.id.lo, Value.int .u64 a.debit.hi, Value.int .u64 a.debit.lo, Value.int .u64 a.credit.hi, Value.int .u64 a.credit.lo, Value.int .u64 a.amount.hi, Value.int .u64 a.amount.lo, Value.int .u64 a.pending.hi, Value.int .u64 a.pending.lo, Value.int .i64 a.timeout, Value.int .i64 a.ledger, Value.int .i64 a.code, Value.int .i64 a.flags, Value.int .i64 a.stamp, Value.int .i64 a.born] w' ∧ (loadCells ⟨w6.heap.size, 0, none⟩ 16).run Tryd.prog w' = .ok #[Value.int .u64 a.id.hi, Value.int .u64 a.id.lo, Value.int .u64 a.debit.hi, Value.int .u64 a.debit.lo, Value.int .u64 a.credit.hi, Value.int .u64 a.credit.lo, Value.int .u64 a.amount.hi, Value.int .u64 a.amount.lo, Value.int .u64 a.pending.hi, Value.int .u64 a.pending.lo, Value.int .i64 a.timeout, Value.int .i64 a.ledger, Value.int .i64 a.code, Value.int .i64 a.flags, Value.int .i64 a.stamp, Value.int .i64 a.born] w')
      (first | exact ⟨ld_row _ _ rfl Ba.out, ld_row _ _ rfl Bb.out, ld_row _ _ rfl Bc.out⟩ | go_keep)
      (first
        | (go_at_call 27; with_reducible refine (HP.out _).mono ?_; rintro e w4 ⟨rfl, f4⟩; have ba := f4.blk Ba.out (fun h => h); have bb := f4.blk Bb.out (fun h => h); have bc := f4.blk Bc.out (fun h => h); have kk := f4.blk Kk.out (fun h => h); have a0 := blk_cell ba 0 rfl; have a1 := blk_cell ba 1 rfl; have a2 := blk_cell ba 2 rfl; have a3 := blk_cell ba 3 rfl; have a4 := blk_cell ba 4 rfl; have a5 := blk_cell ba 5 rfl; have a6 := blk_cell ba 6 rfl; have a7 := blk_cell ba 7 rfl; have a8 := blk_cell ba 8 rfl; have a9 := blk_cell ba 9 rfl; have a10 := blk_cell ba 10 rfl; have a11 := blk_cell ba 11 rfl; have a12 := blk_cell ba 12 rfl; have a13 := blk_cell ba 13 rfl; have a14 := blk_cell ba 14 rfl; have a15 := blk_cell ba 15 rfl; have b0 := blk_cell bb 0 rfl; have b1 := blk_cell bb 1 rfl; have b2 := blk_cell bb 2 rfl; have b3 := blk_cell bb 3 rfl; have b4 := blk_cell bb 4 rfl; have b5 := blk_cell bb 5 rfl; have b6 := blk_cell bb 6 rfl; have b7 := blk_cell bb 7 rfl; have b8 := blk_cell bb 8 rfl; have b9 := blk_cell bb 9 rfl; have b10 := blk_cell bb 10 rfl; have b11 := blk_cell bb 11 rfl; have b12 := blk_cell bb 12 rfl; have b13 := blk_cell bb 13 rfl; have b14 := blk_cell bb 14 rfl; have b15 := blk_cell bb 15 rfl; have c0 := blk_cell bc 0 rfl; have c1 := blk_cell bc 1 rfl; have c2 := blk_cell bc 2 rfl; have c3 := blk_cell bc 3 rfl; have c4 := blk_cell bc 4 rfl; have c5 := blk_cell bc 5 rfl; have c6 := blk_cell bc 6 rfl; have c7 := blk_cell bc 7 rfl; have c8 := blk_cell bc 8 rfl; have c9 := blk_cell bc 9 rfl; have c10 := blk_cell bc 10 rfl; have c11 := blk_cell bc 11 rfl; have c12 := blk_cell bc 12 rfl; have c13 := blk_cell bc 13 rfl; have c14 := blk_cell bc 14 rfl; have c15 := blk_cell bc 15 rfl; have Ba := Lib.hid ba; have Bb := Lib.hid bb; have Bc := Lib.hid bc; have Kk := Lib.hid kk; have HW := Lib.hid (isW_fr (S2 := fun _ => False) HW.out (Fr.then_ (S2 := fun _ => False) (by repeat (first | (with_reducible exact Fr.refl _ _) | (with_reducible refine Fr.drew ?_) | (with_reducible refine Fr.drewN ?_ _) | (with_reducible refine Fr.alloc ?_ _) | (with_reducible refine Fr.set1 ?_ _) | (with_reducible refine Fr.setNew ?_ (by omega) _))) f4 (fun _ h => h.elim)) (fun _ _ h => h)); have FA := Lib.hid (FA.out.then_ (S2 := fun _ => False) (Fr.then_ (S2 := fun _ => False) (by repeat (first | (with_reducible exact Fr.refl _ _) | (with_reducible refine Fr.drew ?_) | (with_reducible refine Fr.drewN ?_ _) | (with_reducible refine Fr.alloc ?_ _) | (with_reducible refine Fr.set1 ?_ _) | (with_reducible refine Fr.setNew ?_ (by omega) _))) f4 (fun _ h => h.elim)) (fun _ h => h.elim)); clear f4 ba bb bc kk)
        | (go_at_call 23; with_reducible refine (HR.out _).mono ?_; rintro e w4 ⟨rfl, f4⟩; have ba := f4.blk Ba.out (fun h => h); have bb := f4.blk Bb.out (fun h => h); have bc := f4.blk Bc.out (fun h => h); have kk := f4.blk Kk.out (fun h => h); have a0 := blk_cell ba 0 rfl; have a1 := blk_cell ba 1 rfl; have a2 := blk_cell ba 2 rfl; have a3 := blk_cell ba 3 rfl; have a4 := blk_cell ba 4 rfl; have a5 := blk_cell ba 5 rfl; have a6 := blk_cell ba 6 rfl; have a7 := blk_cell ba 7 rfl; have a8 := blk_cell ba 8 rfl; have a9 := blk_cell ba 9 rfl; have a10 := blk_cell ba 10 rfl; have a11 := blk_cell ba 11 rfl; have a12 := blk_cell ba 12 rfl; have a13 := blk_cell ba 13 rfl; have a14 := blk_cell ba 14 rfl; have a15 := blk_cell ba 15 rfl; have b0 := blk_cell bb 0 rfl; have b1 := blk_cell bb 1 rfl; have b2 := blk_cell bb 2 rfl; have b3 := blk_cell bb 3 rfl; have b4 := blk_cell bb 4 rfl; have b5 := blk_cell bb 5 rfl; have b6 := blk_cell bb 6 rfl; have b7 := blk_cell bb 7 rfl; have b8 := blk_cell bb 8 rfl; have b9 := blk_cell bb 9 rfl; have b10 := blk_cell bb 10 rfl; have b11 := blk_cell bb 11 rfl; have b12 := blk_cell bb 12 rfl; have b13 := blk_cell bb 13 rfl; have b14 := blk_cell bb 14 rfl; have b15 := blk_cell bb 15 rfl; have c0 := blk_cell bc 0 rfl; have c1 := blk_cell bc 1 rfl; have c2 := blk_cell bc 2 rfl; have c3 := blk_cell bc 3 rfl; have c4 := blk_cell bc 4 rfl; have c5 := blk_cell bc 5 rfl; have c6 := blk_cell bc 6 rfl; have c7 := blk_cell bc 7 rfl; have c8 := blk_cell bc 8 rfl; have c9 := blk_cell bc 9 rfl; have c10 := blk_cell bc 10 rfl; have c11 := blk_cell bc 11 rfl; have c12 := blk_cell bc 12 rfl; have c13 := blk_cell bc 13 rfl; have c14 := blk_cell bc 14 rfl; have c15 := blk_cell bc 15 rfl; have Ba := Lib.hid ba; have Bb := Lib.hid bb; have Bc := Lib.hid bc; have Kk := Lib.hid kk; have HW := Lib.hid (isW_fr (S2 := fun _ => False) HW.out (Fr.then_ (S2 := fun _ => False) (by repeat (first | (with_reducible exact Fr.refl _ _) | (with_reducible refine Fr.drew ?_) | (with_reducible refine Fr.drewN ?_ _) | (with_reducible refine Fr.alloc ?_ _) | (with_reducible refine Fr.set1 ?_ _) | (with_reducible refine Fr.setNew ?_ (by omega) _))) f4 (fun _ h => h.elim)) (fun _ _ h => h)); have FA := Lib.hid (FA.out.then_ (S2 := fun _ => False) (Fr.then_ (S2 := fun _ => False) (by repeat (first | (with_reducible exact Fr.refl _ _) | (with_reducible refine Fr.drew ?_) | (with_reducible refine Fr.drewN ?_ _) | (with_reducible refine Fr.alloc ?_ _) | (with_reducible refine Fr.set1 ?_ _) | (with_reducible refine Fr.setNew ?_ (by omega) _))) f4 (fun _ h => h.elim)) (fun _ h => h.elim)); clear f4 ba bb bc kk)
        | (go_at_call 26; refine (wString_any _ _ g XB (isW_fr (S2 := fun _ => False) HW.out (by repeat (first | (with_reducible exact Fr.refl _ _) | (with_reducible refine Fr.drew ?_) | (with_reducible refine Fr.drewN ?_ _) | (with_reducible refine Fr.alloc ?_ _) | (with_reducible refine Fr.set1 ?_ _) | (with_reducible refine Fr.setNew ?_ (by omega) _))) (fun _ _ h => h))).mono ?_; rintro e w4 ⟨rfl, rfl⟩)
        | (go_at_call 28; refine (wLen_any _ _ g XB (isW_fr (S2 := fun _ => False) HW.out (by repeat (first | (with_reducible exact Fr.refl _ _) | (with_reducible refine Fr.drew ?_) | (with_reducible refine Fr.drewN ?_ _) | (with_reducible refine Fr.alloc ?_ _) | (with_reducible refine Fr.set1 ?_ _) | (with_reducible refine Fr.setNew ?_ (by omega) _))) (fun _ _ h => h))).mono ?_; rintro e w4 ⟨rfl, rfl⟩; rw [sl2])
        | (go_at_call 24; refine (rLeft_any _ gr l false (by first | exact Kk.out | (unfold IsR; (repeat (first | (with_reducible refine blk_drew ?_) | (with_reducible refine blk_drewN ?_ _) | (with_reducible refine blk_alloc ?_ _) | (with_reducible refine blk_far2 ?_ (by omega) _))) <;> exact Kk.out))).mono ?_; rintro e w4 ⟨rfl, rfl⟩))
    go_wp2_with fail
    go_ret
    exact ⟨rfl, FA.out⟩
end Go.Proofs.YtiabpnhkihbkjaaDoor
