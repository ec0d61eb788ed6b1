/- Books: Open. -/
import Derived.Test.YtjchjpmgbmeohaaDoorBkN
import Derived.Deep.RegionHeld3
set_option linter.unusedSimpArgs false
set_option linter.unusedVariables false
namespace Go.Proofs.YtjchjpmgbmeohaaDoor
open Go.RowKit

theorem Stp.fr_ {n : Nat} {w w1 w2 : World} {lab lab' : Nat → Nat} (h : Stp n w lab w1 lab') (f : Fr (fun _ => False) w1 w2) : Stp n w lab w2 lab' := ⟨h.fr.then_ f (fun _ h => h.elim), h.le, h.lx, h.nz, h.own⟩
theorem Stp.set {n b j : Nat} {w w1 : World} {lab lab' : Nat → Nat} (h : Stp n w lab w1 lab') (hb : w.heap.size ≤ b) (u : Value) : Stp n w lab (w1.setCell ⟨b, j, none⟩ u) lab' := ⟨h.fr.setCell (p := ⟨b, j, none⟩) (.inr hb) u, h.le, h.lx, h.nz, h.own⟩
theorem Stp.of {n : Nat} {w w1 : World} {lab : Nat → Nat} (h : n ≤ w.heap.size) (f : Fr (fun _ => False) w w1) : Stp n w lab w1 lab := (Stp.refl h).fr_ f
theorem Sta.set {w : World} {lab : Nat → Nat} {d : Dd} {r : Raw} {es : List Ent} {big b j : Nat} (h : Sta w lab d r es big) (hb : lab b = 0) (u : Value) : Sta (w.setCell ⟨b, j, none⟩ u) lab d r es big := h.fr ((Fr.refl (fun k => k = b) w).setCell (p := ⟨b, j, none⟩) (.inl rfl) u) (fun k hk => by rw [hk]; exact hb)
/-- What Open makes of a state. -/
inductive OpenR (r : Raw) (es : List Ent) (a : Acc) : Int → Raw → List Ent → Prop
  | full (h : 32 ≤ r.accs.length) : OpenR r es a 6 r es
  | there (h : r.accs.length < 32) (h2 : (r.ids a.id).isSome = true) : OpenR r es a 1 r es
  | done (h : r.accs.length < 32) (h2 : r.ids a.id = none) (b1 b2 b3 b4 b5 : Nat) : OpenR r es a 0 { r with accs := r.accs ++ [{ a with stamp := r.stamp + 1 }], ids := upd r.ids a.id (some (r.accs.length : Int)), stamp := r.stamp + 1 } (.accCut b1 b2 r.accs.length :: .idDrop b3 b4 { a with stamp := r.stamp + 1 } :: .stDec b5 :: es)
def OpenPost (w : World) (lab : Nat → Nat) (d : Dd) (r : Raw) (es : List Ent) (big : Nat) (a : Acc) (e : Ending) (w' : World) : Prop :=
  ∃ c lab' r' es', e = .returned (.int .i64 c) ∧ OpenR r es a c r' es' ∧ Sta w' lab' d r' es' (big + 4) ∧ Stp w.heap.size w lab w' lab'
set_option maxRecDepth 4000 in
set_option maxHeartbeats 3200000 in
theorem openS (w : World) (lab : Nat → Nat) (d : Dd) (r : Raw) (es : List Ent) (big : Nat) (a : Acc) (h : Sta w lab d r es big) (hb : big ≤ 10000) (h0 : 0 ≤ r.stamp) (h1 : r.stamp ≤ 4611686018427387904) (hlen : r.accs.length ≤ 10000) :
    Calls Tryd.prog 16 #[.pointer (some ⟨d.B, 0, none⟩), .agg #[.int .u64 a.id.hi, .int .u64 a.id.lo, .int .u64 a.dp.hi, .int .u64 a.dp.lo, .int .u64 a.dq.hi, .int .u64 a.dq.lo, .int .u64 a.cp.hi, .int .u64 a.cp.lo, .int .u64 a.cq.hi, .int .u64 a.cq.lo, .int .i64 a.ledger, .int .i64 a.code, .int .i64 a.flags, .int .i64 a.stamp]] w (OpenPost w lab d r es big a) := by
  have HS := Lib.hid ((h.alloc (.cells #[.pointer (some ⟨d.B, 0, none⟩)] 35)).alloc (.cells #[.int .u64 a.id.hi, .int .u64 a.id.lo, .int .u64 a.dp.hi, .int .u64 a.dp.lo, .int .u64 a.dq.hi, .int .u64 a.dq.lo, .int .u64 a.cp.hi, .int .u64 a.cp.lo, .int .u64 a.cq.hi, .int .u64 a.cq.lo, .int .i64 a.ledger, .int .i64 a.code, .int .i64 a.flags, .int .i64 a.stamp] 26))
  obtain ⟨c1, -, c3, -, -, -, -, -⟩ := HS.out.cells
  have B0 := Lib.hid (blk_alloc (heap_alloc_new w (.cells #[.pointer (some ⟨d.B, 0, none⟩)] 35)) (.cells #[.int .u64 a.id.hi, .int .u64 a.id.lo, .int .u64 a.dp.hi, .int .u64 a.dp.lo, .int .u64 a.dq.hi, .int .u64 a.dq.lo, .int .u64 a.cp.hi, .int .u64 a.cp.lo, .int .u64 a.cq.hi, .int .u64 a.cq.lo, .int .i64 a.ledger, .int .i64 a.code, .int .i64 a.flags, .int .i64 a.stamp] 26))
  have B1 := Lib.hid (blk1 w (.cells #[.pointer (some ⟨d.B, 0, none⟩)] 35) (.cells #[.int .u64 a.id.hi, .int .u64 a.id.lo, .int .u64 a.dp.hi, .int .u64 a.dp.lo, .int .u64 a.dq.hi, .int .u64 a.dq.lo, .int .u64 a.cp.hi, .int .u64 a.cp.lo, .int .u64 a.cq.hi, .int .u64 a.cq.lo, .int .i64 a.ledger, .int .i64 a.code, .int .i64 a.flags, .int .i64 a.stamp] 26))
  have s0 := blk_cell B0.out 0 rfl
  have a0 := blk_cell B1.out 0 rfl
  have a1 := blk_cell B1.out 1 rfl
  have L0 := Lib.hid (h.free (Nat.le_refl _))
  have L1 := Lib.hid (h.free (Nat.le_succ w.heap.size))
  have HF := Lib.hid (((Fr.refl (fun _ => False) w).alloc (.cells #[.pointer (some ⟨d.B, 0, none⟩)] 35)).alloc (.cells #[.int .u64 a.id.hi, .int .u64 a.id.lo, .int .u64 a.dp.hi, .int .u64 a.dp.lo, .int .u64 a.dq.hi, .int .u64 a.dq.lo, .int .u64 a.cp.hi, .int .u64 a.cp.lo, .int .u64 a.cq.hi, .int .u64 a.cq.lo, .int .i64 a.ledger, .int .i64 a.code, .int .i64 a.flags, .int .i64 a.stamp] 26))
  have HZ := Lib.hid (show ((w.alloc (.cells #[.pointer (some ⟨d.B, 0, none⟩)] 35)).alloc (.cells #[.int .u64 a.id.hi, .int .u64 a.id.lo, .int .u64 a.dp.hi, .int .u64 a.dp.lo, .int .u64 a.dq.hi, .int .u64 a.dq.lo, .int .u64 a.cp.hi, .int .u64 a.cp.lo, .int .u64 a.cq.hi, .int .u64 a.cq.lo, .int .i64 a.ledger, .int .i64 a.code, .int .i64 a.flags, .int .i64 a.stamp] 26)).heap.size = w.heap.size + 2 from by simp)
  have HLen := Lib.hid (fun W l (h : Sta W l d r es big) => accLenS W l d r es big h)
  have HGet := Lib.hid (fun W l (h : Sta W l d r es big) => idGetS W l d r es big a.id h)
  have HStm := Lib.hid (And.intro h0 h1)
  have HLen0 := Lib.hid hlen
  obtain ⟨ln, hln⟩ : ∃ n : Nat, r.accs.length = n := ⟨_, rfl⟩
  have HLn := Lib.hid hln
  obtain ⟨gi, hgi⟩ : ∃ z : Int, (r.ids a.id).getD 0 = z := ⟨_, rfl⟩
  obtain ⟨gb, hgb⟩ : ∃ z : Bool, (r.ids a.id).isSome = z := ⟨_, rfl⟩
  have HGb := Lib.hid hgb
  rw [hln] at HLen
  rw [hgi, hgb] at HGet
  clear h h0 h1 hlen hln hgi hgb
  by_cases hfull : 32 ≤ ln
  · have hfull2 : (32 : Int) ≤ ln := by omega
    go_enter Tryd.func16, Tryd.ntmps16
    go_wp2_with fail
    refine (HLen.out _ _ HS.out).mono ?_
    rintro e w1 ⟨rfl, rfl⟩
    go_wp2_with fail
    go_ret
    exact ⟨6, lab, r, es, rfl, .full (by rw [HLn.out]; exact hfull), HS.out.more (by omega), .of (Nat.le_refl _) HF.out⟩
  have hfull2 : ¬ (32 : Int) ≤ ln := by omega
  go_enter Tryd.func16, Tryd.ntmps16
  go_wp2_with fail
  refine (HLen.out _ _ HS.out).mono ?_
  rintro e w1 ⟨rfl, rfl⟩
  go_upto_region 5 with fail
  go_cut [5, 6] from 17 (fun v5 v6 w' => v5 = .int .i64 gi ∧ v6 = .bool gb ∧ Fr (fun _ => False) ((w.alloc (.cells #[.pointer (some ⟨d.B, 0, none⟩)] 35)).alloc (.cells #[.int .u64 a.id.hi, .int .u64 a.id.lo, .int .u64 a.dp.hi, .int .u64 a.dp.lo, .int .u64 a.dq.hi, .int .u64 a.dq.lo, .int .u64 a.cp.hi, .int .u64 a.cp.lo, .int .u64 a.cq.hi, .int .u64 a.cq.lo, .int .i64 a.ledger, .int .i64 a.code, .int .i64 a.flags, .int .i64 a.stamp] 26)) w')
  case first =>
    go_region_held3 (fun w' => w'.cell? ⟨w.heap.size, 0, none⟩ = some (Value.pointer (some ⟨d.B, 0, none⟩)) ∧ w'.cell? ⟨d.B, 3, none⟩ = some (Value.pointer (some ⟨d.I, 0, none⟩)) ∧ w'.cell? ⟨w.heap.size + 1, 0, none⟩ = some (Value.int .u64 a.id.hi) ∧ w'.cell? ⟨w.heap.size + 1, 1, none⟩ = some (Value.int .u64 a.id.lo))
      (first | exact ⟨s0, c3, a0, a1⟩ | exact ⟨q0, q1, q2, q3⟩ | go_keep)
      (first | (go_at_call 55; go_must (with_reducible refine (HGet.out _ _ HS.out.drew).mono ?_); rintro e w2 ⟨rfl, f2⟩; have q0 := blk_cell (f2.blk (blk_drew B0.out) (fun h => h)) 0 rfl; have q1 := f2.cell (p := ⟨d.B, 3, none⟩) c3 (fun h => h); have q2 := blk_cell (f2.blk (blk_drew B1.out) (fun h => h)) 0 rfl; have q3 := blk_cell (f2.blk (blk_drew B1.out) (fun h => h)) 1 rfl; have F2 := Lib.hid f2; clear f2))
    go_wp2_with fail
    go_meet
    exact ⟨rfl, rfl, (Fr.refl _ _).drew.then_ F2.out (fun _ h => h.elim)⟩
  case rest =>
  obtain ⟨rfl, rfl, fc⟩ := hcut
  have HSc := Lib.hid (HS.out.fr fc (fun _ h => h.elim))
  have Bc0 := Lib.hid (fc.blk B0.out (fun h => h))
  have Bc1 := Lib.hid (fc.blk B1.out (fun h => h))
  have Fc := Lib.hid fc
  have s0c := blk_cell Bc0.out 0 rfl
  have HZc := Lib.hid (show w.heap.size + 2 ≤ wc.heap.size from by have := fc.size; have := HZ.out; omega)
  clear fc s0 c1 c3 a0 a1
  by_cases hgt : gb = true
  · subst hgt
    go_wp2_with fail
    go_ret
    exact ⟨1, lab, r, es, rfl, .there (by rw [HLn.out]; omega) HGb.out, HSc.out.more (by omega), .of (Nat.le_refl _) (HF.out.then_ Fc.out (fun _ h => h.elim))⟩
  have HNone := Lib.hid (show r.ids a.id = none from by have := HGb.out; cases hx : r.ids a.id with | none => rfl | some v => rw [hx] at this; exact absurd this.symm hgt)
  obtain rfl : gb = false := by simpa using hgt
  clear hgt
  have HNx := Lib.hid (nextS wc lab d r es big HSc.out (by omega) HStm.out.1 HStm.out.2)
  go_wp2_with fail
  refine HNx.out.mono ?_
  rintro e w2 ⟨rfl, lab2, b5, h2, p2⟩
  have l21 : lab2 (w.heap.size + 1) = 0 := by rw [p2.lx _ (by have := HZc.out; omega)]; exact L1.out
  have l20 : lab2 w.heap.size = 0 := by rw [p2.lx _ (by have := HZc.out; omega)]; exact L0.out
  have b20 := (p2.blk Bc0.out (.inl L0.out)).1
  have b21 := (p2.blk Bc1.out (.inl L1.out)).1
  have H3 := Lib.hid (h2.set l21 (.int .i64 (r.stamp + 1)) (j := 13))
  have P3 := Lib.hid ((((Stp.of (Nat.le_refl _) (HF.out.then_ Fc.out (fun _ h => h.elim))).then_ p2 (by have := HZc.out; omega) HSc.out.lt)).set (b := w.heap.size + 1) (j := 13) (Nat.le_succ _) (.int .i64 (r.stamp + 1)))
  have B30 := Lib.hid (blk_far2 (j := 13) b20 (Nat.ne_of_lt (Nat.lt_succ_self w.heap.size)) (.int .i64 (r.stamp + 1)))
  have B31 := Lib.hid (show (w2.setCell ⟨w.heap.size + 1, 13, none⟩ (.int .i64 (r.stamp + 1))).heap[w.heap.size + 1]? = some (.cells #[.int .u64 a.id.hi, .int .u64 a.id.lo, .int .u64 a.dp.hi, .int .u64 a.dp.lo, .int .u64 a.dq.hi, .int .u64 a.dq.lo, .int .u64 a.cp.hi, .int .u64 a.cp.lo, .int .u64 a.cq.hi, .int .u64 a.cq.lo, .int .i64 a.ledger, .int .i64 a.code, .int .i64 a.flags, .int .i64 (r.stamp + 1)] 26 (0, 0)) from by simpa using blk_set b21 13 (.int .i64 (r.stamp + 1)))
  have L20 := Lib.hid l20
  have L21 := Lib.hid l21
  have z13 := blk_free b21 13
  have a13 := blk_cell b21 13 rfl
  have s02 := blk_cell b20 0 rfl
  clear h2 p2 b20 b21 l20 l21 s0c
  go_upto_region 9 with fail
  go_cut [] from 31 (fun w' => ∃ lab', Sta w' lab' d { r with stamp := r.stamp + 1, ids := upd r.ids a.id (some (ln : Int)) } (.stDec b5 :: es) (big + 1 + 1) ∧ Stp w.heap.size w lab w' lab' ∧ w'.heap[w.heap.size]? = some (.cells #[.pointer (some ⟨d.B, 0, none⟩)] 35 (0, 0)) ∧ w'.heap[w.heap.size + 1]? = some (.cells #[.int .u64 a.id.hi, .int .u64 a.id.lo, .int .u64 a.dp.hi, .int .u64 a.dp.lo, .int .u64 a.dq.hi, .int .u64 a.dq.lo, .int .u64 a.cp.hi, .int .u64 a.cp.lo, .int .u64 a.cq.hi, .int .u64 a.cq.lo, .int .i64 a.ledger, .int .i64 a.code, .int .i64 a.flags, .int .i64 (r.stamp + 1)] 26 (0, 0)) ∧ lab' w.heap.size = 0 ∧ lab' (w.heap.size + 1) = 0)
  case first =>
    have HLen2 := Lib.hid (show Calls Tryd.prog 54 #[.pointer (some ⟨d.A, 0, none⟩)] (w2.setCell ⟨w.heap.size + 1, 13, none⟩ (.int .i64 (r.stamp + 1))).drew fun e w' => e = .returned (.int .i64 ln) ∧ w' = (w2.setCell ⟨w.heap.size + 1, 13, none⟩ (.int .i64 (r.stamp + 1))).drew from by have h := accLenS _ _ d _ _ _ H3.out.drew; rw [show ({ r with stamp := r.stamp + 1 } : Raw).accs.length = ln from HLn.out] at h; exact h)
    have HPut := Lib.hid (idPutS _ _ d _ _ _ a.id ln H3.out.drew (by omega))
    obtain ⟨k1, -, k3, -, -, -, -, -⟩ := H3.out.cells
    have k0 := blk_cell B30.out 0 rfl
    have ka := blk_cell B31.out 0 rfl
    have kb := blk_cell B31.out 1 rfl
    clear s02 a13 z13
    go_region_held3 (fun w' => w'.cell? ⟨w.heap.size, 0, none⟩ = some (Value.pointer (some ⟨d.B, 0, none⟩)) ∧ w'.cell? ⟨d.B, 1, none⟩ = some (Value.pointer (some ⟨d.A, 0, none⟩)) ∧ w'.cell? ⟨d.B, 3, none⟩ = some (Value.pointer (some ⟨d.I, 0, none⟩)) ∧ w'.cell? ⟨w.heap.size + 1, 0, none⟩ = some (Value.int .u64 a.id.hi) ∧ w'.cell? ⟨w.heap.size + 1, 1, none⟩ = some (Value.int .u64 a.id.lo))
      (first | exact ⟨k0, k1, k3, ka, kb⟩ | exact ⟨q0, q1, q3, qa, qb⟩ | go_keep)
      (first
        | (go_at_call 54; go_must (with_reducible refine HLen2.out.mono ?_); rintro e w3 ⟨rfl, rfl⟩)
        | (go_at_call 57; go_must (with_reducible refine HPut.out.mono ?_); rintro e w4 ⟨rfl, lab4, h4, p4⟩; have b40 := p4.blk (blk_drew B30.out) (.inl L20.out); have b41 := p4.blk (blk_drew B31.out) (.inl L21.out); have q0 := blk_cell b40.1 0 rfl; have qa := blk_cell b41.1 0 rfl; have qb := blk_cell b41.1 1 rfl; obtain ⟨q1, -, q3, -, -, -, -, -⟩ := h4.cells; have H4 := Lib.hid h4; have P4 := Lib.hid p4; have B40 := Lib.hid b40.1; have B41 := Lib.hid b41.1; clear h4 p4 b40 b41))
    go_wp2_with fail
    go_meet
    have hz : w.heap.size + 2 ≤ (w2.setCell ⟨w.heap.size + 1, 13, none⟩ (.int .i64 (r.stamp + 1))).drew.heap.size := blk_lt B31.out
    exact ⟨lab4, H4.out, (P3.out.fr_ (Fr.refl _ _).drew).then_ P4.out (by omega) H3.out.lt, B40.out, B41.out, by rw [P4.out.lx _ (by omega)]; exact L20.out, by rw [P4.out.lx _ (by omega)]; exact L21.out⟩
  case rest =>
  obtain ⟨lab4, h4, p4, b40, b41, l40, l41⟩ := hcut
  have H4 := Lib.hid h4
  have P4 := Lib.hid p4
  have HSz := Lib.hid (show w.heap.size ≤ wc.heap.size from p4.fr.size)
  have HK := Lib.hid (show Calls Tryd.prog 58 #[.pointer (some ⟨d.B, 0, none⟩), .func (.func 59) #[] #[.pointer (some ⟨w.heap.size, 0, none⟩), .pointer (some ⟨w.heap.size + 1, 0, none⟩)]] wc (KeepPost w.heap.size wc lab4 d { r with stamp := r.stamp + 1, ids := upd r.ids a.id (some (ln : Int)) } (.stDec b5 :: es) (big + 1 + 1) (.idDrop w.heap.size (w.heap.size + 1) { a with stamp := r.stamp + 1 })) from keepS _ _ d _ _ _ _ (.idDrop w.heap.size (w.heap.size + 1) { a with stamp := r.stamp + 1 }) h4 ⟨b40, b41⟩ (fun k hk => by
    rcases hk with rfl | rfl
    · exact ⟨Nat.le_refl _, blk_lt b40, .inl l40⟩
    · exact ⟨Nat.le_succ _, blk_lt b41, .inl l41⟩) p4.fr.size (by omega))
  have B40 := Lib.hid b40
  have B41 := Lib.hid b41
  have L40 := Lib.hid l40
  have L41 := Lib.hid l41
  have s04 := blk_cell b40 0 rfl
  clear h4 p4 b40 b41 l40 l41
  go_wp2_with fail
  refine HK.out.mono ?_
  rintro e w5 ⟨rfl, lab5, h5, p5⟩
  have b50 := p5.blk B40.out (.inl L40.out)
  have b51 := p5.blk B41.out (.inl L41.out)
  obtain ⟨k1, -, -, -, -, -, -, -⟩ := h5.cells
  have k0 := blk_cell b50.1 0 rfl
  have ka0 := blk_cell b51.1 0 rfl
  have ka1 := blk_cell b51.1 1 rfl
  have ka2 := blk_cell b51.1 2 rfl
  have ka3 := blk_cell b51.1 3 rfl
  have ka4 := blk_cell b51.1 4 rfl
  have ka5 := blk_cell b51.1 5 rfl
  have ka6 := blk_cell b51.1 6 rfl
  have ka7 := blk_cell b51.1 7 rfl
  have ka8 := blk_cell b51.1 8 rfl
  have ka9 := blk_cell b51.1 9 rfl
  have ka10 := blk_cell b51.1 10 rfl
  have ka11 := blk_cell b51.1 11 rfl
  have ka12 := blk_cell b51.1 12 rfl
  have ka13 := blk_cell b51.1 13 rfl
  have H5 := Lib.hid h5
  have B60 := Lib.hid b50.1
  have B61 := Lib.hid b51.1
  have L60 := Lib.hid b50.2
  have L61 := Lib.hid b51.2
  have P5 := Lib.hid (P4.out.then_ p5 (Nat.le_refl _) H4.out.lt)
  have HAdd := Lib.hid (show Calls Tryd.prog 61 #[.pointer (some ⟨d.A, 0, none⟩), .agg #[.int .u64 a.id.hi, .int .u64 a.id.lo, .int .u64 a.dp.hi, .int .u64 a.dp.lo, .int .u64 a.dq.hi, .int .u64 a.dq.lo, .int .u64 a.cp.hi, .int .u64 a.cp.lo, .int .u64 a.cq.hi, .int .u64 a.cq.lo, .int .i64 a.ledger, .int .i64 a.code, .int .i64 a.flags, .int .i64 (r.stamp + 1)]] w5.drew _ from accAddS _ _ d _ _ _ { a with stamp := r.stamp + 1 } h5.drew (by show r.accs.length ≤ _; have := HLen0.out; omega) (by omega))
  clear h5 p5 b50 b51 s04
  go_upto_region 11 with fail
  go_region_held3 (fun w' => w'.cell? ⟨w.heap.size, 0, none⟩ = some (Value.pointer (some ⟨d.B, 0, none⟩)) ∧ w'.cell? ⟨d.B, 1, none⟩ = some (Value.pointer (some ⟨d.A, 0, none⟩)) ∧ w'.cell? ⟨w.heap.size + 1, 0, none⟩ = some (Value.int .u64 a.id.hi) ∧ w'.cell? ⟨w.heap.size + 1, 1, none⟩ = some (Value.int .u64 a.id.lo) ∧ w'.cell? ⟨w.heap.size + 1, 2, none⟩ = some (Value.int .u64 a.dp.hi) ∧ w'.cell? ⟨w.heap.size + 1, 3, none⟩ = some (Value.int .u64 a.dp.lo) ∧ w'.cell? ⟨w.heap.size + 1, 4, none⟩ = some (Value.int .u64 a.dq.hi) ∧ w'.cell? ⟨w.heap.size + 1, 5, none⟩ = some (Value.int .u64 a.dq.lo) ∧ w'.cell? ⟨w.heap.size + 1, 6, none⟩ = some (Value.int .u64 a.cp.hi) ∧ w'.cell? ⟨w.heap.size + 1, 7, none⟩ = some (Value.int .u64 a.cp.lo) ∧ w'.cell? ⟨w.heap.size + 1, 8, none⟩ = some (Value.int .u64 a.cq.hi) ∧ w'.cell? ⟨w.heap.size + 1, 9, none⟩ = some (Value.int .u64 a.cq.lo) ∧ w'.cell? ⟨w.heap.size + 1, 10, none⟩ = some (Value.int .i64 a.ledger) ∧ w'.cell? ⟨w.heap.size + 1, 11, none⟩ = some (Value.int .i64 a.code) ∧ w'.cell? ⟨w.heap.size + 1, 12, none⟩ = some (Value.int .i64 a.flags) ∧ w'.cell? ⟨w.heap.size + 1, 13, none⟩ = some (Value.int .i64 (r.stamp + 1)))
    (first | exact ⟨k0, k1, ka0, ka1, ka2, ka3, ka4, ka5, ka6, ka7, ka8, ka9, ka10, ka11, ka12, ka13⟩ | exact ⟨q0, q1, qa0, qa1, qa2, qa3, qa4, qa5, qa6, qa7, qa8, qa9, qa10, qa11, qa12, qa13⟩ | go_keep)
    (first | (go_at_call 61; go_must (with_reducible refine HAdd.out.mono ?_); rintro e w6 ⟨rfl, lab6, h6, p6⟩; have b60 := (p6.blk (blk_drew B60.out) L60.out).1; have b61 := (p6.blk (blk_drew B61.out) L61.out).1; have q0 := blk_cell b60 0 rfl; have qa0 := blk_cell b61 0 rfl; have qa1 := blk_cell b61 1 rfl; have qa2 := blk_cell b61 2 rfl; have qa3 := blk_cell b61 3 rfl; have qa4 := blk_cell b61 4 rfl; have qa5 := blk_cell b61 5 rfl; have qa6 := blk_cell b61 6 rfl; have qa7 := blk_cell b61 7 rfl; have qa8 := blk_cell b61 8 rfl; have qa9 := blk_cell b61 9 rfl; have qa10 := blk_cell b61 10 rfl; have qa11 := blk_cell b61 11 rfl; have qa12 := blk_cell b61 12 rfl; have qa13 := blk_cell b61 13 rfl; obtain ⟨q1, -, -, -, -, -, -, -⟩ := h6.cells; have H6 := Lib.hid h6; have P6 := Lib.hid p6; clear h6 p6 b60 b61))
  go_wp2_with fail
  go_ret
  have hln := HLn.out
  subst hln
  exact ⟨0, lab6, _, _, rfl, .done (by omega) HNone.out _ _ _ _ _, H6.out, (P5.out.fr_ (Fr.refl _ _).drew).then_ P6.out P5.out.fr.size H5.out.lt⟩
end Go.Proofs.YtjchjpmgbmeohaaDoor
