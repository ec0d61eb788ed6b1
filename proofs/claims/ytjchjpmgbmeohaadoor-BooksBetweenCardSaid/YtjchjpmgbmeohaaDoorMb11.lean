/- Several texts in one, for the law BooksBetween: DoA, DoB, DoC, DoD, DoE, BoF, BtwA, StO. Each says what it shows; conditions: what each theorem names. -/
import Derived.Test.YtjchjpmgbmeohaaDoorMb10
import Derived.Deep.RegionLaw
import Derived.Test.YtjchjpmgbmeohaaDoorMb7
import Derived.Deep.RegionHeld3
import Derived.Test.YtjchjpmgbmeohaaDoorMb6
/- Both sides: a call, of kinds 0 to 4 and others. -/
set_option linter.unusedSimpArgs false
set_option linter.unusedVariables false
namespace Go.Proofs.YtjchjpmgbmeohaaDoor
open Go.RowKit

/-- The marks: each is taken back to. -/
def MkOk : Raw → List Ent → List (Raw × List Ent) → Prop
  | _, _, [] => True
  | r, es, x :: l => Backs x.1 x.2 r es ∧ Good x.1 ∧ MkOk x.1 x.2 l
theorem mk_step {r r' : Raw} {es es' : List Ent} {ms : List (Raw × List Ent)} (h : MkOk r es ms) (k : Backs r es r' es') : MkOk r' es' ms := by
  cases ms with
  | nil => trivial
  | cons x l => exact ⟨h.1.trans k, h.2⟩
def DoesP (F : Nat → Prop) (w0 w : World) (b : Nat) (d : Dd) (big : Nat) (r : Raw) (es : List Ent) (ms : List (Raw × List Ent)) (k : Int) (e : Ending) (w' : World) : Prop :=
  e = .returned (.bool true) ∧ ∃ M' r' es' ms', Bt F w0 w' b d M' r' es' (big + 8) r'.rm ms' ∧ Good r' ∧ MkOk r' es' ms' ∧ (k < 5 → ms' = ms ∧ Backs r es r' es') ∧ Fr (fun k => ¬ F k) w w' ∧ ms'.length ≤ ms.length + 1
theorem blk_cell' {w : World} {g : Nat} {c : Array Value} {t : TypeId} {f : Nat × Nat} (h : w.heap[g]? = some (.cells c t f)) (j : Nat) {v : Value} (hv : c[j]? = some v) : w.cell? ⟨g, j, none⟩ = some v := by rw [cell_of_row w g j c t f h, hv]
theorem cl_loads {P : Program} {W : World} {g : Nat} {c : Cl} {t : TypeId} {fr : Nat × Nat} (h : W.heap[g]? = some (.cells c.cells.toArray t fr)) :
    (loadCells ⟨g, 1, none⟩ 14).run P W = .ok c.account.cells.toArray W ∧ (loadCells ⟨g, 15, none⟩ 16).run P W = .ok c.asked.cells.toArray W ∧ (loadCells ⟨g, 31, none⟩ 16).run P W = .ok c.move.cells.toArray W ∧ (loadCells ⟨g, 48, none⟩ 2).run P W = .ok #[.int .u64 c.id.hi, .int .u64 c.id.lo] W ∧ W.cell? ⟨g, 0, none⟩ = some (.int .i64 c.kind) ∧ W.cell? ⟨g, 47, none⟩ = some (.bool c.waits) ∧ W.cell? ⟨g, 50, none⟩ = some (.int .i64 c.n) :=
  ⟨ld_part [.int .i64 c.kind] c.account.cells (c.asked.cells ++ c.move.cells ++ [.bool c.waits, .int .u64 c.id.hi, .int .u64 c.id.lo, .int .i64 c.n]) rfl rfl (t := t) (fr := fr) (by rw [h]; simp [Cl.cells]),
   ld_part ([.int .i64 c.kind] ++ c.account.cells) c.asked.cells (c.move.cells ++ [.bool c.waits, .int .u64 c.id.hi, .int .u64 c.id.lo, .int .i64 c.n]) rfl rfl (t := t) (fr := fr) (by rw [h]; simp [Cl.cells]),
   ld_part ([.int .i64 c.kind] ++ c.account.cells ++ c.asked.cells) c.move.cells [.bool c.waits, .int .u64 c.id.hi, .int .u64 c.id.lo, .int .i64 c.n] rfl rfl (t := t) (fr := fr) (by rw [h]; simp [Cl.cells]),
   ld_nm (blk_cell' h 48 rfl) (blk_cell' h 49 rfl), blk_cell' h 0 rfl, blk_cell' h 47 rfl, blk_cell' h 50 rfl⟩
section
variable {F : Nat → Prop} {w0 w : World} {b : Nat} {d : Dd} {M : Nat} {r : Raw} {es : List Ent} {big : Nat} {ms : List (Raw × List Ent)}
attribute [-go_sem] loadCells
set_option maxRecDepth 8000 in
set_option maxHeartbeats 6400000 in
theorem does_0 (h : Bt F w0 w b d M r es big r.rm ms) (g : Good r) (mk : MkOk r es ms) (hb : big ≤ 9000) (c : Cl) (hk : c.kind = 0) :
    Calls Tryd.prog 24 #[.pointer (some ⟨b, 0, none⟩), .agg c.cells.toArray] w (DoesP F w0 w b d big r es ms c.kind) := by
  have H0 := Lib.hid (h.box (.cells c.cells.toArray 53))
  have HB := Lib.hid (heap_alloc_new w (.cells c.cells.toArray 53))
  have HG := Lib.hid g
  have HMk := Lib.hid mk
  have HNa := Lib.hid (And.intro g.na (And.intro g.nk (And.intro g.s0 g.s1)))
  have HNr := Lib.hid (show r.rm.accs.length ≤ 100000 ∧ r.rm.kept.length ≤ 100000 ∧ 0 ≤ r.rm.stamp ∧ r.rm.stamp ≤ 4611686018427387904 from by have := g.na; have := g.nk; have := g.s0; have := g.s1; show r.accs.length ≤ _ ∧ r.kept.length ≤ _ ∧ 0 ≤ r.stamp ∧ r.stamp ≤ _; omega)
  have HFn := Lib.hid (show ∀ k, F k → k < w.heap.size from fun k hk => by obtain ⟨lab, q, mv, wv, id, st, h⟩ := h; exact (h.ff k hk).2.2)
  obtain ⟨b0, b1⟩ := H0.out.cells
  obtain ⟨l1, l2, l3, l4, k0, k47, k50⟩ := cl_loads (P := Tryd.prog) (W := (w.alloc (.cells c.cells.toArray 53)).drew) (blk_drew HB.out)
  have k0 : (w.alloc (.cells c.cells.toArray 53)).cell? ⟨w.heap.size, 0, none⟩ = some (.int .i64 0) := by rw [← hk]; exact k0
  have HK := Lib.hid hk
  have HOb := Lib.hid (btOpen (H0.out.frF (Fr.refl _ _).drew) HG.out c.account (by omega))
  clear h g mk hk
  go_enter Tryd.func24, Tryd.ntmps24
  go_upto_region 3 with fail
  go_region_held3 (fun w' => w'.cell? ⟨b, 0, none⟩ = some (Value.pointer (some ⟨d.B, 0, none⟩)) ∧ w'.cell? ⟨b, 1, none⟩ = some (Value.pointer (some ⟨M, 0, none⟩)) ∧ (loadCells ⟨w.heap.size, 1, none⟩ 14).run Tryd.prog w' = .ok c.account.cells.toArray w')
    (first | exact ⟨b0, b1, l1⟩ | exact ⟨q0, q1, m1⟩ | go_keep)
    (first
      | (go_at_call 16; go_must (with_reducible refine HOb.out.mono ?_); rintro e w2 ⟨c2, r2, es2, rfl, hr2, h2, f2⟩; obtain ⟨q0, q1⟩ := h2.cells; have bb := f2.blk (blk_drew HB.out) (fun hn => hn (.inr rfl)); obtain ⟨m1, m2, m3, m4, j0, j47, j50⟩ := cl_loads (P := Tryd.prog) (W := w2) bb; have H2 := Lib.hid h2; have F2 := Lib.hid f2; have HR2 := Lib.hid hr2; have BB := Lib.hid bb; clear h2 f2 hr2 bb)
      | (go_at_call 73; go_must (with_reducible refine (bmOpen H2.out c.account HNr.out.1 HNr.out.2.2.1 HNr.out.2.2.2).mono ?_); rintro e w3 ⟨c3, m3', rfl, hr3, h3, f3⟩; obtain ⟨rfl, rfl⟩ := open_match HG.out HR2.out hr3; obtain ⟨q0, q1⟩ := h3.cells; have bb := f3.blk BB.out (fun hn => hn (.inr rfl)); obtain ⟨m1, m2, m3, m4, j0, j47, j50⟩ := cl_loads (P := Tryd.prog) (W := w3) bb; have H3 := Lib.hid h3; have F3 := Lib.hid f3; clear h3 f3 bb hr3))
  go_wp2_with fail
  go_ret
  obtain ⟨g2, bk⟩ := open_good HG.out HR2.out
  refine ⟨by first | rfl | simp, M, r2, es2, ms, (H3.out.more (Nat.le_succ _)).less (fun k hk => .inl hk), g2, mk_step HMk.out bk, fun _ => ⟨rfl, bk⟩, ?_, Nat.le_succ _⟩
  have fa : Fr (fun k => ¬ F k) w (w.alloc (.cells c.cells.toArray 53)).drew := ((Fr.refl _ w).alloc _).drew
  exact (fa.then_ F2.out (fun k hk => .inl (fun hF => hk (.inl hF)))).then_ F3.out (fun k hk => .inl (fun hF => hk (.inl hF)))
set_option maxRecDepth 8000 in
set_option maxHeartbeats 6400000 in
theorem does_1 (h : Bt F w0 w b d M r es big r.rm ms) (g : Good r) (mk : MkOk r es ms) (hb : big ≤ 9000) (c : Cl) (hk : c.kind = 1) :
    Calls Tryd.prog 24 #[.pointer (some ⟨b, 0, none⟩), .agg c.cells.toArray] w (DoesP F w0 w b d big r es ms c.kind) := by
  have H0 := Lib.hid (h.box (.cells c.cells.toArray 53))
  have HB := Lib.hid (heap_alloc_new w (.cells c.cells.toArray 53))
  have HG := Lib.hid g
  have HMk := Lib.hid mk
  have HNa := Lib.hid (And.intro g.na (And.intro g.nk (And.intro g.s0 g.s1)))
  have HNr := Lib.hid (show r.rm.accs.length ≤ 100000 ∧ r.rm.kept.length ≤ 100000 ∧ 0 ≤ r.rm.stamp ∧ r.rm.stamp ≤ 4611686018427387904 from by have := g.na; have := g.nk; have := g.s0; have := g.s1; show r.accs.length ≤ _ ∧ r.kept.length ≤ _ ∧ 0 ≤ r.stamp ∧ r.stamp ≤ _; omega)
  have HFn := Lib.hid (show ∀ k, F k → k < w.heap.size from fun k hk => by obtain ⟨lab, q, mv, wv, id, st, h⟩ := h; exact (h.ff k hk).2.2)
  obtain ⟨b0, b1⟩ := H0.out.cells
  obtain ⟨l1, l2, l3, l4, k0, k47, k50⟩ := cl_loads (P := Tryd.prog) (W := (w.alloc (.cells c.cells.toArray 53)).drew) (blk_drew HB.out)
  have k0 : (w.alloc (.cells c.cells.toArray 53)).cell? ⟨w.heap.size, 0, none⟩ = some (.int .i64 1) := by rw [← hk]; exact k0
  have HK := Lib.hid hk
  have HOb := Lib.hid (btTurn (H0.out.frF (Fr.refl _ _).drew) HG.out c.account (by omega))
  clear h g mk hk
  go_enter Tryd.func24, Tryd.ntmps24
  go_upto_region 5 with fail
  go_region_held3 (fun w' => w'.cell? ⟨b, 0, none⟩ = some (Value.pointer (some ⟨d.B, 0, none⟩)) ∧ w'.cell? ⟨b, 1, none⟩ = some (Value.pointer (some ⟨M, 0, none⟩)) ∧ (loadCells ⟨w.heap.size, 1, none⟩ 14).run Tryd.prog w' = .ok c.account.cells.toArray w')
    (first | exact ⟨b0, b1, l1⟩ | exact ⟨q0, q1, m1⟩ | go_keep)
    (first
      | (go_at_call 40; go_must (with_reducible refine HOb.out.mono ?_); rintro e w2 ⟨c2, r2, es2, rfl, hr2, h2, f2⟩; obtain ⟨q0, q1⟩ := h2.cells; have bb := f2.blk (blk_drew HB.out) (fun hn => hn (.inr rfl)); obtain ⟨m1, m2, m3, m4, j0, j47, j50⟩ := cl_loads (P := Tryd.prog) (W := w2) bb; have H2 := Lib.hid h2; have F2 := Lib.hid f2; have HR2 := Lib.hid hr2; have BB := Lib.hid bb; clear h2 f2 hr2 bb)
      | (go_at_call 74; go_must (with_reducible refine (bmTurn H2.out c.account HNr.out.1).mono ?_); rintro e w3 ⟨c3, m3', rfl, hr3, h3, f3⟩; obtain ⟨rfl, rfl⟩ := turn_match HG.out HR2.out hr3; obtain ⟨q0, q1⟩ := h3.cells; have bb := f3.blk BB.out (fun hn => hn (.inr rfl)); obtain ⟨m1, m2, m3, m4, j0, j47, j50⟩ := cl_loads (P := Tryd.prog) (W := w3) bb; have H3 := Lib.hid h3; have F3 := Lib.hid f3; clear h3 f3 bb hr3))
  go_wp2_with fail
  go_ret
  obtain ⟨g2, bk⟩ := turn_good HG.out HR2.out
  refine ⟨by first | rfl | simp, M, r2, es2, ms, (H3.out.more (Nat.le_succ _)).less (fun k hk => .inl hk), g2, mk_step HMk.out bk, fun _ => ⟨rfl, bk⟩, ?_, Nat.le_succ _⟩
  have fa : Fr (fun k => ¬ F k) w (w.alloc (.cells c.cells.toArray 53)).drew := ((Fr.refl _ w).alloc _).drew
  exact (fa.then_ F2.out (fun k hk => .inl (fun hF => hk (.inl hF)))).then_ F3.out (fun k hk => .inl (fun hF => hk (.inl hF)))
set_option maxRecDepth 8000 in
set_option maxHeartbeats 6400000 in
theorem does_2 (h : Bt F w0 w b d M r es big r.rm ms) (g : Good r) (mk : MkOk r es ms) (hb : big ≤ 9000) (c : Cl) (hk : c.kind = 2) :
    Calls Tryd.prog 24 #[.pointer (some ⟨b, 0, none⟩), .agg c.cells.toArray] w (DoesP F w0 w b d big r es ms c.kind) := by
  have H0 := Lib.hid (h.box (.cells c.cells.toArray 53))
  have HB := Lib.hid (heap_alloc_new w (.cells c.cells.toArray 53))
  have HG := Lib.hid g
  have HMk := Lib.hid mk
  have HNa := Lib.hid (And.intro g.na (And.intro g.nk (And.intro g.s0 g.s1)))
  have HNr := Lib.hid (show r.rm.accs.length ≤ 100000 ∧ r.rm.kept.length ≤ 100000 ∧ 0 ≤ r.rm.stamp ∧ r.rm.stamp ≤ 4611686018427387904 from by have := g.na; have := g.nk; have := g.s0; have := g.s1; show r.accs.length ≤ _ ∧ r.kept.length ≤ _ ∧ 0 ≤ r.stamp ∧ r.stamp ≤ _; omega)
  have HFn := Lib.hid (show ∀ k, F k → k < w.heap.size from fun k hk => by obtain ⟨lab, q, mv, wv, id, st, h⟩ := h; exact (h.ff k hk).2.2)
  obtain ⟨b0, b1⟩ := H0.out.cells
  obtain ⟨l1, l2, l3, l4, k0, k47, k50⟩ := cl_loads (P := Tryd.prog) (W := (w.alloc (.cells c.cells.toArray 53)).drew) (blk_drew HB.out)
  have k0 : (w.alloc (.cells c.cells.toArray 53)).cell? ⟨w.heap.size, 0, none⟩ = some (.int .i64 2) := by rw [← hk]; exact k0
  have HK := Lib.hid hk
  have HOb := Lib.hid (btKeep (H0.out.frF (Fr.refl _ _).drew) HG.out c.asked c.move c.waits (by omega))
  clear h g mk hk
  go_enter Tryd.func24, Tryd.ntmps24
  go_upto_region 7 with fail
  go_region_held3 (fun w' => w'.cell? ⟨b, 0, none⟩ = some (Value.pointer (some ⟨d.B, 0, none⟩)) ∧ w'.cell? ⟨b, 1, none⟩ = some (Value.pointer (some ⟨M, 0, none⟩)) ∧ (loadCells ⟨w.heap.size, 15, none⟩ 16).run Tryd.prog w' = .ok c.asked.cells.toArray w' ∧ (loadCells ⟨w.heap.size, 31, none⟩ 16).run Tryd.prog w' = .ok c.move.cells.toArray w' ∧ w'.cell? ⟨w.heap.size, 47, none⟩ = some (Value.bool c.waits))
    (first | exact ⟨b0, b1, l2, l3, k47⟩ | exact ⟨q0, q1, m2, m3, j47⟩ | go_keep)
    (first
      | (go_at_call 18; go_must (with_reducible refine HOb.out.mono ?_); rintro e w2 ⟨c2, r2, es2, rfl, hr2, h2, f2⟩; obtain ⟨q0, q1⟩ := h2.cells; have bb := f2.blk (blk_drew HB.out) (fun hn => hn (.inr rfl)); obtain ⟨m1, m2, m3, m4, j0, j47, j50⟩ := cl_loads (P := Tryd.prog) (W := w2) bb; have H2 := Lib.hid h2; have F2 := Lib.hid f2; have HR2 := Lib.hid hr2; have BB := Lib.hid bb; clear h2 f2 hr2 bb)
      | (go_at_call 75; go_must (with_reducible refine (bmKeep H2.out c.asked c.move c.waits HNr.out.2.1 HNr.out.2.2.1 HNr.out.2.2.2).mono ?_); rintro e w3 ⟨c3, m3', rfl, hr3, h3, f3⟩; obtain ⟨rfl, rfl⟩ := keep_match HG.out HR2.out hr3; obtain ⟨q0, q1⟩ := h3.cells; have bb := f3.blk BB.out (fun hn => hn (.inr rfl)); obtain ⟨m1, m2, m3, m4, j0, j47, j50⟩ := cl_loads (P := Tryd.prog) (W := w3) bb; have H3 := Lib.hid h3; have F3 := Lib.hid f3; clear h3 f3 bb hr3))
  go_wp2_with fail
  go_ret
  obtain ⟨g2, bk⟩ := keep_good HG.out HR2.out
  refine ⟨by first | rfl | simp, M, r2, es2, ms, (H3.out.more (Nat.le_succ _)).less (fun k hk => .inl hk), g2, mk_step HMk.out bk, fun _ => ⟨rfl, bk⟩, ?_, Nat.le_succ _⟩
  have fa : Fr (fun k => ¬ F k) w (w.alloc (.cells c.cells.toArray 53)).drew := ((Fr.refl _ w).alloc _).drew
  exact (fa.then_ F2.out (fun k hk => .inl (fun hF => hk (.inl hF)))).then_ F3.out (fun k hk => .inl (fun hF => hk (.inl hF)))
set_option maxRecDepth 8000 in
set_option maxHeartbeats 6400000 in
theorem does_3 (h : Bt F w0 w b d M r es big r.rm ms) (g : Good r) (mk : MkOk r es ms) (hb : big ≤ 9000) (c : Cl) (hk : c.kind = 3) :
    Calls Tryd.prog 24 #[.pointer (some ⟨b, 0, none⟩), .agg c.cells.toArray] w (DoesP F w0 w b d big r es ms c.kind) := by
  have H0 := Lib.hid (h.box (.cells c.cells.toArray 53))
  have HB := Lib.hid (heap_alloc_new w (.cells c.cells.toArray 53))
  have HG := Lib.hid g
  have HMk := Lib.hid mk
  have HNa := Lib.hid (And.intro g.na (And.intro g.nk (And.intro g.s0 g.s1)))
  have HNr := Lib.hid (show r.rm.accs.length ≤ 100000 ∧ r.rm.kept.length ≤ 100000 ∧ 0 ≤ r.rm.stamp ∧ r.rm.stamp ≤ 4611686018427387904 from by have := g.na; have := g.nk; have := g.s0; have := g.s1; show r.accs.length ≤ _ ∧ r.kept.length ≤ _ ∧ 0 ≤ r.stamp ∧ r.stamp ≤ _; omega)
  have HFn := Lib.hid (show ∀ k, F k → k < w.heap.size from fun k hk => by obtain ⟨lab, q, mv, wv, id, st, h⟩ := h; exact (h.ff k hk).2.2)
  obtain ⟨b0, b1⟩ := H0.out.cells
  obtain ⟨l1, l2, l3, l4, k0, k47, k50⟩ := cl_loads (P := Tryd.prog) (W := (w.alloc (.cells c.cells.toArray 53)).drew) (blk_drew HB.out)
  have k0 : (w.alloc (.cells c.cells.toArray 53)).cell? ⟨w.heap.size, 0, none⟩ = some (.int .i64 3) := by rw [← hk]; exact k0
  have HK := Lib.hid hk
  have HOb := Lib.hid (btEnd (H0.out.frF (Fr.refl _ _).drew) HG.out c.id c.n (by omega))
  clear h g mk hk
  go_enter Tryd.func24, Tryd.ntmps24
  go_upto_region 9 with fail
  go_region_held3 (fun w' => w'.cell? ⟨b, 0, none⟩ = some (Value.pointer (some ⟨d.B, 0, none⟩)) ∧ w'.cell? ⟨b, 1, none⟩ = some (Value.pointer (some ⟨M, 0, none⟩)) ∧ (loadCells ⟨w.heap.size, 48, none⟩ 2).run Tryd.prog w' = .ok #[.int .u64 c.id.hi, .int .u64 c.id.lo] w' ∧ w'.cell? ⟨w.heap.size, 50, none⟩ = some (Value.int .i64 c.n))
    (first | exact ⟨b0, b1, l4, k50⟩ | exact ⟨q0, q1, m4, j50⟩ | go_keep)
    (first
      | (go_at_call 41; go_must (with_reducible refine HOb.out.mono ?_); rintro e w2 ⟨c2, r2, es2, rfl, hr2, h2, f2⟩; obtain ⟨q0, q1⟩ := h2.cells; have bb := f2.blk (blk_drew HB.out) (fun hn => hn (.inr rfl)); obtain ⟨m1, m2, m3, m4, j0, j47, j50⟩ := cl_loads (P := Tryd.prog) (W := w2) bb; have H2 := Lib.hid h2; have F2 := Lib.hid f2; have HR2 := Lib.hid hr2; have BB := Lib.hid bb; clear h2 f2 hr2 bb)
      | (go_at_call 76; go_must (with_reducible refine (bmEnd H2.out c.id c.n HNr.out.2.1).mono ?_); rintro e w3 ⟨c3, m3', rfl, hr3, h3, f3⟩; obtain ⟨rfl, rfl⟩ := end_match HG.out HR2.out hr3; obtain ⟨q0, q1⟩ := h3.cells; have bb := f3.blk BB.out (fun hn => hn (.inr rfl)); obtain ⟨m1, m2, m3, m4, j0, j47, j50⟩ := cl_loads (P := Tryd.prog) (W := w3) bb; have H3 := Lib.hid h3; have F3 := Lib.hid f3; clear h3 f3 bb hr3))
  go_wp2_with fail
  go_ret
  obtain ⟨g2, bk⟩ := end_good HG.out HR2.out
  refine ⟨by first | rfl | simp, M, r2, es2, ms, (H3.out.more (Nat.le_succ _)).less (fun k hk => .inl hk), g2, mk_step HMk.out bk, fun _ => ⟨rfl, bk⟩, ?_, Nat.le_succ _⟩
  have fa : Fr (fun k => ¬ F k) w (w.alloc (.cells c.cells.toArray 53)).drew := ((Fr.refl _ w).alloc _).drew
  exact (fa.then_ F2.out (fun k hk => .inl (fun hF => hk (.inl hF)))).then_ F3.out (fun k hk => .inl (fun hF => hk (.inl hF)))
set_option maxRecDepth 8000 in
set_option maxHeartbeats 6400000 in
theorem does_4 (h : Bt F w0 w b d M r es big r.rm ms) (g : Good r) (mk : MkOk r es ms) (hb : big ≤ 9000) (c : Cl) (hk : c.kind = 4) :
    Calls Tryd.prog 24 #[.pointer (some ⟨b, 0, none⟩), .agg c.cells.toArray] w (DoesP F w0 w b d big r es ms c.kind) := by
  have H0 := Lib.hid (h.box (.cells c.cells.toArray 53))
  have HB := Lib.hid (heap_alloc_new w (.cells c.cells.toArray 53))
  have HG := Lib.hid g
  have HMk := Lib.hid mk
  have HNa := Lib.hid (And.intro g.na (And.intro g.nk (And.intro g.s0 g.s1)))
  have HNr := Lib.hid (show r.rm.accs.length ≤ 100000 ∧ r.rm.kept.length ≤ 100000 ∧ 0 ≤ r.rm.stamp ∧ r.rm.stamp ≤ 4611686018427387904 from by have := g.na; have := g.nk; have := g.s0; have := g.s1; show r.accs.length ≤ _ ∧ r.kept.length ≤ _ ∧ 0 ≤ r.stamp ∧ r.stamp ≤ _; omega)
  have HFn := Lib.hid (show ∀ k, F k → k < w.heap.size from fun k hk => by obtain ⟨lab, q, mv, wv, id, st, h⟩ := h; exact (h.ff k hk).2.2)
  obtain ⟨b0, b1⟩ := H0.out.cells
  obtain ⟨l1, l2, l3, l4, k0, k47, k50⟩ := cl_loads (P := Tryd.prog) (W := (w.alloc (.cells c.cells.toArray 53)).drew) (blk_drew HB.out)
  have k0 : (w.alloc (.cells c.cells.toArray 53)).cell? ⟨w.heap.size, 0, none⟩ = some (.int .i64 4) := by rw [← hk]; exact k0
  have HK := Lib.hid hk
  have HOb := Lib.hid (btTime (H0.out.frF (Fr.refl _ _).drew) c.n (by omega))
  clear h g mk hk
  go_enter Tryd.func24, Tryd.ntmps24
  go_upto_region 11 with fail
  go_region_held3 (fun w' => w'.cell? ⟨b, 0, none⟩ = some (Value.pointer (some ⟨d.B, 0, none⟩)) ∧ w'.cell? ⟨w.heap.size, 50, none⟩ = some (Value.int .i64 c.n))
    (first | exact ⟨b0, k50⟩ | exact ⟨q0, j50⟩ | go_keep)
    (first
      | (go_at_call 39; go_must (with_reducible refine HOb.out.mono ?_); rintro e w2 ⟨rfl, r2, es2, hr2, h2, f2⟩; obtain ⟨q0, q1⟩ := h2.cells; have bb := f2.blk (blk_drew HB.out) (fun hn => hn (.inr rfl)); have j50 := (cl_loads (P := Tryd.prog) (W := w2) bb).2.2.2.2.2.2; have H2 := Lib.hid h2; have F2 := Lib.hid f2; have HR2 := Lib.hid hr2; have BB := Lib.hid bb; clear h2 f2 hr2 bb))
  clear b0 b1 k0 k47 k50 l1 l2 l3 l4
  have HOm := Lib.hid (bmTime (H2.out.frF (Fr.refl _ _).drew) c.n)
  go_upto_region 12 with fail
  go_region_held3 (fun w' => w'.cell? ⟨b, 1, none⟩ = some (Value.pointer (some ⟨M, 0, none⟩)) ∧ w'.cell? ⟨w.heap.size, 50, none⟩ = some (Value.int .i64 c.n))
    (first | exact ⟨q1, j50⟩ | exact ⟨p1, i50⟩ | go_keep)
    (first
      | (go_at_call 77; go_must (with_reducible refine HOm.out.mono ?_); rintro e w3 ⟨rfl, h3, f3⟩; rw [time_match HR2.out] at h3; obtain ⟨p0, p1⟩ := h3.cells; have bb := f3.blk (blk_drew BB.out) (fun hn => hn (.inr rfl)); have i50 := (cl_loads (P := Tryd.prog) (W := w3) bb).2.2.2.2.2.2; have H3 := Lib.hid h3; have F3 := Lib.hid f3; clear h3 f3 bb))
  go_wp2_with fail
  go_ret
  obtain ⟨g2, bk⟩ := time_good HG.out HR2.out
  refine ⟨rfl, M, r2, es2, ms, (H3.out.more (Nat.le_succ _)).less (fun k hk => .inl hk), g2, mk_step HMk.out bk, fun _ => ⟨rfl, bk⟩, ?_, Nat.le_succ _⟩
  have fa : Fr (fun k => ¬ F k) w (w.alloc (.cells c.cells.toArray 53)).drew := ((Fr.refl _ w).alloc _).drew
  exact ((fa.then_ F2.out (fun k hk => .inl (fun hF => hk (.inl hF)))).drew).then_ F3.out (fun k hk => .inl (fun hF => hk (.inl hF)))
set_option maxRecDepth 8000 in
set_option maxHeartbeats 6400000 in
theorem does_x (h : Bt F w0 w b d M r es big r.rm ms) (g : Good r) (mk : MkOk r es ms) (hb : big ≤ 9000) (c : Cl) (hk : c.kind < 0 ∨ 6 < c.kind) :
    Calls Tryd.prog 24 #[.pointer (some ⟨b, 0, none⟩), .agg c.cells.toArray] w (DoesP F w0 w b d big r es ms c.kind) := by
  have H0 := Lib.hid (h.box (.cells c.cells.toArray 53))
  have HB := Lib.hid (heap_alloc_new w (.cells c.cells.toArray 53))
  have HG := Lib.hid g
  have HMk := Lib.hid mk
  have HNa := Lib.hid (And.intro g.na (And.intro g.nk (And.intro g.s0 g.s1)))
  have HNr := Lib.hid (show r.rm.accs.length ≤ 100000 ∧ r.rm.kept.length ≤ 100000 ∧ 0 ≤ r.rm.stamp ∧ r.rm.stamp ≤ 4611686018427387904 from by have := g.na; have := g.nk; have := g.s0; have := g.s1; show r.accs.length ≤ _ ∧ r.kept.length ≤ _ ∧ 0 ≤ r.stamp ∧ r.stamp ≤ _; omega)
  have HFn := Lib.hid (show ∀ k, F k → k < w.heap.size from fun k hk => by obtain ⟨lab, q, mv, wv, id, st, h⟩ := h; exact (h.ff k hk).2.2)
  obtain ⟨b0, b1⟩ := H0.out.cells
  obtain ⟨l1, l2, l3, l4, k0, k47, k50⟩ := cl_loads (P := Tryd.prog) (W := (w.alloc (.cells c.cells.toArray 53)).drew) (blk_drew HB.out)
  have HK := Lib.hid hk
  obtain ⟨k, hkk⟩ : ∃ k, c.kind = k := ⟨_, rfl⟩
  rw [hkk] at k0 hk
  have k0 : (w.alloc (.cells c.cells.toArray 53)).cell? ⟨w.heap.size, 0, none⟩ = some (.int .i64 k) := k0
  have HKk := Lib.hid hkk
  have e0 : (k == 0) = false := by simp; omega
  have e1 : (k == 1) = false := by simp; omega
  have e2 : (k == 2) = false := by simp; omega
  have e3 : (k == 3) = false := by simp; omega
  have e4 : (k == 4) = false := by simp; omega
  have e5 : (k == 5) = false := by simp; omega
  have e6 : (k == 6) = false := by simp; omega
  clear h g mk hk hkk
  go_enter Tryd.func24, Tryd.ntmps24
  go_wp2_with fail
  go_ret
  exact ⟨rfl, M, r, es, ms, (H0.out.more (by omega)).less (fun k hk => .inl hk), HG.out, HMk.out, fun _ => ⟨rfl, .refl _ _⟩, (Fr.refl _ w).alloc _, Nat.le_succ _⟩
end
end Go.Proofs.YtjchjpmgbmeohaaDoor

/- Both sides: a mark is told, or taken back to. -/
set_option linter.unusedSimpArgs false
set_option linter.unusedVariables false
namespace Go.Proofs.YtjchjpmgbmeohaaDoor
open Go.RowKit

theorem fresh_id (l : List Nat) : ∃ j, 2 ≤ j ∧ ∀ i ∈ l, i < j := by
  induction l with
  | nil => exact ⟨2, Nat.le_refl _, fun _ h => by cases h⟩
  | cons x l ih =>
    obtain ⟨j, h2, hj⟩ := ih
    refine ⟨j + x + 1, by omega, fun i hi => ?_⟩
    rcases List.mem_cons.1 hi with rfl | hi
    · omega
    · have := hj i hi; omega
section
variable {F : Nat → Prop} {w0 w W : World} {b : Nat} {d : Dd} {M M2 : Nat} {r : Raw} {es : List Ent} {big : Nat} {m : RM} {ms : List (Raw × List Ent)} {lab q : Nat → Nat} {mv wv mv' wv' : Value} {id : Nat} {st : List (Nat × Nat)} {n1 n2 : Nat}
theorem BtX.push (h : BtX F w0 w b d M r es big m ms lab q mv wv id st) (hmr : m = r.rm) (f : Fr (fun k => k = b ∨ mv.ownBlock = some k ∨ wv.ownBlock = some k) w W) (hb : W.heap[b]? = some (.cells #[.pointer (some ⟨d.B, 0, none⟩), .pointer (some ⟨M, 0, none⟩), mv', wv'] 61 (0, 0)))
    (hm : W.ownsRow 0 3 1 mv' (ms.length + 1) ((ms.reverse.map fun x => Value.int .i64 x.2.length) ++ [.int .i64 es.length])) (hw : W.ownsRow 0 57 1 wv' (ms.length + 1) ((st.reverse.map fun p => Value.pointer (some ⟨p.2, 0, none⟩)) ++ [.pointer (some ⟨M2, 0, none⟩)]))
    (lm : ∀ k, mv'.ownBlock = some k → mv.ownBlock = some k ∨ (w.heap.size ≤ k ∧ k < n1)) (lw : ∀ k, wv'.ownBlock = some k → wv.ownBlock = some k ∨ n2 ≤ k) (hc : MS W (fun k => n1 ≤ k ∧ k < n2) M2 m) (a1 : w.heap.size ≤ n1) (a2 : n1 ≤ n2) (a3 : n2 ≤ W.heap.size) : Bt F w0 W b d M r es big m ((r, es) :: ms) := by
  obtain ⟨id2, i2, hid⟩ := fresh_id (id :: st.map (·.1))
  have q1 : ∀ k, (k = b ∨ mv.ownBlock = some k ∨ wv.ownBlock = some k) → q k = 1 := fun k hk => by
    rcases hk with rfl | hk | hk
    · exact h.qb
    · exact (h.qm k hk).1
    · exact (h.qw k hk).1
  have hl0 : ∀ k, (k = b ∨ mv.ownBlock = some k ∨ wv.ownBlock = some k) → lab k = 0 := fun k hk => (h.q0 k (by rw [q1 k hk]; decide)).1
  have hfs := f.size
  obtain ⟨Q, hQ⟩ : ∃ Q : Nat → Nat, Q = fun k => if k < w.heap.size then q k else if n1 ≤ k ∧ k < n2 then id2 else if k < W.heap.size then 1 else 0 := ⟨_, rfl⟩
  have Qold : ∀ k, k < w.heap.size → Q k = q k := fun k hk => by rw [hQ]; exact if_pos hk
  have Qq : ∀ (j k : Nat), j ≠ 0 → q k = j → Q k = j := fun j k hj hk => by rw [Qold k (h.q0 k (by rw [hk]; exact hj)).2.2, hk]
  have Qnew : ∀ k, n1 ≤ k → k < n2 → Q k = id2 := fun k h1 h2 => by
    rw [hQ]
    show (if k < w.heap.size then q k else _) = _
    rw [if_neg (by omega), if_pos ⟨h1, h2⟩]
  have Qone : ∀ k, w.heap.size ≤ k → ¬ (n1 ≤ k ∧ k < n2) → k < W.heap.size → Q k = 1 := fun k h1 h2 h3 => by
    rw [hQ]
    show (if k < w.heap.size then q k else _) = _
    rw [if_neg (by omega), if_neg h2, if_pos h3]
  have Qlt : ∀ k, Q k ≠ 0 → k < W.heap.size := fun k hk => by
    by_cases hlt : k < w.heap.size
    · omega
    · by_cases h2 : n1 ≤ k ∧ k < n2
      · omega
      · by_cases h3 : k < W.heap.size
        · exact h3
        · exfalso; apply hk; rw [hQ]; show (if k < w.heap.size then q k else _) = 0; rw [if_neg hlt, if_neg h2, if_neg h3]
  have hb1 : b < w.heap.size := (h.q0 b (by rw [h.qb]; decide)).2.2
  have nb : ∀ p ∈ (id :: st.map (·.1)), ∀ k, q k = p → ¬ (k = b ∨ mv.ownBlock = some k ∨ wv.ownBlock = some k) := fun p hp k hk hs => by
    have := h.two p hp
    rw [q1 k hs] at hk
    omega
  refine ⟨lab, Q, mv', wv', id, (id2, M2) :: st, ⟨h.sta.fr f hl0, hb, by rw [List.reverse_cons, List.map_append]; exact hm, by rw [List.reverse_cons, List.map_append]; exact hw, by simp [h.len], (h.cur.fr f (nb id (List.mem_cons_self ..))).mono (fun k hk => Qq id k (by have := h.two id (List.mem_cons_self ..); omega) hk) (fun k hk => Qlt k (by have hk : Q k = id := hk; have := h.two id (List.mem_cons_self ..); omega)), fun i p x hp hx => ?_, ?_, fun j hj => ?_, Qq 1 b (by decide) h.qb, fun k hk => ?_, fun k hk => ?_, fun k hk hk2 => ?_, fun k hk => ?_, h.l0, h.fr.then_ f (fun k hk => .inr (h.q0 k (by rw [q1 k hk]; decide)).2.1), fun k hk => ?_⟩⟩
  · cases i with
    | zero =>
      simp only [List.getElem?_cons_zero, Option.some.injEq] at hp hx
      subst hp hx
      rw [← hmr]
      exact hc.mono (fun k hk => Qnew k hk.1 hk.2) (fun k hk => Qlt k (by have hk : Q k = id2 := hk; omega))
    | succ i =>
      simp only [List.getElem?_cons_succ] at hp hx
      have hpm : p.1 ∈ id :: st.map (·.1) := List.mem_cons_of_mem _ (List.mem_map.2 ⟨p, List.mem_of_getElem? hp, rfl⟩)
      have h2 := h.two p.1 hpm
      exact ((h.old i p x hp hx).fr f (nb p.1 hpm)).mono (fun k hk => Qq p.1 k (by omega) hk) (fun k hk => Qlt k (by have hk : Q k = p.1 := hk; omega))
  · have hnd := h.nd
    rw [List.nodup_cons] at hnd
    rw [List.map_cons, List.nodup_cons, List.nodup_cons]
    refine ⟨fun hm => ?_, fun hm => ?_, hnd.2⟩
    · rcases List.mem_cons.1 hm with e | hm
      · have := hid id (List.mem_cons_self ..); omega
      · exact hnd.1 hm
    · have := hid id2 (List.mem_cons_of_mem _ hm); omega
  · rw [List.map_cons] at hj
    rcases List.mem_cons.1 hj with rfl | hj
    · exact h.two _ (List.mem_cons_self ..)
    · rcases List.mem_cons.1 hj with rfl | hj
      · exact i2
      · exact h.two j (List.mem_cons_of_mem _ hj)
  · rcases lm k hk with h1 | h1
    · exact ⟨Qq 1 k (by decide) (h.qm k h1).1, (h.qm k h1).2⟩
    · exact ⟨Qone k h1.1 (by omega) (own_lt hm hk), by omega⟩
  · rcases lw k hk with h1 | h1
    · exact ⟨Qq 1 k (by decide) (h.qw k h1).1, (h.qw k h1).2⟩
    · exact ⟨Qone k (by omega) (by omega) (own_lt hw hk), by omega⟩
  · rcases lm k hk with h1 | h1
    · have := (h.q0 k (by rw [(h.qm k h1).1]; decide)).2.2
      rcases lw k hk2 with h2 | h2
      · exact h.mw k h1 h2
      · omega
    · rcases lw k hk2 with h2 | h2
      · have := (h.q0 k (by rw [(h.qw k h2).1]; decide)).2.2; omega
      · omega
  · by_cases hlt : k < w.heap.size
    · rw [Qold k hlt] at hk
      obtain ⟨h1, h2, h3⟩ := h.q0 k hk
      exact ⟨h1, h2, by omega⟩
    · exact ⟨h.sta.free (by omega), by have := h.fr.size; omega, Qlt k hk⟩
  · obtain ⟨h1, h2, h3⟩ := h.ff k hk
    exact ⟨h1, by rw [Qold k h3, h2], by omega⟩
theorem BtX.pop {x : Raw × List Ent} {p : Nat × Nat} {am aw : Option Addr} {cm cw : Nat} (h : BtX F w0 w b d M r es big m (x :: ms) lab q (.slice am (ms.length + 1) cm) (.slice aw (ms.length + 1) cw) id (p :: st)) (hxr : x.1 = r) :
    Bt F w0 (((w.setCell ⟨b, 1, none⟩ (.pointer (some ⟨p.2, 0, none⟩))).setCell ⟨b, 2, none⟩ (.slice am ms.length cm)).setCell ⟨b, 3, none⟩ (.slice aw ms.length cw)) b d p.2 r es big r.rm ms ∧ Fr (fun k => k = b) w (((w.setCell ⟨b, 1, none⟩ (.pointer (some ⟨p.2, 0, none⟩))).setCell ⟨b, 2, none⟩ (.slice am ms.length cm)).setCell ⟨b, 3, none⟩ (.slice aw ms.length cw)) := by
  have f : Fr (fun k => k = b) w (((w.setCell ⟨b, 1, none⟩ (.pointer (some ⟨p.2, 0, none⟩))).setCell ⟨b, 2, none⟩ (.slice am ms.length cm)).setCell ⟨b, 3, none⟩ (.slice aw ms.length cw)) := (((Fr.refl (fun k => k = b) w).set1 _).set1 _).set1 _
  have hq1 : ∀ k, q k ≠ 1 → ¬ k = b := fun k hk e => hk (by rw [e]; exact h.qb)
  have hlm : ∀ k, (Value.slice am ms.length cm).ownBlock = some k → (Value.slice am (ms.length + 1) cm).ownBlock = some k := fun k hk => by cases am with | none => cases hk | some a => exact hk
  have hlw : ∀ k, (Value.slice aw ms.length cw).ownBlock = some k → (Value.slice aw (ms.length + 1) cw).ownBlock = some k := fun k hk => by cases aw with | none => cases hk | some a => exact hk
  have hpl : st.length = ms.length := by have := h.len; simpa using this
  have hm := own_cut h.mrk rfl (show ms.length ≤ ms.length + 1 from Nat.le_succ _)
  have hw := own_cut h.was rfl (show ms.length ≤ ms.length + 1 from Nat.le_succ _)
  rw [List.reverse_cons, List.map_append, Nat.mul_one, List.take_left' (by simp)] at hm
  rw [List.reverse_cons, List.map_append, Nat.mul_one, List.take_left' (by simp [hpl])] at hw
  have hpid : p.1 ∈ id :: (p :: st).map (·.1) := by simp
  have h2p := h.two p.1 hpid
  have hnd := h.nd
  rw [List.map_cons, List.nodup_cons, List.nodup_cons] at hnd
  refine ⟨⟨lab, q, .slice am ms.length cm, .slice aw ms.length cw, p.1, st, ⟨h.sta.fr f (fun k hk => by rw [hk]; exact (h.q0 b (by rw [h.qb]; decide)).1), ?_, own_fr hm f (fun k hk => (h.qm k (hlm k hk)).2), own_fr hw f (fun k hk => (h.qw k (hlw k hk)).2), hpl, ?_, fun i p' x' hp hx => ?_, List.nodup_cons.2 hnd.2, fun j hj => ?_, h.qb, fun k hk => h.qm k (hlm k hk), fun k hk => h.qw k (hlw k hk), fun k hk hk2 => h.mw k (hlm k hk) (hlw k hk2), fun k hk => ?_, h.l0, h.fr.then_ f (fun k hk => .inr (by rw [hk]; exact (h.q0 b (by rw [h.qb]; decide)).2.1)), fun k hk => ?_⟩⟩, f⟩
  · have := blk_set (blk_set (blk_set h.blk 1 (.pointer (some ⟨p.2, 0, none⟩))) 2 (.slice am ms.length cm)) 3 (.slice aw ms.length cw)
    simpa using this
  · have := h.old 0 p x rfl rfl
    rw [hxr] at this
    exact this.fr f (fun k hk => hq1 k (by have hk : q k = p.1 := hk; omega))
  · have hpm : p'.1 ∈ id :: (p :: st).map (·.1) := by
      have : p' ∈ st := List.mem_of_getElem? hp
      simp only [List.map_cons, List.mem_cons, List.mem_map]
      exact .inr (.inr ⟨p', this, rfl⟩)
    have h2 := h.two p'.1 hpm
    exact (h.old (i + 1) p' x' (by simpa using hp) (by simpa using hx)).fr f (fun k hk => hq1 k (by have hk : q k = p'.1 := hk; omega))
  · exact h.two j (List.mem_cons_of_mem _ hj)
  · obtain ⟨h1, h2, h3⟩ := h.q0 k hk
    exact ⟨h1, h2, Nat.lt_of_lt_of_le h3 f.size⟩
  · obtain ⟨h1, h2, h3⟩ := h.ff k hk
    exact ⟨h1, h2, Nat.lt_of_lt_of_le h3 f.size⟩
theorem btBack {x : Raw × List Ent} (h : Bt F w0 w b d M r es big m ms) (hbk : Backs x.1 x.2 r es) (g : Good r) (hb : big ≤ 10000) : Calls Tryd.prog 28 #[.pointer (some ⟨d.B, 0, none⟩), .int .i64 x.2.length] w fun e w' => e = .returned (.tuple #[]) ∧ Bt F w0 w' b d M x.1 x.2 big m ms ∧ Fr (fun k => ¬ F k) w w' := by
  obtain ⟨lab, q, mv, wv, id, st, h⟩ := h
  obtain ⟨news, rfl, hf, hu⟩ := hbk
  have := g.na; have := g.nk
  refine (backS w lab d r news x.2 big h.sta hf (by omega) (by omega) (by omega)).mono fun e w' ⟨he, lab', hs, hp⟩ => ?_
  rw [hu] at hs
  exact ⟨he, h.books hs hp, hp.fr.mono (fun k hk hF => hk.1 (h.ff k hF).1)⟩
theorem btMark (h : Bt F w0 w b d M r es big m ms) : Calls Tryd.prog 27 #[.pointer (some ⟨d.B, 0, none⟩)] w fun e w' => e = .returned (.int .i64 es.length) ∧ Fr (fun _ => False) w w' := by
  obtain ⟨lab, q, mv, wv, id, st, h⟩ := h
  exact markS w lab d r es big h.sta
end
end Go.Proofs.YtjchjpmgbmeohaaDoor

/- Both sides: kinds 5, 6; whatever kind. -/
set_option linter.unusedSimpArgs false
set_option linter.unusedVariables false
namespace Go.Proofs.YtjchjpmgbmeohaaDoor
open Go.RowKit

theorem Tryd.infoInt15 : (Tryd.prog.info? 3).map (fun i => (i.zero, i.size, i.bytes)) = some (some (.int .i64 0), 1, 8) := by kernel_rfl
theorem Tryd.infoPtr15 : (Tryd.prog.info? 57).map (fun i => (i.zero, i.size, i.bytes)) = some (some (.pointer none), 1, 8) := by kernel_rfl
section
variable {F : Nat → Prop} {w0 w : World} {b : Nat} {d : Dd} {M : Nat} {r : Raw} {es : List Ent} {big : Nat} {ms : List (Raw × List Ent)}
attribute [-go_sem] loadCells
set_option maxRecDepth 8000 in
set_option maxHeartbeats 6400000 in
theorem does_5 (h : Bt F w0 w b d M r es big r.rm ms) (g : Good r) (mk : MkOk r es ms) (hb : big ≤ 9000) (c : Cl) (hk : c.kind = 5) (hms : ms.length ≤ 1000) :
    Calls Tryd.prog 24 #[.pointer (some ⟨b, 0, none⟩), .agg c.cells.toArray] w (DoesP F w0 w b d big r es ms c.kind) := by
  have H0 := Lib.hid (h.box (.cells c.cells.toArray 53))
  have HB := Lib.hid (heap_alloc_new w (.cells c.cells.toArray 53))
  have HG := Lib.hid g
  have HMk := Lib.hid mk
  have HNa := Lib.hid (And.intro g.na (And.intro g.nk (And.intro g.s0 g.s1)))
  have HNr := Lib.hid (show r.rm.accs.length ≤ 100000 ∧ r.rm.kept.length ≤ 100000 ∧ 0 ≤ r.rm.stamp ∧ r.rm.stamp ≤ 4611686018427387904 from by have := g.na; have := g.nk; have := g.s0; have := g.s1; show r.accs.length ≤ _ ∧ r.kept.length ≤ _ ∧ 0 ≤ r.stamp ∧ r.stamp ≤ _; omega)
  have HFn := Lib.hid (show ∀ k, F k → k < w.heap.size from fun k hk => by obtain ⟨lab, q, mv, wv, id, st, h⟩ := h; exact (h.ff k hk).2.2)
  obtain ⟨b0, b1⟩ := H0.out.cells
  obtain ⟨l1, l2, l3, l4, k0, k47, k50⟩ := cl_loads (P := Tryd.prog) (W := (w.alloc (.cells c.cells.toArray 53)).drew) (blk_drew HB.out)
  have k0 : (w.alloc (.cells c.cells.toArray 53)).cell? ⟨w.heap.size, 0, none⟩ = some (.int .i64 5) := by rw [← hk]; exact k0
  have HK := Lib.hid hk
  obtain ⟨iI, hiI, h0I, h1I, h2I⟩ := info_parts Tryd.infoInt15
  obtain ⟨iP, hiP, h0P, h1P, h2P⟩ := info_parts Tryd.infoPtr15
  obtain ⟨lab, q, mv, wv, id, st, hx⟩ := H0.out
  obtain ⟨am, cm, rfl, -, -⟩ := own_form hx.mrk
  obtain ⟨aw, cw, rfl, -, -⟩ := own_form hx.was
  have HX := Lib.hid hx
  have b2 := blk_cell hx.blk 2 rfl
  have HLe := Lib.hid hms
  have HMr := Lib.hid (btMark (H0.out.frF (Fr.refl _ _).drew))
  have hbl := blk_lt hx.blk
  clear h g mk hk hx hms
  go_enter Tryd.func24, Tryd.ntmps24
  go_upto_region 14 with fail
  obtain ⟨W, hW⟩ : ∃ W, w.alloc (.cells c.cells.toArray 53) = W := ⟨_, rfl⟩
  have FW := Lib.hid (show Fr (fun k => ¬ F k) w W from by rw [← hW]; exact (Fr.refl _ w).alloc _)
  (try rw [hW])
  rw [hW] at b0 b1 b2 HX HMr hbl
  clear k0 k47 k50 l1 l2 l3 l4 HB hW
  go_cut [] from 6 (fun w' => ∃ mv', w'.heap[b]? = some (.cells #[.pointer (some ⟨d.B, 0, none⟩), .pointer (some ⟨M, 0, none⟩), mv', .slice aw ms.length cw] 61 (0, 0)) ∧ w'.ownsRow 0 3 1 mv' (ms.length + 1) ((ms.reverse.map fun x => Value.int .i64 x.2.length) ++ [.int .i64 es.length]) ∧ (∀ k, mv'.ownBlock = some k → (Value.slice am ms.length cm).ownBlock = some k ∨ W.heap.size ≤ k) ∧ Fr (fun k => k = b ∨ (Value.slice am ms.length cm).ownBlock = some k) W w')
  case first =>
    have Hne := Lib.hid (show ¬ (Value.slice am ms.length cm).ownBlock = some b from fun e => (HX.out.qm b e).2 rfl)
    have HBk := Lib.hid HX.out.blk
    go_region_law (first
        | (go_simp; go_at_call 27; go_must (with_reducible refine HMr.out.mono ?_); rintro e w2 ⟨rfl, f2⟩; have bb := f2.blk (blk_drew HBk.out) (fun h => h); have q0 := blk_cell bb 0 rfl; have q2 := blk_cell bb 2 rfl; have hl2 := blk_lt bb; have Hb2 := Lib.hid bb; have F2 := Lib.hid f2; have HOm := Lib.hid (own_fr (HX.out.mrk.drew) f2 (fun _ _ h => h)); clear f2 bb)
        | ((refine step_append_fresh _ w2 rfl (.tmp 110) (.tmp 116) 58 rfl 3 iI (.int .i64 0) 1 8 Tryd.underlying58 hiI h0I h1I h2I rfl (by decide) (.slice am ms.length cm) ms.length _ (by simp only [Act.eval, Act.put]; rfl) HOm.out #[.int .i64 es.length] rfl (by simp [Act.eval, Act.put]) rfl (by simp [Value.oneCell']) (by have := HLe.out; omega) (by have := HLe.out; omega) ?_); intro g3 c3 w3 o3 f3 t3; have bb := f3.blk (blk_alloc Hb2.out _) Hne.out; have r0 := blk_cell bb 0 rfl; have r2 := blk_cell bb 2 rfl; have z2 := blk_free bb 2; have s0 := blk_cell (blk_set bb 2 (.slice (some ⟨g3, 0, none⟩) (ms.length + 1) c3)) 0 rfl; have Hb3 := Lib.hid bb; have O3 := Lib.hid o3; have F3 := Lib.hid f3; have T3 := Lib.hid t3; clear bb o3 f3 t3))
    all_goals
      go_wp2_with fail
      go_meet
      have hs2 := F2.out.size
      have hs2' : W.heap.size ≤ w2.heap.size := hs2
      have hz : (w2.alloc (.cells #[.int .i64 es.length] 3)).heap.size = w2.heap.size + 1 := by simp
      have ho := own_fr O3.out ((Fr.refl (fun k => k = b) w3).set1 (j := 2) (.slice (some ⟨g3, 0, none⟩) (ms.length + 1) c3)) (fun k hk e => by
        rcases T3.out k hk with h | h
        · exact Hne.out (by rw [← e]; exact h)
        · have := blk_lt HBk.out; omega)
      refine ⟨_, by simpa using blk_set Hb3.out 2 (.slice (some ⟨g3, 0, none⟩) (ms.length + 1) c3), ho, fun k hk => ?_, ?_⟩
      · rcases T3.out k hk with h | h
        · exact .inl h
        · exact .inr (by omega)
      · have fa : Fr (fun k => k = b ∨ (Value.slice am ms.length cm).ownBlock = some k) W w2 := (((Fr.refl _ W).drew).then_ F2.out (fun _ h => h.elim))
        exact ((fa.alloc _).then_ F3.out (fun k hk => .inl (.inr hk))).then_ ((Fr.refl (fun k => k = b) w3).set1 _) (fun k hk => .inl (.inl hk))
  case rest =>
  obtain ⟨mv', hb4, ho4, ht4, hf4⟩ := hcut
  obtain ⟨w4, hw4⟩ : ∃ W, W = wc := ⟨_, rfl⟩
  subst hw4
  have HBk4 := Lib.hid hb4
  have HO4 := Lib.hid ho4
  have HT4 := Lib.hid ht4
  have HF4 := Lib.hid hf4
  have hq1 : ∀ k, (k = b ∨ (Value.slice am ms.length cm).ownBlock = some k) → q k = 1 := fun k hk => hk.elim (fun e => by rw [e]; exact HX.out.qb) (fun h => (HX.out.qm k h).1)
  have HMc := Lib.hid (HX.out.cur.fr hf4 (fun k hk hs => by have hk : q k = id := hk; have := hq1 k hs; have := HX.out.two id (List.mem_cons_self ..); omega))
  have HOw := Lib.hid (own_fr HX.out.was hf4 (fun k hk hs => by rcases hs with rfl | hs; exact (HX.out.qw _ hk).2 rfl; exact HX.out.mw k hs hk))
  have HCp := Lib.hid (mCopy w4.drew _ M r.rm (HMc.out.fr (Fr.refl (fun _ => False) w4).drew (fun _ _ h => h)) HNr.out.1 HNr.out.2.1)
  clear b0 b1 b2 hb4 ho4 ht4 hf4 hq1
  go_upto_region 15 with fail
  have Hne := Lib.hid (show ¬ (Value.slice aw ms.length cw).ownBlock = some b from fun e => (HX.out.qw b e).2 rfl)
  have c1 := blk_cell HBk4.out 1 rfl
  have c3 := blk_cell HBk4.out 3 rfl
  go_region_law (first
      | (go_simp; go_at_call 26; go_must (with_reducible refine HCp.out.mono ?_); rintro e w5 ⟨M2, rfl, hm5, f5⟩; have bb := f5.blk (blk_drew HBk4.out) (fun h => h); have q1 := blk_cell bb 1 rfl; have q3 := blk_cell bb 3 rfl; have hl5 := blk_lt bb; have Hb5 := Lib.hid bb; have F5 := Lib.hid f5; have HM5 := Lib.hid hm5; have HO5 := Lib.hid (own_fr (HOw.out.drew) f5 (fun _ _ h => h)); clear f5 bb hm5)
      | ((refine step_append_fresh _ w5 rfl (.tmp 124) (.tmp 130) 59 rfl 57 iP (.pointer none) 1 8 Tryd.underlying59 hiP h0P h1P h2P rfl (by decide) (.slice aw ms.length cw) ms.length _ (by simp only [Act.eval, Act.put]; rfl) HO5.out #[.pointer (some ⟨M2, 0, none⟩)] rfl (by simp [Act.eval, Act.put]) rfl (by simp [Value.oneCell']) (by have := HLe.out; omega) (by have := HLe.out; omega) ?_); intro g6 c6 w6 o6 f6 t6; have bb := f6.blk (blk_alloc Hb5.out _) Hne.out; have r1 := blk_cell bb 1 rfl; have r3 := blk_cell bb 3 rfl; have z3 := blk_free bb 3; have s1 := blk_cell (blk_set bb 3 (.slice (some ⟨g6, 0, none⟩) (ms.length + 1) c6)) 1 rfl; have Hb6 := Lib.hid bb; have O6 := Lib.hid o6; have F6 := Lib.hid f6; have T6 := Lib.hid t6; clear bb o6 f6 t6))
  all_goals
    have hs5 : w4.heap.size ≤ w5.heap.size := F5.out.size
    have hz : (w5.alloc (.cells #[.pointer (some ⟨M2, 0, none⟩)] 57)).heap.size = w5.heap.size + 1 := by simp
    have hb4l := blk_lt HBk4.out
    have hs6 := F6.out.size
    have hawl : ∀ k, (Value.slice aw ms.length cw).ownBlock = some k → k < w4.heap.size := fun k hk => own_lt HOw.out hk
    have fw : Fr (fun k => k = b) w6 (w6.setCell ⟨b, 3, none⟩ (.slice (some ⟨g6, 0, none⟩) (ms.length + 1) c6)) := (Fr.refl (fun k => k = b) w6).set1 (j := 3) (.slice (some ⟨g6, 0, none⟩) (ms.length + 1) c6)
    have ho := own_fr O6.out fw (fun k hk e => by
      rcases T6.out k hk with h | h
      · exact Hne.out (by rw [← e]; exact h)
      · omega)
    have hb7 : (w6.setCell ⟨b, 3, none⟩ (.slice (some ⟨g6, 0, none⟩) (ms.length + 1) c6)).heap[b]? = some (.cells #[.pointer (some ⟨d.B, 0, none⟩), .pointer (some ⟨M, 0, none⟩), mv', .slice (some ⟨g6, 0, none⟩) (ms.length + 1) c6] 61 (0, 0)) := by simpa using blk_set Hb6.out 3 (.slice (some ⟨g6, 0, none⟩) (ms.length + 1) c6)
    have ht7 : ∀ k, (Value.slice (some ⟨g6, 0, none⟩) (ms.length + 1) c6).ownBlock = some k → (Value.slice aw ms.length cw).ownBlock = some k ∨ w5.heap.size ≤ k := fun k hk => by
      rcases T6.out k hk with h | h
      · exact .inl h
      · exact .inr (by omega)
    have f56 : Fr (fun k => k = b ∨ (Value.slice aw ms.length cw).ownBlock = some k) w5 (w6.setCell ⟨b, 3, none⟩ (.slice (some ⟨g6, 0, none⟩) (ms.length + 1) c6)) := (((Fr.refl _ w5).alloc _).then_ F6.out (fun k hk => .inl (.inr hk))).then_ fw (fun k hk => .inl (.inl hk))
    have hm7 := HM5.out.fr f56 (fun k hk hs => by
      have hk1 : w4.heap.size ≤ k := hk.1
      rcases hs with h | h
      · omega
      · have := hawl k h; omega)
    have fa : Fr (fun k => k = b ∨ (Value.slice aw ms.length cw).ownBlock = some k) w4 w5 := (((Fr.refl _ w4).drew).then_ F5.out (fun _ h => h.elim))
    have hf7 := fa.then_ f56 (fun k hk => .inl hk)
    have hs4 := HF4.out.size
    have hmlt : ∀ k, mv'.ownBlock = some k → k < w4.heap.size := fun k hk => own_lt HO4.out hk
    have hmd : ∀ k, mv'.ownBlock = some k → ¬ (k = b ∨ (Value.slice aw ms.length cw).ownBlock = some k) := fun k hk hs => by
      rcases HT4.out k hk with h | h
      · rcases hs with e | hs
        · exact (HX.out.qm k h).2 e
        · exact HX.out.mw k h hs
      · rcases hs with e | hs
        · have := blk_lt HX.out.blk; omega
        · have := (HX.out.q0 k (by rw [(HX.out.qw k hs).1]; decide)).2.2; omega
    have hall : Fr (fun k => k = b ∨ (Value.slice am ms.length cm).ownBlock = some k ∨ (Value.slice aw ms.length cw).ownBlock = some k) W _ := (HF4.out.mono (fun k hk => hk.imp (fun h => h) .inl)).then_ hf7 (fun k hk => .inl (hk.imp (fun h => h) .inr))
    have hfin := HX.out.push rfl hall hb7 (own_fr HO4.out hf7 hmd) ho (fun k hk => (HT4.out k hk).imp (fun h => h) (fun h => ⟨h, hmlt k hk⟩)) ht7 hm7 hs4 hs5 (by have := f56.size; omega)
    have HFin := Lib.hid hfin
    have HFr := Lib.hid (show Fr (fun k => ¬ F k) w _ from FW.out.then_ hall (fun k hk => .inl (fun hF => by
      have h0 := (HX.out.ff k (.inl hF)).2.1
      rcases hk with e | hk | hk
      · rw [e, HX.out.qb] at h0; cases h0
      · rw [(HX.out.qm k hk).1] at h0; cases h0
      · rw [(HX.out.qw k hk).1] at h0; cases h0)))
    clear hs5 hz hs6 hawl fw ho hb7 ht7 f56 hm7 fa hf7 hs4 hmlt hmd hall hfin
    go_wp2_with fail
    go_ret
    have hk := HK.out
    exact ⟨rfl, M, r, es, (r, es) :: ms, (HFin.out.more (by omega)).less (fun k hk => .inl hk), HG.out, ⟨.refl _ _, HG.out, HMk.out⟩, fun h => by omega, HFr.out, by simp⟩
end
end Go.Proofs.YtjchjpmgbmeohaaDoor

/- Both sides: kind 6; whatever kind. -/
set_option linter.unusedSimpArgs false
set_option linter.unusedVariables false
namespace Go.Proofs.YtjchjpmgbmeohaaDoor
open Go.RowKit

theorem BtX.booksX {F : Nat → Prop} {w0 w w' : World} {b : Nat} {d : Dd} {M : Nat} {r r' : Raw} {es es' : List Ent} {big big' : Nat} {m : RM} {ms : List (Raw × List Ent)} {lab lab' q : Nat → Nat} {mv wv : Value} {id : Nat} {st : List (Nat × Nat)} (h : BtX F w0 w b d M r es big m ms lab q mv wv id st) (hs : Sta w' lab' d r' es' big') (p : Stp w.heap.size w lab w' lab') : BtX F w0 w' b d M r' es' big' m ms lab' q mv wv id st :=
  h.frs hs p.fr (fun k hk hs => hs.1 (h.q0 k hk).1) (fun k hk h0 => by rw [p.lx k hk, h0]) (fun k hk => h.l0 k hk.1) (fun k hk => by
    by_cases hlt : k < w.heap.size
    · rw [p.lx k hlt] at hk
      exact h.l0 k hk
    · have := h.fr.size; omega)
theorem row_last {w : World} {g n cap : Nat} {T : TypeId} {xs : List Value} {x : Value} (h : w.ownsRow 0 T 1 (.slice (some ⟨g, 0, none⟩) (n + 1) cap) (n + 1) (xs ++ [x])) (hn : xs.length = n) : w.cell? ⟨g, n, none⟩ = some x := by
  rw [h.cellAt n (by omega), List.getElem?_append_right (by omega), hn, Nat.sub_self]; rfl
section
variable {F : Nat → Prop} {w0 w : World} {b : Nat} {d : Dd} {M : Nat} {r : Raw} {es : List Ent} {big : Nat} {ms : List (Raw × List Ent)}
attribute [-go_sem] loadCells
set_option maxRecDepth 8000 in
set_option maxHeartbeats 6400000 in
theorem does_6 (h : Bt F w0 w b d M r es big r.rm ms) (g : Good r) (mk : MkOk r es ms) (hb : big ≤ 9000) (c : Cl) (hk : c.kind = 6) (hms : ms.length ≤ 1000) :
    Calls Tryd.prog 24 #[.pointer (some ⟨b, 0, none⟩), .agg c.cells.toArray] w (DoesP F w0 w b d big r es ms c.kind) := by
  have H0 := Lib.hid (h.box (.cells c.cells.toArray 53))
  have HB := Lib.hid (heap_alloc_new w (.cells c.cells.toArray 53))
  have HG := Lib.hid g
  have HMk := Lib.hid mk
  have HNa := Lib.hid (And.intro g.na (And.intro g.nk (And.intro g.s0 g.s1)))
  have HNr := Lib.hid (show r.rm.accs.length ≤ 100000 ∧ r.rm.kept.length ≤ 100000 ∧ 0 ≤ r.rm.stamp ∧ r.rm.stamp ≤ 4611686018427387904 from by have := g.na; have := g.nk; have := g.s0; have := g.s1; show r.accs.length ≤ _ ∧ r.kept.length ≤ _ ∧ 0 ≤ r.stamp ∧ r.stamp ≤ _; omega)
  have HFn := Lib.hid (show ∀ k, F k → k < w.heap.size from fun k hk => by obtain ⟨lab, q, mv, wv, id, st, h⟩ := h; exact (h.ff k hk).2.2)
  obtain ⟨b0, b1⟩ := H0.out.cells
  obtain ⟨l1, l2, l3, l4, k0, k47, k50⟩ := cl_loads (P := Tryd.prog) (W := (w.alloc (.cells c.cells.toArray 53)).drew) (blk_drew HB.out)
  have k0 : (w.alloc (.cells c.cells.toArray 53)).cell? ⟨w.heap.size, 0, none⟩ = some (.int .i64 6) := by rw [← hk]; exact k0
  have HK := Lib.hid hk
  obtain ⟨W, hW⟩ : ∃ W, w.alloc (.cells c.cells.toArray 53) = W := ⟨_, rfl⟩
  have FW := Lib.hid (show Fr (fun k => ¬ F k) w W from by rw [← hW]; exact (Fr.refl _ w).alloc _)
  obtain ⟨lab, q, mv, wv, id, st, hx⟩ := H0.out
  cases ms with
  | nil =>
    obtain ⟨am, cm, rfl, -, -⟩ := own_form hx.mrk
    have b2 := blk_cell hx.blk 2 rfl
    have wm : IntKind.i64.wrap (-1) = -1 := IntWalk.i64_in _ (by omega)
    have HWe := Lib.hid hW
    clear h g mk hk hx hms l1 l2 l3 l4 k47 k50 hW
    go_enter Tryd.func24, Tryd.ntmps24
    go_wp2_with fail
    go_ret
    have hk := HK.out
    exact ⟨rfl, M, r, es, [], (H0.out.more (by omega)).less (fun k hk => .inl hk), HG.out, HMk.out, fun h => by omega, by rw [HWe.out]; exact FW.out, Nat.le_succ _⟩
  | cons x ms =>
    cases st with
    | nil => have := hx.len; simp at this
    | cons p st =>
    obtain ⟨N, hN⟩ : ∃ N, ms.length = N := ⟨_, rfl⟩
    have hN1 : (x :: ms).length = N + 1 := by rw [← hN]; rfl
    have hNs : st.length = N := by have := hx.len; rw [hN1] at this; simpa using this
    have hmr := hx.mrk
    have hwr := hx.was
    rw [hN1] at hmr hwr hms
    obtain ⟨gm, cm, rfl⟩ := own_some hmr (by omega)
    obtain ⟨gw, cw, rfl⟩ := own_some hwr (by omega)
    have hcm : N + 1 ≤ cm := by
      obtain ⟨a', c', e', hc, -⟩ := own_form hmr
      simp only [Value.slice.injEq] at e'
      omega
    have hcw : N + 1 ≤ cw := by
      obtain ⟨a', c', e', hc, -⟩ := own_form hwr
      simp only [Value.slice.injEq] at e'
      omega
    have cellM : ∀ {W' : World}, W'.ownsRow 0 3 1 (.slice (some ⟨gm, 0, none⟩) (N + 1) cm) (x :: ms).length ((x :: ms).reverse.map fun x => Value.int .i64 x.2.length) → W'.cell? ⟨gm, N, none⟩ = some (.int .i64 x.2.length) := fun h => by
      rw [hN1, List.reverse_cons, List.map_append] at h
      exact row_last h (by simp [hN])
    have cellW : ∀ {W' : World}, W'.ownsRow 0 57 1 (.slice (some ⟨gw, 0, none⟩) (N + 1) cw) (x :: ms).length ((p :: st).reverse.map fun p => Value.pointer (some ⟨p.2, 0, none⟩)) → W'.cell? ⟨gw, N, none⟩ = some (.pointer (some ⟨p.2, 0, none⟩)) := fun h => by
      rw [hN1, List.reverse_cons, List.map_append] at h
      exact row_last h (by simp [hNs])
    have HCM := Lib.hid (fun W' => @cellM W')
    have HCW := Lib.hid (fun W' => @cellW W')
    have wN : IntKind.i64.wrap ((N : Int) + 1 - 1) = N := by rw [IntWalk.i64_in _ (by omega)]; omega
    have wN2 : IntKind.i64.wrap (N : Int) = N := IntWalk.i64_in _ (by omega)
    have wN3 : (N : Int) + 1 - 1 = N := by omega
    have i0 : (0 : Int) ≤ N := by omega
    have i1 : (N : Int) < N + 1 := by omega
    have i2 : (N : Int) ≤ cm := by omega
    have i3 : (N : Int) ≤ cw := by omega
    have i4 : N ≤ cm := by omega
    have i5 : N ≤ cw := by omega
    have b2 := blk_cell hx.blk 2 rfl
    have cM := cellM hx.mrk
    have HX := Lib.hid hx
    have HNN := Lib.hid hN
    obtain ⟨news, hes, hft, hun⟩ := mk.1
    have HBk := Lib.hid (show Calls Tryd.prog 28 #[.pointer (some ⟨d.B, 0, none⟩), .int .i64 x.2.length] W.drew fun e w' => e = .returned (.tuple #[]) ∧ ∃ lab', BtX (fun k => F k ∨ k = w.heap.size) w0 w' b d M x.1 x.2 big r.rm (x :: ms) lab' q (.slice (some ⟨gm, 0, none⟩) (N + 1) cm) (.slice (some ⟨gw, 0, none⟩) (N + 1) cw) id (p :: st) ∧ Fr (fun k => lab k ≠ 0 ∧ lab k ≠ 9) W w' from by
      have hd := hx.frs (hx.sta.drew) (Fr.refl (fun _ => False) _).drew (fun _ _ h => h) (fun _ _ h => h) (fun _ h => h.elim) hx.l0
      rw [hW] at hd
      have hs := hd.sta
      rw [hes] at hs
      have := g.na; have := g.nk
      refine (backS W.drew lab d r news x.2 big hs hft (by omega) (by omega) (by omega)).mono fun e w' ⟨he, lab', hs', hp⟩ => ?_
      rw [hun] at hs'
      exact ⟨he, lab', hd.booksX hs' hp, (Fr.refl _ W).drew.then_ hp.fr (fun k hk => .inl hk)⟩)
    have HFl := Lib.hid (show ∀ k, F k → lab k = 0 from fun k hk => (hx.ff k (.inl hk)).1)
    have HMg := Lib.hid mk.2
    have hbl := blk_lt hx.blk
    have HWe := Lib.hid hW
    clear hW
    clear h g mk hk hx hms l1 l2 l3 l4 k47 k50 hmr hwr cellM cellW hes hft hun hN hN1 hNs hcm hcw HB
    go_enter Tryd.func24, Tryd.ntmps24
    go_upto_region 19 with fail
    have hW := HWe.out
    (try rw [hW])
    rw [hW] at b0 b1 b2 cM hbl
    clear k0 hW
    go_region_held3 (fun w' => w'.cell? ⟨b, 0, none⟩ = some (Value.pointer (some ⟨d.B, 0, none⟩)) ∧ w'.cell? ⟨b, 2, none⟩ = some (Value.slice (some ⟨gm, 0, none⟩) (N + 1) cm) ∧ w'.cell? ⟨gm, N, none⟩ = some (Value.int .i64 x.2.length))
      (first | exact ⟨b0, b2, cM⟩ | exact ⟨q0, q2, qM⟩ | go_keep)
      (first | (go_at_call 28; go_must (with_reducible refine HBk.out.mono ?_); rintro e w2 ⟨rfl, lab2, hx2, f2⟩; have q0 := blk_cell hx2.blk 0 rfl; have q1 := blk_cell hx2.blk 1 rfl; have q2 := blk_cell hx2.blk 2 rfl; have q3 := blk_cell hx2.blk 3 rfl; have z1 := blk_free hx2.blk 1; have z2 := blk_free hx2.blk 2; have z3 := blk_free hx2.blk 3; have qM := HCM.out _ hx2.mrk; have qW := HCW.out _ hx2.was; have hl2 := blk_lt hx2.blk; have HX2 := Lib.hid hx2; have F2 := Lib.hid f2; clear hx2 f2))
    clear b0 b1 b2 cM
    have hpp := HX2.out
    have hNN := HNN.out
    subst hNN
    have hpop := BtX.pop hpp rfl
    have HP := Lib.hid hpop
    clear hpp hpop
    go_wp2_with fail
    go_ret
    have hk := HK.out
    refine ⟨rfl, p.2, x.1, x.2, ms, (HP.out.1.more (by omega)).less (fun k hk => .inl hk), HMg.out.1, HMg.out.2, fun h => by omega, ?_, by simp only [List.length_cons]; omega⟩
    refine (FW.out.then_ F2.out (fun k hk => .inl (fun hF => hk.1 (HFl.out k hF)))).then_ HP.out.2 (fun k hk => .inl (fun hF => ?_))
    have h1 := (HX2.out.ff k (.inl hF)).2.1
    rw [show k = b from hk, HX2.out.qb] at h1
    cases h1
theorem does_any (h : Bt F w0 w b d M r es big r.rm ms) (g : Good r) (mk : MkOk r es ms) (hb : big ≤ 9000) (hms : ms.length ≤ 1000) (c : Cl) : Calls Tryd.prog 24 #[.pointer (some ⟨b, 0, none⟩), .agg c.cells.toArray] w (DoesP F w0 w b d big r es ms c.kind) := by
  by_cases h0 : c.kind = 0
  · exact does_0 h g mk hb c h0
  by_cases h1 : c.kind = 1
  · exact does_1 h g mk hb c h1
  by_cases h2 : c.kind = 2
  · exact does_2 h g mk hb c h2
  by_cases h3 : c.kind = 3
  · exact does_3 h g mk hb c h3
  by_cases h4 : c.kind = 4
  · exact does_4 h g mk hb c h4
  by_cases h5 : c.kind = 5
  · exact does_5 h g mk hb c h5 hms
  by_cases h6 : c.kind = 6
  · exact does_6 h g mk hb c h6 hms
  exact does_x h g mk hb c (by omega)
end
end Go.Proofs.YtjchjpmgbmeohaaDoor

/- Both sides: start; great; a script's calls. -/
set_option linter.unusedSimpArgs false
set_option linter.unusedVariables false
namespace Go.Proofs.YtjchjpmgbmeohaaDoor
open Go.RowKit

def StartP (w : World) (e : Ending) (w' : World) : Prop := ∃ b d M, e = .returned (.pointer (some ⟨b, 0, none⟩)) ∧ Bt (fun _ => False) w w' b d M Raw.empty [] 0 Raw.empty.rm []
theorem start_any (w : World) : Calls Tryd.prog 23 #[] w (StartP w) := by
  have HN := Lib.hid (newS w)
  go_enter Tryd.func23, Tryd.ntmps23
  go_wp2_with fail
  refine HN.out.mono ?_
  rintro e w1 ⟨lab, d, rfl, hs, hl, hf⟩
  have HS := Lib.hid hs
  have HL := Lib.hid hl
  have HF := Lib.hid hf
  clear hs hl hf
  go_wp2_with fail
  go_ret
  have f2 := ((Fr.refl (fun _ => False) w1).alloc (.cells #[.slice none 0 0, .slice none 0 0, .int .i64 0, .int .i64 0] 56)).alloc (.cells #[.pointer (some ⟨d.B, 0, none⟩), .pointer (some ⟨w1.heap.size, 0, none⟩), .slice none 0 0, .slice none 0 0] 61)
  have hz : ((w1.alloc (.cells #[.slice none 0 0, .slice none 0 0, .int .i64 0, .int .i64 0] 56)).alloc (.cells #[.pointer (some ⟨d.B, 0, none⟩), .pointer (some ⟨w1.heap.size, 0, none⟩), .slice none 0 0, .slice none 0 0] 61)).heap.size = w1.heap.size + 2 := by simp
  have hws := HF.out.size
  refine ⟨w1.heap.size + 1, d, w1.heap.size, by first | rfl | simp, lab, (fun k => if k = w1.heap.size then 2 else if k = w1.heap.size + 1 then 1 else 0), .slice none 0 0, .slice none 0 0, 2, [], ⟨HS.out.fr f2 (fun _ h => h.elim), blk1 w1 _ _, World.ownsRow_nil _ _ _ _, World.ownsRow_nil _ _ _ _, rfl, ?_, fun i p x hp => (by simp at hp), by simp, fun j hj => by simp at hj; omega, by simp, fun k hk => (by cases hk), fun k hk => (by cases hk), fun k hk => (by cases hk), fun k hk => ?_, HL.out, HF.out.then_ f2 (fun _ h => h.elim), fun k hk => hk.elim⟩⟩
  · refine ⟨.slice none 0 0, .slice none 0 0, blk_alloc (heap_alloc_new w1 _) _, World.ownsRow_nil _ _ _ _, World.ownsRow_nil _ _ _ _, by simp, fun k hk => (by cases hk), fun k hk => (by cases hk), fun k hk => (by cases hk), fun k hk => ?_⟩
    have hk : (if k = w1.heap.size then 2 else if k = w1.heap.size + 1 then 1 else 0) = 2 := hk
    by_cases e : k = w1.heap.size
    · omega
    · rw [if_neg e] at hk; split at hk <;> cases hk
  · have hk : (if k = w1.heap.size then 2 else if k = w1.heap.size + 1 then 1 else 0) ≠ 0 := hk
    have hkk : k = w1.heap.size ∨ k = w1.heap.size + 1 := by
      by_cases e : k = w1.heap.size
      · exact .inl e
      · rw [if_neg e] at hk
        by_cases e2 : k = w1.heap.size + 1
        · exact .inr e2
        · rw [if_neg e2] at hk; exact absurd rfl hk
    exact ⟨HS.out.free (by omega), by omega, by omega⟩
/-- A script among the arguments. -/
def Scr (w : World) (a : Option Addr) (cs : List Cl) : Prop := Row w a (cs.flatMap Cl.cells)
theorem cl_len (c : Cl) : c.cells.length = 51 := rfl
theorem scr_at {w : World} {a : Option Addr} {cs : List Cl} (h : Scr w a cs) {j : Nat} (hj : j < cs.length) : ∃ b off, a = some ⟨b, off, none⟩ ∧ w.rangeAt b (off + j * 51) cs[j].cells := by
  have h0 := flat_get (f := Cl.cells) (n := 51) cl_len cs j hj 0 (by omega)
  obtain ⟨b, off, rfl, -⟩ := h (j * 51 + 0) (.int .i64 cs[j].kind) (by rw [h0]; rfl)
  refine ⟨b, off, rfl, fun i v hv => ?_⟩
  have hi : i < 51 := by have := (List.getElem?_eq_some_iff.1 hv).1; rwa [cl_len] at this
  obtain ⟨b', off', e, hc⟩ := h (j * 51 + i) v (by rw [flat_get (f := Cl.cells) (n := 51) cl_len cs j hj i hi, hv])
  simp only [Option.some.injEq, Addr.mk.injEq, and_true] at e
  obtain ⟨rfl, rfl⟩ := e
  rwa [Nat.add_assoc]
theorem Scr.fr {w w' : World} {a : Option Addr} {cs : List Cl} (h : Scr w a cs) (hf : Fr (fun _ => False) w w') : Scr w' a cs := Row.fr h hf (fun _ _ h => h)
theorem cl_one (c : Cl) : c.cells.toArray.all (·.oneCell') = true := by simp [Cl.cells, Acc.cells, Tx.cells, Value.oneCell']
def GreatP (w : World) (n : Nat) (e : Ending) (w' : World) : Prop := (∃ g, e = .returned (.bool g) ∧ (g = false → n ≤ 200)) ∧ Fr (fun _ => False) w w'
set_option maxRecDepth 4000 in
set_option maxHeartbeats 3200000 in
theorem great_any (w : World) (a : Option Addr) (cap : Nat) (cs : List Cl) (h : Scr w a cs) (hn : cs.length ≤ 140737488355328) :
    Calls Tryd.prog 22 #[.slice a cs.length cap] w (GreatP w cs.length) := by
  have HS := Lib.hid h
  obtain ⟨n, hnl⟩ : ∃ n, cs.length = n := ⟨_, rfl⟩
  have HN := Lib.hid hnl
  rw [hnl] at hn
  rw [hnl]
  clear h hnl
  go_enter Tryd.func22, Tryd.ntmps22
  go_wp2_with fail
  go_loopw [7] (fun iv wr => ∃ j : Nat, j ≤ n ∧ iv = .int .i64 j ∧ Fr (fun _ => False) w wr) (fun iv _ => ((n : Int) - intOf iv).toNat)
  case atStart => exact ⟨0, by omega, rfl, Fr.refl _ _⟩
  case round =>
    obtain ⟨j, hj, rfl, hf⟩ := hrel
    have HF := Lib.hid hf
    by_cases hjm : j < n
    · have hjI : (j : Int) < n := by omega
      have hjJ : (0 : Int) ≤ j := by omega
      obtain ⟨g, off, rfl, hr⟩ := scr_at (HS.out.fr hf) (show j < cs.length from by rw [HN.out]; exact hjm)
      obtain ⟨x, hx⟩ : ∃ x, cs[j]'(by rw [HN.out]; exact hjm) = x := ⟨_, rfl⟩
      rw [hx] at hr
      have HR := Lib.hid (World.rangeAt_alloc hr (.cells #[.int .i64 0, .int .u64 0, .int .u64 0, .int .u64 0, .int .u64 0, .int .u64 0, .int .u64 0, .int .u64 0, .int .u64 0, .int .u64 0, .int .u64 0, .int .i64 0, .int .i64 0, .int .i64 0, .int .i64 0, .int .u64 0, .int .u64 0, .int .u64 0, .int .u64 0, .int .u64 0, .int .u64 0, .int .u64 0, .int .u64 0, .int .u64 0, .int .u64 0, .int .i64 0, .int .i64 0, .int .i64 0, .int .i64 0, .int .i64 0, .int .i64 0, .int .u64 0, .int .u64 0, .int .u64 0, .int .u64 0, .int .u64 0, .int .u64 0, .int .u64 0, .int .u64 0, .int .u64 0, .int .u64 0, .int .i64 0, .int .i64 0, .int .i64 0, .int .i64 0, .int .i64 0, .int .i64 0, .bool false, .int .u64 0, .int .u64 0, .int .i64 0] 53))
      have HR0 := Lib.hid hr
      have HBz := Lib.hid (heap_alloc_new wr (.cells #[.int .i64 0, .int .u64 0, .int .u64 0, .int .u64 0, .int .u64 0, .int .u64 0, .int .u64 0, .int .u64 0, .int .u64 0, .int .u64 0, .int .u64 0, .int .i64 0, .int .i64 0, .int .i64 0, .int .i64 0, .int .u64 0, .int .u64 0, .int .u64 0, .int .u64 0, .int .u64 0, .int .u64 0, .int .u64 0, .int .u64 0, .int .u64 0, .int .u64 0, .int .i64 0, .int .i64 0, .int .i64 0, .int .i64 0, .int .i64 0, .int .i64 0, .int .u64 0, .int .u64 0, .int .u64 0, .int .u64 0, .int .u64 0, .int .u64 0, .int .u64 0, .int .u64 0, .int .u64 0, .int .u64 0, .int .i64 0, .int .i64 0, .int .i64 0, .int .i64 0, .int .i64 0, .int .i64 0, .bool false, .int .u64 0, .int .u64 0, .int .i64 0] 53))
      have w1 : IntKind.i64.wrap ((j : Int) + 1) = j + 1 := IntWalk.i64_in _ (by omega)
      obtain ⟨tm, htm⟩ : ∃ t, x.move.timeout = t := ⟨_, rfl⟩
      have HTm := Lib.hid htm
      clear hf hr hx htm
      go_upto_region 4 with (first | (refine wpList_load_mid rfl 53 (.tmp 9) rfl g (off + j * 51) rfl _ _ HR0.out Tryd.underlying53 rfl rfl ?_) | (refine wpList_load_mid rfl 53 (.tmp 9) rfl g (off + j * 51) rfl _ _ HR.out Tryd.underlying53 rfl rfl ?_) | ((refine wpList_store_row rfl 53 (.tmp 4) (.tmp 10) rfl wr.heap.size x.cells.toArray rfl rfl HBz.out rfl rfl (cl_one x) ?_); intro w9 hb9 f9; have HB9 := Lib.hid hb9; have F9 := Lib.hid f9; clear hb9 f9) | fail)
      have G9 := Lib.hid (show Fr (fun _ => False) w w9 from HF.out.then_ (((Fr.refl (fun _ => False) wr).alloc _).then_ F9.out (fun k hk => .inr (by omega))) (fun _ h => h.elim))
      have x41 : w9.cell? ⟨wr.heap.size, 41, none⟩ = some (.int .i64 tm) := by rw [← HTm.out]; exact blk_cell HB9.out 41 rfl
      by_cases t1 : tm < 0
      · go_wp2_with fail
        go_ret
        exact ⟨⟨true, rfl, fun h => by cases h⟩, G9.out⟩
      · by_cases t2 : 1099511627776 < tm
        · go_wp2_with fail
          go_ret
          exact ⟨⟨true, rfl, fun h => by cases h⟩, G9.out⟩
        · go_wp2_with fail
          go_roundw
          case rel => exact ⟨j + 1, by omega, by go_num, G9.out⟩
          case measure => simp [intOf]; omega
    · obtain rfl : j = n := by omega
      have hjI : ¬ (j : Int) < j := by omega
      clear hf
      go_wp2_with fail
      go_ret
      refine ⟨⟨decide (200 < (j : Int)), by first | rfl | simp, fun h => ?_⟩, HF.out⟩
      have := of_decide_eq_false h
      omega
end Go.Proofs.YtjchjpmgbmeohaaDoor

/- Package order: Range, up to the turning. -/
set_option linter.unusedSimpArgs false
set_option linter.unusedVariables false
namespace Go.Proofs.YtjchjpmgbmeohaaDoor
open Go.RowKit

/-- Behind which place a range ends. -/
def hiP (ps : List Pr) (t2 : Int) : Nat := if t2 = 0 then ps.length else if (ps.map (·.1))[low ps t2]? = some t2 then low ps t2 + 1 else low ps t2
def rangeL (ps : List Pr) (a b : Int) : List Pr := (ps.drop (low ps a)).take (hiP ps b - low ps a)
/-- A slice of pairs of its own. -/
def OwnP (w : World) (S : Nat → Prop) (v : Value) (ps : List Pr) : Prop := w.ownsRow 0 121 2 v ps.length (prs ps) ∧ ∀ k, v.ownBlock = some k → S k
theorem OwnP.fr {w w' : World} {S S2 : Nat → Prop} {v : Value} {ps : List Pr} (h : OwnP w S v ps) (hf : Fr S2 w w') (hn : ∀ k, S k → ¬ S2 k) : OwnP w' S v ps := ⟨own_fr h.1 hf (fun k hk => hn k (h.2 k hk)), h.2⟩
theorem hiP_le (ps : List Pr) (t2 : Int) : hiP ps t2 ≤ ps.length := by
  unfold hiP
  split
  · exact Nat.le_refl _
  · have := low_le ps t2
    split
    · rename_i h
      have := (List.getElem?_eq_some_iff.1 h).1
      simp at this
      omega
    · exact this

set_option maxRecDepth 4000 in
set_option maxHeartbeats 6400000 in
theorem orange_up (w : World) (S : Nat → Prop) (L : Bq 5) (ps : List Pr) (fm t2 : Int) (h : IsO w S L ps) (hn : ps.length ≤ 100000) (hR : Ris ps) :
    Calls Tryd.prog 78 #[.pointer (some ⟨L.b, 5, none⟩), .int .i64 fm, .int .i64 t2, .bool false] w fun e w' => ∃ v, e = .returned v ∧ OwnP w' (Gro (fun _ => False) w w') v (rangeL ps fm t2) ∧ Fr (fun _ => False) w w' := by
  obtain ⟨i0, hi0, hz0, hz1, hz2⟩ := info_parts Tryd.infoPair
  have H := Lib.hid h
  have HF := Lib.hid (show ∀ W s, Fr (fun _ => False) w W → Calls Tryd.prog 100 #[.pointer (some ⟨L.b, 5, none⟩), .int .i64 s] W fun e w' => e = .returned (.int .i64 (low ps s)) ∧ Fr (fun _ => False) W w' from fun W s f => ofind_any W L S ps s (IsO.fr (S2 := fun _ => False) h f (fun _ _ h => h)) (by omega) hR)
  have hlo := low_le ps fm
  have hlt := low_le ps t2
  have hhi := hiP_le ps t2
  obtain ⟨v, hb, ho, -, -, -⟩ := h
  obtain ⟨a, cap, rfl, -, -⟩ := own_form ho
  have c0 := blk_cell hb 5 (L.get _)
  have Hb := Lib.hid hb
  have Ho := Lib.hid ho
  have hLlt := blk_lt hb
  clear hb ho
  go_enter Tryd.func78, Tryd.ntmps78
  go_wp2_with fail
  have Fw := Lib.hid ((Fr.refl (fun _ => False) w).drew)
  go_region_held3 (fun w' => w'.cell? ⟨L.b, 5, none⟩ = some (.slice a ps.length cap))
    (first | exact c0 | go_keep)
    (first
      | (go_at_call 100; go_must (with_reducible refine (HF.out _ fm (by repeat (first | (with_reducible exact Fr.refl _ _) | (with_reducible refine Fr.drew ?_) | (with_reducible refine Fr.drewN ?_ _) | (with_reducible refine Fr.alloc ?_ _) | (with_reducible refine Fr.set1 ?_ _) | (with_reducible refine Fr.setNew ?_ (by omega) _)))).mono ?_; rintro e w2 ⟨rfl, f2⟩; have F2 := Lib.hid (Fw.out.then_ (S2 := fun _ => False) f2 (fun _ h => h.elim)); have c0 := blk_cell (F2.out.blk Hb.out (fun h => h)) 5 (L.get _); clear f2)))
  clear c0
  have c0 := blk_cell (F2.out.blk Hb.out (fun h => h)) 5 (L.get _)
  go_upto_if 25 with fail
  go_cut [10] from 14 (fun s w' => s = .int .i64 (hiP ps t2) ∧ Fr (fun _ => False) w w')
  case first =>
    by_cases hz : t2 = 0
    · have hv := Lib.hid (show hiP ps t2 = ps.length from if_pos hz)
      have hq : (t2 != 0) = false := by simp [hz]
      clear hz
      obtain ⟨q, hq2⟩ : ∃ q, (t2 != 0) = q := ⟨_, rfl⟩
      rw [hq] at hq2
      subst hq2
      rw [hq]
      clear hq
      go_wp2_with fail
      go_meet
      exact ⟨by rw [hv.out], F2.out⟩
    · have hq : (t2 != 0) = true := by simpa using hz
      have hv := Lib.hid (show hiP ps t2 = if (ps.map (·.1))[low ps t2]? = some t2 then low ps t2 + 1 else low ps t2 from if_neg hz)
      rw [hq]
      clear hz hq
      obtain ⟨k, hk⟩ : ∃ k, low ps t2 = k := ⟨_, rfl⟩
      have HFt := Lib.hid (show ∀ W, Fr (fun _ => False) w W → Calls Tryd.prog 100 #[.pointer (some ⟨L.b, 5, none⟩), .int .i64 t2] W fun e w' => e = .returned (.int .i64 k) ∧ Fr (fun _ => False) W w' from fun W f => hk ▸ HF.out W t2 f)
      rw [hk] at hv hlt
      clear hk
      by_cases hkl : k < ps.length
      · have hklI : (k : Int) < ps.length := by omega
        obtain ⟨x, hx⟩ : ∃ x, ps[k].1 = x := ⟨_, rfl⟩
        have hget : (ps.map (·.1))[k]? = some x := by rw [List.getElem?_map, List.getElem?_eq_getElem hkl]; simp [hx]
        rw [hget] at hv
        obtain ⟨g, cap', e1⟩ := own_some Ho.out (by omega)
        simp only [Value.slice.injEq] at e1
        obtain ⟨rfl, -, rfl⟩ := e1
        have w1 : IntKind.i64.wrap ((k : Int) + 1) = k + 1 := IntWalk.i64_in _ (by omega)
        cases hxt : (x == t2)
        · have hv2 := Lib.hid (show hiP ps t2 = k from by rw [hv.out, if_neg (by simpa using hxt)])
          go_wp2_with (go_at_call 100; go_must (with_reducible refine (HFt.out _ F2.out).mono ?_; rintro e w3 ⟨rfl, f3⟩; have F3 := Lib.hid (F2.out.then_ (S2 := fun _ => False) f3 (fun _ h => h.elim)); have c3 := blk_cell (F3.out.blk Hb.out (fun h => h)) 5 (L.get _); have p0 := (own_pair (own_fr Ho.out F3.out (fun _ _ h => h)) rfl hkl).1; rw [hx] at p0; clear f3))
          go_meet
          exact ⟨by rw [hv2.out], F3.out⟩
        · have hv2 := Lib.hid (show hiP ps t2 = k + 1 from by rw [hv.out, if_pos (by simpa using hxt)])
          go_wp2_with (go_at_call 100; go_must (with_reducible refine (HFt.out _ F2.out).mono ?_; rintro e w3 ⟨rfl, f3⟩; have F3 := Lib.hid (F2.out.then_ (S2 := fun _ => False) f3 (fun _ h => h.elim)); have c3 := blk_cell (F3.out.blk Hb.out (fun h => h)) 5 (L.get _); have p0 := (own_pair (own_fr Ho.out F3.out (fun _ _ h => h)) rfl hkl).1; rw [hx] at p0; clear f3))
          go_meet
          exact ⟨by rw [hv2.out]; go_num, F3.out⟩
      · have hklI : ¬ (k : Int) < ps.length := by omega
        have hv2 := Lib.hid (show hiP ps t2 = k from by rw [hv.out, if_neg (by rw [List.getElem?_eq_none (by simpa using hkl)]; simp)])
        go_wp2_with (go_at_call 100; go_must (with_reducible refine (HFt.out _ F2.out).mono ?_; rintro e w3 ⟨rfl, f3⟩; have F3 := Lib.hid (F2.out.then_ (S2 := fun _ => False) f3 (fun _ h => h.elim)); have c3 := blk_cell (F3.out.blk Hb.out (fun h => h)) 5 (L.get _); clear f3))
        go_meet
        exact ⟨by rw [hv2.out], F3.out⟩
  case rest =>
  obtain ⟨rfl, fc⟩ := hcut
  have FC := Lib.hid fc
  clear c0 fc F2 HF Fw
  have HRg := Lib.hid (show rangeL ps fm t2 = (ps.drop (low ps fm)).take (hiP ps t2 - low ps fm) from rfl)
  obtain ⟨i, hi⟩ : ∃ i, low ps fm = i := ⟨_, rfl⟩
  obtain ⟨k, hk⟩ : ∃ k, hiP ps t2 = k := ⟨_, rfl⟩
  rw [hi] at hlo HRg ⊢
  rw [hk] at hhi HRg ⊢
  clear hi hk hlt
  go_wp2_with fail
  go_loopw [9, 11] (fun s v wr => ∃ j : Nat, i ≤ j ∧ (j ≤ k ∨ j = i) ∧ s = .int .i64 j ∧ OwnP wr (Gro (fun _ => False) w wr) v ((ps.drop i).take (j - i)) ∧ Fr (fun _ => False) w wr) (fun s _ _ => ((k : Int) - intOf s).toNat)
  case atStart => exact ⟨i, by omega, .inr rfl, rfl, ⟨by rw [Nat.sub_self]; exact World.ownsRow_nil _ _ _ _, fun k hk => by simp [Value.ownBlock] at hk⟩, FC.out⟩
  case round =>
    obtain ⟨j, hj, hjk, rfl, ov, hf⟩ := hrel
    have HV := Lib.hid ov
    have HFr := Lib.hid hf
    by_cases hlt2 : j < k
    · have hltI : (j : Int) < k := by omega
      have hjn : j < ps.length := by omega
      have hjnI : (j : Int) < ps.length := by omega
      obtain ⟨g, cap', e1⟩ := own_some Ho.out (by omega)
      simp only [Value.slice.injEq] at e1
      obtain ⟨rfl, -, rfl⟩ := e1
      have c0 := blk_cell (hf.blk Hb.out (fun h => h)) 5 (L.get _)
      obtain ⟨p0, p1⟩ := own_pair (own_fr Ho.out hf (fun _ _ h => h)) rfl hjn
      obtain ⟨x, hx⟩ : ∃ x, ps[j].1 = x := ⟨_, rfl⟩
      obtain ⟨y, hy⟩ : ∃ y, ps[j].2 = y := ⟨_, rfl⟩
      rw [hx] at p0
      rw [hy] at p1
      have w1 : IntKind.i64.wrap ((j : Int) + 1) = j + 1 := IntWalk.i64_in _ (by omega)
      have htk : (ps.drop i).take (j + 1 - i) = (ps.drop i).take (j - i) ++ [(x, y)] := by
        have h1 : j - i < (ps.drop i).length := by rw [List.length_drop]; omega
        rw [show j + 1 - i = (j - i) + 1 by omega, List.take_succ_eq_append_getElem h1]
        have e : (ps.drop i)[j - i] = (x, y) := by
          rw [List.getElem_drop]
          have : i + (j - i) = j := by omega
          simp only [this, ← hx, ← hy]
        rw [e]
      have hl1 : ((ps.drop i).take (j - i)).length = j - i := by rw [List.length_take, List.length_drop]; omega
      have HT := Lib.hid htk
      have HL1 := Lib.hid hl1
      have Hov := Lib.hid (show wr.ownsRow 0 121 2 u11 (j - i) _ from hl1 ▸ ov.1)
      have hjb : j - i ≤ 100000 := by omega
      clear ov hf hx hy htk hl1 hlt2 hjk
      go_wp2_with (at_builtin; go_must (refine wpList_append_fresh _ wr rfl (.tmp 55) (.tmp 63) 93 rfl 121 i0 (.agg #[.int .i64 0, .int .i64 0]) 2 16 Tryd.underlying93 hi0 hz0 hz1 hz2 rfl (by decide) _ (j - i) _ rfl Hov.out #[.int .i64 x, .int .i64 y] rfl rfl rfl (by intro u hu; simp at hu; rcases hu with rfl | rfl <;> rfl) (by omega) (by omega) ?_); intro g2 cap2 w3 hown3 hf3 hat3; have HW3 := Lib.hid hown3; have HF3 := Lib.hid hf3; have HT3 := Lib.hid hat3; clear hown3 hf3 hat3)
      have Hge := Lib.hid (show ∀ m, u11.ownBlock = some m → w.heap.size ≤ m from fun m hm => by
        rcases HV.out.2 m hm with h | h
        · exact h.elim
        · exact h.1)
      have Hsw := Lib.hid (show w.heap.size ≤ wr.heap.size from HFr.out.size)
      go_roundw
      case rel =>
        have hlen : ((ps.drop i).take (j + 1 - i)).length = j - i + 1 := by rw [HT.out, List.length_append, HL1.out]; rfl
        refine ⟨j + 1, by omega, .inl (by omega), by go_num, ⟨?_, fun m hm => ?_⟩, ?_⟩
        · rw [hlen, HT.out, prs_app]
          exact HW3.out
        · refine .inr ⟨?_, own_lt HW3.out hm⟩
          rcases HT3.out m hm with h | h
          · exact Hge.out m h
          · have h2 := Hsw.out
            have h3 : (wr.alloc (.cells #[.int .i64 x, .int .i64 y] 121)).heap.size = wr.heap.size + 1 := Array.size_push ..
            omega
        · exact (HFr.out.alloc (.cells #[.int .i64 x, .int .i64 y] 121)).then_ HF3.out (fun m hm => .inr (Hge.out m hm))
      case measure => simp [intOf]; omega
    · have hltI : ¬ (j : Int) < k := by omega
      have hjk2 : j - i = k - i := by omega
      clear ov hf
      go_wp2_with fail
      go_ret
      exact ⟨u11, rfl, by rw [HRg.out, ← hjk2]; exact HV.out, HFr.out⟩
end Go.Proofs.YtjchjpmgbmeohaaDoor

/- Books, plain: which transfers' stamps lie between. No program in sight. -/
set_option linter.unusedSimpArgs false
set_option linter.unusedVariables false
namespace Go.Proofs.YtjchjpmgbmeohaaDoor
open Go.RowKit

theorem low_zero {ps : List Pr} {s : Int} (h : ∀ p ∈ ps, ¬ p.1 < s) : low ps s = 0 := by
  cases ps with
  | nil => rfl
  | cons p ps => simp only [low, if_neg (h p (List.mem_cons_self ..))]
theorem hiP_low {ps : List Pr} (hR : Ris ps) {b : Int} (hb : b ≠ 0) : hiP ps b = low ps (b + 1) := by
  rw [hiP, if_neg hb]
  induction ps with
  | nil => rfl
  | cons p ps ih =>
    have hr := List.pairwise_cons.1 hR
    have ih := ih hr.2
    by_cases h1 : p.1 < b
    · have e : low (p :: ps) b = low ps b + 1 := by simp only [low, if_pos h1]
      have e2 : low (p :: ps) (b + 1) = low ps (b + 1) + 1 := by simp only [low, if_pos (show p.1 < b + 1 by omega)]
      rw [e, e2, ← ih, List.map_cons, List.getElem?_cons_succ]
      split <;> rfl
    · have e : low (p :: ps) b = 0 := by simp only [low, if_neg h1]
      rw [e, List.map_cons, List.getElem?_cons_zero]
      by_cases h2 : p.1 = b
      · have e2 : low (p :: ps) (b + 1) = low ps (b + 1) + 1 := by simp only [low, if_pos (show p.1 < b + 1 by omega)]
        rw [if_pos (by rw [h2]), e2, low_zero (fun q hq => by have := hr.1 q hq; omega)]
      · have e2 : low (p :: ps) (b + 1) = 0 := by simp only [low, if_neg (show ¬ p.1 < b + 1 by omega)]
        rw [if_neg (by simpa using h2), e2]
def inP (a b : Int) (p : Pr) : Bool := decide (a ≤ p.1) && decide (p.1 ≤ b)
theorem range_filter {ps : List Pr} (hR : Ris ps) (a : Int) {b : Int} (hb : b ≠ 0) : rangeL ps a b = ps.filter (inP a b) := by
  rw [rangeL, hiP_low hR hb]
  induction ps with
  | nil => rfl
  | cons p ps ih =>
    have hr := List.pairwise_cons.1 hR
    have ih := ih hr.2
    by_cases h1 : p.1 < a
    · have e : low (p :: ps) a = low ps a + 1 := by simp only [low, if_pos h1]
      have e3 : inP a b p = false := by simp [inP]; omega
      rw [e, List.drop_succ_cons, List.filter_cons_of_neg (by simp [e3])]
      by_cases h2 : p.1 < b + 1
      · have e2 : low (p :: ps) (b + 1) = low ps (b + 1) + 1 := by simp only [low, if_pos h2]
        rw [e2, show low ps (b + 1) + 1 - (low ps a + 1) = low ps (b + 1) - low ps a by omega]
        exact ih
      · have e2 : low (p :: ps) (b + 1) = 0 := by simp only [low, if_neg h2]
        rw [e2, Nat.zero_sub, List.take_zero]
        symm
        rw [List.filter_eq_nil_iff]
        intro q hq
        have := hr.1 q hq
        simp [inP]
        omega
    · have e : low (p :: ps) a = 0 := by simp only [low, if_neg h1]
      rw [e, List.drop_zero, Nat.sub_zero]
      have ez : low ps a = 0 := low_zero (fun q hq => by have := hr.1 q hq; omega)
      rw [ez, List.drop_zero, Nat.sub_zero] at ih
      by_cases h2 : p.1 < b + 1
      · have e2 : low (p :: ps) (b + 1) = low ps (b + 1) + 1 := by simp only [low, if_pos h2]
        have e3 : inP a b p = true := by simp [inP]; omega
        rw [e2, List.take_succ_cons, List.filter_cons_of_pos e3, ih]
      · have e2 : low (p :: ps) (b + 1) = 0 := by simp only [low, if_neg h2]
        rw [e2, List.take_zero]
        symm
        rw [List.filter_eq_nil_iff]
        intro q hq
        rcases List.mem_cons.1 hq with rfl | hq
        · simp [inP]; omega
        · have := hr.1 q hq
          simp [inP]
          omega
theorem range_open {ps : List Pr} (hR : Ris ps) (a : Int) : rangeL ps a 0 = ps.filter (fun p => decide (a ≤ p.1)) := by
  have e : rangeL ps a 0 = ps.drop (low ps a) := by
    rw [rangeL, hiP, if_pos rfl, List.take_of_length_le (by rw [List.length_drop]; exact Nat.le_refl _)]
  rw [e]
  induction ps with
  | nil => rfl
  | cons p ps ih =>
    have hr := List.pairwise_cons.1 hR
    by_cases h1 : p.1 < a
    · have e1 : low (p :: ps) a = low ps a + 1 := by simp only [low, if_pos h1]
      rw [e1, List.drop_succ_cons, List.filter_cons_of_neg (by simp; omega)]
      refine ih hr.2 ?_
      rw [rangeL, hiP, if_pos rfl, List.take_of_length_le (by rw [List.length_drop]; exact Nat.le_refl _)]
    · have e1 : low (p :: ps) a = 0 := by simp only [low, if_neg h1]
      rw [e1, List.drop_zero]
      symm
      rw [List.filter_eq_self]
      intro q hq
      rcases List.mem_cons.1 hq with rfl | hq
      · simp; omega
      · have := hr.1 q hq
        simp
        omega
/-- Pairs of stamps and places, from a place on. -/
def ixs : Nat → List Kp → List Pr
  | _, [] => []
  | n, k :: l => (k.move.stamp, (n : Int)) :: ixs (n + 1) l
theorem ixs_mem : ∀ (l : List Kp) (n : Nat) (s a : Int), (s, a) ∈ ixs n l ↔ ∃ (j : Nat) (k : Kp), a = ((n + j : Nat) : Int) ∧ l[j]? = some k ∧ k.move.stamp = s
  | [], n, s, a => by simp [ixs]
  | x :: l, n, s, a => by
    rw [ixs, List.mem_cons, ixs_mem l (n + 1) s a]
    constructor
    · rintro (h | ⟨j, k, rfl, hk, hs⟩)
      · cases h; exact ⟨0, x, rfl, rfl, rfl⟩
      · exact ⟨j + 1, k, by omega, by simpa using hk, hs⟩
    · rintro ⟨j, k, rfl, hk, hs⟩
      cases j with
      | zero => simp only [List.getElem?_cons_zero, Option.some.injEq] at hk; subst hk; left; rw [hs]; rfl
      | succ j => right; exact ⟨j, k, by omega, by simpa using hk, hs⟩
theorem ixs_ris : ∀ (l : List Kp) (n : Nat), l.Pairwise (fun a b => a.move.stamp < b.move.stamp) → Ris (ixs n l)
  | [], n, _ => List.Pairwise.nil
  | x :: l, n, h => by
    rw [List.pairwise_cons] at h
    refine List.pairwise_cons.2 ⟨fun p hp => ?_, ixs_ris l (n + 1) h.2⟩
    obtain ⟨s, a⟩ := p
    obtain ⟨j, k, -, hk, hs⟩ := (ixs_mem l (n + 1) s a).1 hp
    have := h.1 k (List.mem_of_getElem? hk)
    show x.move.stamp < s
    omega
theorem ris_ext : ∀ {a b : List Pr}, Ris a → Ris b → (∀ p, p ∈ a ↔ p ∈ b) → a = b
  | [], [], _, _, _ => rfl
  | [], y :: b, _, _, h => by have := (h y).2 (List.mem_cons_self ..); cases this
  | x :: a, [], _, _, h => by have := (h x).1 (List.mem_cons_self ..); cases this
  | x :: a, y :: b, ha, hb, h => by
    have ha' := List.pairwise_cons.1 ha
    have hb' := List.pairwise_cons.1 hb
    have hxy : x = y := by
      rcases List.mem_cons.1 ((h x).1 (List.mem_cons_self ..)) with e | hx
      · exact e
      · rcases List.mem_cons.1 ((h y).2 (List.mem_cons_self ..)) with e | hy
        · exact e.symm
        · have h1 := hb'.1 x hx
          have h2 := ha'.1 y hy
          omega
    subst hxy
    have : a = b := ris_ext ha'.2 hb'.2 (fun p => by
      constructor
      · intro hp
        rcases List.mem_cons.1 ((h p).1 (List.mem_cons_of_mem _ hp)) with e | hq
        · subst e; have := ha'.1 p hp; omega
        · exact hq
      · intro hp
        rcases List.mem_cons.1 ((h p).2 (List.mem_cons_of_mem _ hp)) with e | hq
        · subst e; have := hb'.1 p hp; omega
        · exact hq)
    rw [this]
theorem orel_ixs {r : Raw} {ps : List Pr} (g : Good r) (h : ORel ps r.sts) : ps = ixs 0 r.kept := by
  refine ris_ext h.up (ixs_ris _ _ g.ris) (fun p => ?_)
  obtain ⟨s, a⟩ := p
  rw [h.iff, g.sts, ixs_mem]
  constructor
  · rintro ⟨k, x, e, hx, hs⟩; exact ⟨k, x, by omega, hx, hs⟩
  · rintro ⟨k, x, e, hx, hs⟩; exact ⟨k, x, by omega, hx, hs⟩
/-- Between two stamps? -/
def inB (a b s : Int) : Bool := decide (a ≤ s) && (decide (b = 0) || decide (s ≤ b))
def Kbt (r : Raw) (a b : Int) : List Kp := r.kept.filter (fun k => inB a b k.move.stamp)
theorem ixs_at (full : List Kp) (Q : Int → Bool) : ∀ (l : List Kp) (n : Nat), (∀ (j : Nat) (k : Kp), l[j]? = some k → full[n + j]? = some k) → ((ixs n l).filter (fun p => Q p.1)).map (fun p => (atZ full p.2).getD Kp.zero) = l.filter (fun k => Q k.move.stamp)
  | [], n, _ => rfl
  | x :: l, n, h => by
    have ih := ixs_at full Q l (n + 1) (fun j k hk => by have := h (j + 1) k (by simpa using hk); rwa [show n + 1 + j = n + (j + 1) by omega])
    have hx : atZ full ((n : Nat) : Int) = some x := by rw [atZ, if_neg (by omega), Int.toNat_natCast]; exact h 0 x rfl
    rw [ixs]
    cases hq : Q x.move.stamp with
    | true => rw [List.filter_cons_of_pos (by exact hq), List.filter_cons_of_pos (by exact hq), List.map_cons, ih, hx]; rfl
    | false => rw [List.filter_cons_of_neg (by simp [hq]), List.filter_cons_of_neg (by simp [hq]), ih]
theorem range_inB {ps : List Pr} (hR : Ris ps) (a b : Int) : rangeL ps a b = ps.filter (fun p => inB a b p.1) := by
  by_cases hb : b = 0
  · subst hb
    rw [range_open hR]
    apply List.filter_congr
    intro p _
    simp [inB]
  · rw [range_filter hR a hb]
    apply List.filter_congr
    intro p _
    simp [inB, inP, hb]
theorem range_kept {r : Raw} {ps : List Pr} (g : Good r) (h : ORel ps r.sts) (a b : Int) : (rangeL ps a b).map (fun p => (atZ r.kept p.2).getD Kp.zero) = Kbt r a b := by
  rw [range_inB h.up, orel_ixs g h]
  exact ixs_at r.kept (inB a b) r.kept 0 (fun j k hk => by rwa [Nat.zero_add])
end Go.Proofs.YtjchjpmgbmeohaaDoor

/- A whole block is stored over. -/
set_option linter.unusedSimpArgs false
set_option linter.unusedVariables false
namespace Go.Proofs.YtjchjpmgbmeohaaDoor
open Go.RowKit

/-- A store of a whole struct into a block that is known, as an equation. -/
theorem st_over {P : Program} (w : World) {g : Nat} {Z C : Array Value} {T : TypeId} (hb : w.heap[g]? = some (.cells Z T (0, 0))) (hs : Z.size = C.size) (h1 : C.all (·.oneCell') = true) : ∃ W : World, (storeCells ⟨g, 0, none⟩ C.toList).run P w = .ok () W ∧ W.heap[g]? = some (.cells C T (0, 0)) ∧ Fr (fun k => k = g) w W := by
  have hth : w.there g 0 C.size := fun j hj => by
    have hz : Z[0 + j]? = some (Z[0 + j]'(by omega)) := Array.getElem?_eq_getElem (by omega)
    exact ⟨by rw [blk_cell hb (0 + j) hz]; rfl, blk_free hb _⟩
  refine ⟨_, st_mid w g 0 C hth h1, ?_, setCells_fr g C.toList 0 _⟩
  have key : ∀ (l : List Value) (o : Nat) (W : World) (X : Array Value), W.heap[g]? = some (.cells X T (0, 0)) → o + l.length = X.size → ∃ Y : Array Value, (W.setCells g o l).heap[g]? = some (.cells Y T (0, 0)) ∧ Y.toList = X.toList.take o ++ l := by
    intro l
    induction l with
    | nil => intro o W X hW ho; exact ⟨X, hW, by rw [List.append_nil, List.take_of_length_le (by simp at ho ⊢; omega)]⟩
    | cons v l ih =>
      intro o W X hW ho
      obtain ⟨Y, hY, e⟩ := ih (o + 1) (W.setCell ⟨g, o, none⟩ v) (X.setIfInBounds o v) (blk_set hW o v) (by simp at ho ⊢; omega)
      refine ⟨Y, hY, ?_⟩
      rw [e]
      have ho' : o < X.toList.length := by simp at ho ⊢; omega
      rw [Array.toList_setIfInBounds, List.take_add_one, List.getElem?_set_self ho', List.take_set, List.set_eq_of_length_le (by simp; omega)]
      simp
  obtain ⟨Y, hY, e⟩ := key C.toList 0 _ Z hb (by simp; omega)
  rw [hY]
  have : Y = C := Array.ext' (by rw [e]; simp)
  rw [this]
end Go.Proofs.YtjchjpmgbmeohaaDoor
