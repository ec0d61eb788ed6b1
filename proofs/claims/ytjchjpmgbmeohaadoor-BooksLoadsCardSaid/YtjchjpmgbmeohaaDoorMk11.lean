/- Several texts in one, for the law BooksBack: RfG, SmB, RfF, SmC, DoA, DoB, DoC. Each says what it shows; conditions: what each theorem names. -/
import Derived.Test.YtjchjpmgbmeohaaDoorMk9
import Derived.Test.YtjchjpmgbmeohaaDoorMk10
import Derived.Test.YtjchjpmgbmeohaaDoorMk8
import Derived.Test.YtjchjpmgbmeohaaDoorMk6
import Derived.Deep.RegionLaw
/- Both sides at once: what lies where. -/
set_option linter.unusedSimpArgs false
set_option linter.unusedVariables false
namespace Go.Proofs.YtjchjpmgbmeohaaDoor
open Go.RowKit

structure Cl where
  kind : Int
  account : Acc
  asked : Tx
  move : Tx
  waits : Bool
  id : Nm
  n : Int
def Cl.cells (c : Cl) : List Value := [.int .i64 c.kind] ++ c.account.cells ++ c.asked.cells ++ c.move.cells ++ [.bool c.waits, .int .u64 c.id.hi, .int .u64 c.id.lo, .int .i64 c.n]
/-- A part of a block that is known whole. -/
theorem ld_part {P : Program} {W : World} {g o n : Nat} {t : TypeId} {fr : Nat × Nat} (A xs B : List Value) (ho : A.length = o) (hn : xs.length = n) (h : W.heap[g]? = some (.cells (A ++ xs ++ B).toArray t fr)) : (loadCells ⟨g, o, none⟩ n).run P W = .ok xs.toArray W := by
  have hl := run_loadCells_list (P := P) W ⟨g, o, none⟩ xs (fun j v hv => by
    have hadd : (⟨g, o, none⟩ : Addr).add j = ⟨g, o + j, none⟩ := by unfold Addr.add; split <;> simp_all
    have hj := (List.getElem?_eq_some_iff.1 hv).1
    rw [hadd, cell_of_row W g (o + j) _ _ _ h]
    rw [List.getElem?_toArray, List.append_assoc, List.getElem?_append_right (by omega), show o + j - A.length = j by omega, List.getElem?_append_left hj, hv])
  rw [hn] at hl
  exact hl
/-- What both sides are: the books r (log es), the document's m, marks ms (the latest first). -/
structure BtX (F : Nat → Prop) (w0 w : World) (b : Nat) (d : Dd) (M : Nat) (r : Raw) (es : List Ent) (big : Nat) (m : RM) (ms : List (Raw × List Ent)) (lab q : Nat → Nat) (mv wv : Value) (id : Nat) (st : List (Nat × Nat)) : Prop where
  sta : Sta w lab d r es big
  blk : w.heap[b]? = some (.cells #[.pointer (some ⟨d.B, 0, none⟩), .pointer (some ⟨M, 0, none⟩), mv, wv] 61 (0, 0))
  mrk : w.ownsRow 0 3 1 mv ms.length (ms.reverse.map fun x => .int .i64 x.2.length)
  was : w.ownsRow 0 57 1 wv ms.length (st.reverse.map fun p => .pointer (some ⟨p.2, 0, none⟩))
  len : st.length = ms.length
  cur : MS w (fun k => q k = id) M m
  old : ∀ (i : Nat) (p : Nat × Nat) (x : Raw × List Ent), st[i]? = some p → ms[i]? = some x → MS w (fun k => q k = p.1) p.2 x.1.rm
  nd : (id :: st.map (·.1)).Nodup
  two : ∀ j ∈ id :: st.map (·.1), 2 ≤ j
  qb : q b = 1
  qm : ∀ k, mv.ownBlock = some k → q k = 1 ∧ k ≠ b
  qw : ∀ k, wv.ownBlock = some k → q k = 1 ∧ k ≠ b
  mw : ∀ k, mv.ownBlock = some k → ¬ wv.ownBlock = some k
  q0 : ∀ k, q k ≠ 0 → lab k = 0 ∧ w0.heap.size ≤ k ∧ k < w.heap.size
  l0 : ∀ k, lab k ≠ 0 → w0.heap.size ≤ k
  fr : Fr (fun _ => False) w0 w
  ff : ∀ k, F k → lab k = 0 ∧ q k = 0 ∧ k < w.heap.size
def Bt (F : Nat → Prop) (w0 w : World) (b : Nat) (d : Dd) (M : Nat) (r : Raw) (es : List Ent) (big : Nat) (m : RM) (ms : List (Raw × List Ent)) : Prop := ∃ lab q mv wv id st, BtX F w0 w b d M r es big m ms lab q mv wv id st
section
variable {F F2 : Nat → Prop} {w0 w w' : World} {b : Nat} {d : Dd} {M : Nat} {r r' : Raw} {es es' : List Ent} {big big' : Nat} {m m' : RM} {ms : List (Raw × List Ent)} {lab lab' q : Nat → Nat} {mv wv : Value} {id : Nat} {st : List (Nat × Nat)}
/-- Nothing of the state's own is written: what lies elsewhere, or is new. -/
theorem BtX.frs {S : Nat → Prop} (h : BtX F w0 w b d M r es big m ms lab q mv wv id st) (hs : Sta w' lab' d r' es' big') (f : Fr S w w') (hn : ∀ k, q k ≠ 0 → ¬ S k) (hl : ∀ k, k < w.heap.size → lab k = 0 → lab' k = 0) (hw : ∀ k, S k → w0.heap.size ≤ k) (hl' : ∀ k, lab' k ≠ 0 → w0.heap.size ≤ k) : BtX F w0 w' b d M r' es' big' m ms lab' q mv wv id st where
  sta := hs
  blk := f.blk h.blk (hn b (by rw [h.qb]; decide))
  mrk := own_fr h.mrk f (fun k hk => hn k (by rw [(h.qm k hk).1]; decide))
  was := own_fr h.was f (fun k hk => hn k (by rw [(h.qw k hk).1]; decide))
  len := h.len
  cur := h.cur.fr f (fun k hk => hn k (by have hk : q k = id := hk; have := h.two id (List.mem_cons_self ..); omega))
  old := fun i p x hp hx => (h.old i p x hp hx).fr f (fun k hk => hn k (by have hk : q k = p.1 := hk; have := h.two p.1 (List.mem_cons_of_mem _ (List.mem_map.2 ⟨p, List.mem_of_getElem? hp, rfl⟩)); omega))
  nd := h.nd
  two := h.two
  qb := h.qb
  qm := h.qm
  qw := h.qw
  mw := h.mw
  q0 := fun k hk => by
    obtain ⟨h1, h2, h3⟩ := h.q0 k hk
    exact ⟨hl k h3 h1, h2, Nat.lt_of_lt_of_le h3 f.size⟩
  l0 := hl'
  fr := h.fr.then_ f (fun k hk => .inr (hw k hk))
  ff := fun k hk => by obtain ⟨h1, h2, h3⟩ := h.ff k hk; exact ⟨hl k h3 h1, h2, Nat.lt_of_lt_of_le h3 f.size⟩
theorem Bt.frF (h : Bt F w0 w b d M r es big m ms) (f : Fr (fun _ => False) w w') : Bt F w0 w' b d M r es big m ms := by
  obtain ⟨lab, q, mv, wv, id, st, h⟩ := h
  exact ⟨lab, q, mv, wv, id, st, h.frs (h.sta.fr f (fun _ h => h.elim)) f (fun _ _ h => h) (fun _ _ h => h) (fun _ h => h.elim) h.l0⟩
theorem Bt.more (h : Bt F w0 w b d M r es big m ms) (hb : big ≤ big') : Bt F w0 w b d M r es big' m ms := by
  obtain ⟨lab, q, mv, wv, id, st, h⟩ := h
  exact ⟨lab, q, mv, wv, id, st, { h with sta := h.sta.more hb }⟩
theorem Bt.cells (h : Bt F w0 w b d M r es big m ms) : w.cell? ⟨b, 0, none⟩ = some (.pointer (some ⟨d.B, 0, none⟩)) ∧ w.cell? ⟨b, 1, none⟩ = some (.pointer (some ⟨M, 0, none⟩)) := by
  obtain ⟨lab, q, mv, wv, id, st, h⟩ := h
  exact ⟨blk_cell h.blk 0 rfl, blk_cell h.blk 1 rfl⟩
theorem Bt.old0 (h : Bt F w0 w b d M r es big m ms) : Fr (fun _ => False) w0 w := by
  obtain ⟨lab, q, mv, wv, id, st, h⟩ := h
  exact h.fr
theorem Bt.alv (h : Bt F w0 w b d M r es big m ms) : Alv w0 w d r es big := by
  obtain ⟨lab, q, mv, wv, id, st, h⟩ := h
  exact ⟨lab, h.sta, h.l0, h.fr⟩
theorem Bt.box (h : Bt F w0 w b d M r es big m ms) (o : Obj) : Bt (fun k => F k ∨ k = w.heap.size) w0 (w.alloc o) b d M r es big m ms := by
  obtain ⟨lab, q, mv, wv, id, st, h⟩ := h
  have f := (Fr.refl (fun _ => False) w).alloc o
  have k := h.frs (h.sta.fr f (fun _ h => h.elim)) f (fun _ _ h => h) (fun _ _ h => h) (fun _ h => h.elim) h.l0
  exact ⟨lab, q, mv, wv, id, st, { k with ff := fun j hj => hj.elim (fun hj => k.ff j hj) (fun e => ⟨by rw [e]; exact h.sta.free (Nat.le_refl _), by rw [e]; by_cases h0 : q w.heap.size = 0; exact h0; exact absurd (h.q0 _ h0).2.2 (Nat.lt_irrefl _), by rw [e]; simp⟩) }⟩
theorem Bt.less (h : Bt F w0 w b d M r es big m ms) (hs : ∀ k, F2 k → F k) : Bt F2 w0 w b d M r es big m ms := by
  obtain ⟨lab, q, mv, wv, id, st, h⟩ := h
  exact ⟨lab, q, mv, wv, id, st, { h with ff := fun k hk => h.ff k (hs k hk) }⟩
/-- A step of the books. -/
theorem BtX.books (h : BtX F w0 w b d M r es big m ms lab q mv wv id st) (hs : Sta w' lab' d r' es' big') (p : Stp w.heap.size w lab w' lab') : Bt F w0 w' b d M r' es' big' m ms :=
  ⟨lab', q, mv, wv, id, st, h.frs hs p.fr (fun k hk hs => hs.1 (h.q0 k hk).1) (fun k hk h0 => by rw [p.lx k hk, h0]) (fun k hk => h.l0 k hk.1) (fun k hk => by
    by_cases hlt : k < w.heap.size
    · rw [p.lx k hlt] at hk
      exact h.l0 k hk
    · have := h.fr.size; omega)⟩
/-- A step of the document's state. -/
theorem BtX.model (h : BtX F w0 w b d M r es big m ms lab q mv wv id st) (hm : MS w' (Gro (fun k => q k = id) w w') M m') (f : Fr (fun k => q k = id) w w') : Bt F w0 w' b d M r es big m' ms := by
  have h2 := h.two id (List.mem_cons_self ..)
  have hne : ∀ p ∈ st, p.1 ≠ id := fun p hp e => by
    have := h.nd
    rw [List.nodup_cons] at this
    exact this.1 (List.mem_map.2 ⟨p, hp, e⟩)
  have hold : ∀ k, k < w.heap.size → ext q w.heap.size w'.heap.size id k = q k := fun k hk => by rw [ext, if_pos hk]
  have hsz := f.size
  have hl0 : ∀ k, q k = id → lab k = 0 := fun k hk => (h.q0 k (by rw [hk]; omega)).1
  have own0 : ∀ k, q k = 1 → ext q w.heap.size w'.heap.size id k = 1 := fun k hk => by rw [hold k (h.q0 k (by rw [hk]; decide)).2.2, hk]
  have sub : ∀ (j k : Nat), j ≠ 0 → q k = j → ext q w.heap.size w'.heap.size id k = j := fun j k hj hk => by rw [hold k (h.q0 k (by rw [hk]; exact hj)).2.2, hk]
  have new : ∀ k, ext q w.heap.size w'.heap.size id k ≠ 0 → k < w'.heap.size := fun k hk => by
    rw [ext] at hk
    split at hk
    · omega
    · split at hk
      · assumption
      · exact absurd rfl hk
  refine ⟨lab, ext q w.heap.size w'.heap.size id, mv, wv, id, st, ⟨h.sta.fr f hl0, f.blk h.blk (fun e => by have e : q b = id := e; rw [h.qb] at e; omega), own_fr h.mrk f (fun k hk e => by have e : q k = id := e; rw [(h.qm k hk).1] at e; omega), own_fr h.was f (fun k hk e => by have e : q k = id := e; rw [(h.qw k hk).1] at e; omega), h.len, hm.mono (fun k hk => ?_) (fun k hk => new k (by have hk : ext q w.heap.size w'.heap.size id k = id := hk; rw [hk]; omega)), fun i p x hp hx => ?_, h.nd, h.two, own0 b h.qb, fun k hk => ⟨own0 k (h.qm k hk).1, (h.qm k hk).2⟩, fun k hk => ⟨own0 k (h.qw k hk).1, (h.qw k hk).2⟩, h.mw, fun k hk => ?_, h.l0, h.fr.then_ f (fun k hk => .inr ?_), fun k hk => by obtain ⟨h1, h2, h3⟩ := h.ff k hk; exact ⟨h1, by rw [hold k h3, h2], Nat.lt_of_lt_of_le h3 hsz⟩⟩⟩
  · rcases hk with hk | hk
    · exact sub id k (by omega) hk
    · show ext q w.heap.size w'.heap.size id k = id
      rw [ext, if_neg (by omega), if_pos hk.2]
  · have hpm := List.mem_of_getElem? hp
    have h2p := h.two p.1 (List.mem_cons_of_mem _ (List.mem_map.2 ⟨p, hpm, rfl⟩))
    refine ((h.old i p x hp hx).fr f (fun k hk e => hne p hpm (by have hk : q k = p.1 := hk; have e : q k = id := e; rw [← hk, e]))).mono (fun k hk => sub p.1 k (by omega) hk) (fun k hk => new k (by have hk : ext q w.heap.size w'.heap.size id k = p.1 := hk; rw [hk]; omega))
  · by_cases hlt : k < w.heap.size
    · rw [hold k hlt] at hk
      obtain ⟨h1, h3, h4⟩ := h.q0 k hk
      exact ⟨h1, h3, by omega⟩
    · exact ⟨h.sta.free (by omega), by have := h.fr.size; omega, new k hk⟩
  · have hk : q k = id := hk
    exact (h.q0 k (by rw [hk]; omega)).2.1
end
/-! The calls. -/
section
variable {F : Nat → Prop} {w0 w : World} {b : Nat} {d : Dd} {M : Nat} {r : Raw} {es : List Ent} {big : Nat} {m : RM} {ms : List (Raw × List Ent)}
def BtP (F : Nat → Prop) (w0 w : World) (b : Nat) (d : Dd) (M : Nat) (big : Nat) (m : RM) (ms : List (Raw × List Ent)) (R : Int → Raw → List Ent → Prop) (e : Ending) (w' : World) : Prop := ∃ c r' es', e = .returned (.int .i64 c) ∧ R c r' es' ∧ Bt F w0 w' b d M r' es' (big + 7) m ms ∧ Fr (fun k => ¬ F k) w w'
def BmP (F : Nat → Prop) (w0 w : World) (b : Nat) (d : Dd) (M : Nat) (r : Raw) (es : List Ent) (big : Nat) (ms : List (Raw × List Ent)) (R : Int → RM → Prop) (e : Ending) (w' : World) : Prop := ∃ c m', e = .returned (.int .i64 c) ∧ R c m' ∧ Bt F w0 w' b d M r es big m' ms ∧ Fr (fun k => ¬ F k) w w'
theorem btOpen (h : Bt F w0 w b d M r es big m ms) (g : Good r) (a : Acc) (hb : big ≤ 10000) : Calls Tryd.prog 16 #[.pointer (some ⟨d.B, 0, none⟩), .agg a.cells.toArray] w (BtP F w0 w b d M big m ms (OpenR r es a)) := by
  obtain ⟨lab, q, mv, wv, id, st, h⟩ := h
  have := g.na; have := g.nk; have := g.s1
  exact (openS w lab d r es big a h.sta hb g.s0 (by omega) (by omega)).mono fun e w' ⟨c, lab', r', es', he, hr, hs, hp⟩ => ⟨c, r', es', he, hr, (h.books hs hp).more (by omega), hp.fr.mono (fun k hk hF => hk.1 (h.ff k hF).1)⟩
theorem btTurn (h : Bt F w0 w b d M r es big m ms) (g : Good r) (a : Acc) (hb : big ≤ 10000) : Calls Tryd.prog 40 #[.pointer (some ⟨d.B, 0, none⟩), .agg a.cells.toArray] w (BtP F w0 w b d M big m ms (TurnR r es a)) := by
  obtain ⟨lab, q, mv, wv, id, st, h⟩ := h
  have := g.na
  exact (turnS w lab d r es big a h.sta (by omega) (by omega)).mono fun e w' ⟨c, lab', r', es', he, hr, hs, hp⟩ => ⟨c, r', es', he, hr, (h.books hs hp).more (by omega), hp.fr.mono (fun k hk hF => hk.1 (h.ff k hF).1)⟩
theorem btKeep (h : Bt F w0 w b d M r es big m ms) (g : Good r) (a mv : Tx) (wt : Bool) (hb : big ≤ 10000) : Calls Tryd.prog 18 #[.pointer (some ⟨d.B, 0, none⟩), .agg a.cells.toArray, .agg mv.cells.toArray, .bool wt] w (BtP F w0 w b d M big m ms (KeepR r es a mv wt)) := by
  obtain ⟨lab, q, mv', wv, id, st, h⟩ := h
  have := g.na; have := g.nk; have := g.s1
  exact (keepFS w lab d r es big a mv wt h.sta (by omega) g.s0 (by omega) (by omega) g.next.1).mono fun e w' ⟨c, lab', r', es', he, hr, hs, hp⟩ => ⟨c, r', es', he, hr, (h.books hs hp).more (by omega), hp.fr.mono (fun k hk hF => hk.1 (h.ff k hF).1)⟩
theorem btEnd (h : Bt F w0 w b d M r es big m ms) (g : Good r) (x : Nm) (fate : Int) (hb : big ≤ 10000) : Calls Tryd.prog 41 #[.pointer (some ⟨d.B, 0, none⟩), .agg #[.int .u64 x.hi, .int .u64 x.lo], .int .i64 fate] w (BtP F w0 w b d M big m ms (EndR r es x fate)) := by
  obtain ⟨lab, q, mv, wv, id, st, h⟩ := h
  have := g.nk
  exact (endS w lab d r es big x fate h.sta (by omega) (by omega)).mono fun e w' ⟨c, lab', r', es', he, hr, hs, hp⟩ => ⟨c, r', es', he, hr, (h.books hs hp).more (by omega), hp.fr.mono (fun k hk hF => hk.1 (h.ff k hF).1)⟩
theorem btTime (h : Bt F w0 w b d M r es big m ms) (now : Int) (hb : big ≤ 10000) : Calls Tryd.prog 39 #[.pointer (some ⟨d.B, 0, none⟩), .int .i64 now] w fun e w' => e = .returned (.tuple #[]) ∧ ∃ r' es', TimeR r es now r' es' ∧ Bt F w0 w' b d M r' es' (big + 7) m ms ∧ Fr (fun k => ¬ F k) w w' := by
  obtain ⟨lab, q, mv, wv, id, st, h⟩ := h
  exact (timeS w lab d r es big now h.sta (by omega)).mono fun e w' ⟨he, lab', r', es', hr, hs, hp⟩ => ⟨he, r', es', hr, (h.books hs hp).more (by omega), hp.fr.mono (fun k hk hF => hk.1 (h.ff k hF).1)⟩
theorem bmOpen (h : Bt F w0 w b d M r es big m ms) (a : Acc) (hn : m.accs.length ≤ 100000) (h0 : 0 ≤ m.stamp) (h1 : m.stamp ≤ 4611686018427387904) : Calls Tryd.prog 73 #[.pointer (some ⟨M, 0, none⟩), .agg a.cells.toArray] w (BmP F w0 w b d M r es big ms (MOpen m a)) := by
  obtain ⟨lab, q, mv, wv, id, st, h⟩ := h
  exact (mOpen w _ M m a h.cur hn h0 h1).mono fun e w' ⟨c, m', he, hr, hs, hf⟩ => ⟨c, m', he, hr, h.model hs hf, hf.mono (fun k hk hF => by have hk : q k = id := hk; have h1 := (h.ff k hF).2.1; have h2 := h.two id (List.mem_cons_self ..); omega)⟩
theorem bmTurn (h : Bt F w0 w b d M r es big m ms) (a : Acc) (hn : m.accs.length ≤ 100000) : Calls Tryd.prog 74 #[.pointer (some ⟨M, 0, none⟩), .agg a.cells.toArray] w (BmP F w0 w b d M r es big ms (MTurn m a)) := by
  obtain ⟨lab, q, mv, wv, id, st, h⟩ := h
  exact (mTurn w _ M m a h.cur hn).mono fun e w' ⟨c, m', he, hr, hs, hf⟩ => ⟨c, m', he, hr, h.model hs hf, hf.mono (fun k hk hF => by have hk : q k = id := hk; have h1 := (h.ff k hF).2.1; have h2 := h.two id (List.mem_cons_self ..); omega)⟩
theorem bmKeep (h : Bt F w0 w b d M r es big m ms) (a mv : Tx) (wt : Bool) (hn : m.kept.length ≤ 100000) (h0 : 0 ≤ m.stamp) (h1 : m.stamp ≤ 4611686018427387904) : Calls Tryd.prog 75 #[.pointer (some ⟨M, 0, none⟩), .agg a.cells.toArray, .agg mv.cells.toArray, .bool wt] w (BmP F w0 w b d M r es big ms (MKeep m a mv wt)) := by
  obtain ⟨lab, q, mv', wv, id, st, h⟩ := h
  exact (mKeep w _ M m a mv wt h.cur hn h0 h1).mono fun e w' ⟨c, m', he, hr, hs, hf⟩ => ⟨c, m', he, hr, h.model hs hf, hf.mono (fun k hk hF => by have hk : q k = id := hk; have h1 := (h.ff k hF).2.1; have h2 := h.two id (List.mem_cons_self ..); omega)⟩
theorem bmEnd (h : Bt F w0 w b d M r es big m ms) (x : Nm) (fate : Int) (hn : m.kept.length ≤ 100000) : Calls Tryd.prog 76 #[.pointer (some ⟨M, 0, none⟩), .agg #[.int .u64 x.hi, .int .u64 x.lo], .int .i64 fate] w (BmP F w0 w b d M r es big ms (MEnd m x fate)) := by
  obtain ⟨lab, q, mv, wv, id, st, h⟩ := h
  exact (mEnd w _ M m x fate h.cur hn).mono fun e w' ⟨c, m', he, hr, hs, hf⟩ => ⟨c, m', he, hr, h.model hs hf, hf.mono (fun k hk hF => by have hk : q k = id := hk; have h1 := (h.ff k hF).2.1; have h2 := h.two id (List.mem_cons_self ..); omega)⟩
theorem bmTime (h : Bt F w0 w b d M r es big m ms) (now : Int) : Calls Tryd.prog 77 #[.pointer (some ⟨M, 0, none⟩), .int .i64 now] w fun e w' => e = .returned (.tuple #[]) ∧ Bt F w0 w' b d M r es big { m with clock := if m.clock < now ∧ now ≤ 1099511627776 then now else m.clock } ms ∧ Fr (fun k => ¬ F k) w w' := by
  obtain ⟨lab, q, mv, wv, id, st, h⟩ := h
  exact (mTime w _ M m now h.cur).mono fun e w' ⟨he, hs, hf⟩ => ⟨he, h.model (hs.mono (fun k hk => .inl hk) (fun k hk => hk.elim (fun hk => Nat.lt_of_lt_of_le (h.cur.lt hk) hf.size) (fun h => h.2))) hf, hf.mono (fun k hk hF => by have hk : q k = id := hk; have h1 := (h.ff k hF).2.1; have h2 := h.two id (List.mem_cons_self ..); omega)⟩
end
/-! The same answer, the same state. -/
section
variable {r r' : Raw} {es es' : List Ent} {m : RM} {c c' : Int}
theorem open_match {a : Acc} (g : Good r) (h : OpenR r es a c r' es') (k : MOpen r.rm a c' m) : c = c' ∧ m = r'.rm := by
  have hn := ixr_none g.ids a.id
  cases h with
  | full h => cases k with
    | full _ => exact ⟨rfl, rfl⟩
    | there k _ => exact absurd h (by have : r.accs.length < 32 := k; omega)
    | done k _ => exact absurd h (by have : r.accs.length < 32 := k; omega)
  | there h h2 => cases k with
    | full k => exact absurd (show 32 ≤ r.accs.length from k) (by omega)
    | there _ _ => exact ⟨rfl, rfl⟩
    | done _ k => rw [hn.2 k] at h2; cases h2
  | done h h2 b1 b2 b3 b4 b5 => cases k with
    | full k => exact absurd (show 32 ≤ r.accs.length from k) (by omega)
    | there _ k => obtain ⟨x, hx, e⟩ := k; exact absurd e (hn.1 h2 x hx)
    | done _ _ => exact ⟨rfl, rfl⟩
theorem turn_match {a : Acc} (g : Good r) (h : TurnR r es a c r' es') (k : MTurn r.rm a c' m) : c = c' ∧ m = r'.rm := by
  have key : ∀ (k : Nat) (old : Acc), r.accs[k]? = some old → old.id = a.id → r.ids a.id = some (k : Int) := fun k old hk e => (g.ids _ _).2 ⟨k, old, rfl, hk, e⟩
  cases h with
  | none h => cases k with
    | none _ => exact ⟨rfl, rfl⟩
    | done k old hk e =>
      have hk : r.accs[k]? = some old := hk
      have : acctR r a.id = some old := by unfold acctR; rw [key k old hk e]; show atZ r.accs (k : Int) = _; rw [atZ, if_neg (by omega), Int.toNat_natCast, hk]
      rw [this] at h; cases h
  | done i old hi h b0 b1 b2 => cases k with
    | none k =>
      obtain ⟨j, x, e, hx, e2⟩ := (g.ids _ _).1 hi
      exact absurd e2 (k x (List.mem_of_getElem? hx))
    | done k old' hk e =>
      have hk : r.accs[k]? = some old' := hk
      have h1 := key k old' hk e
      rw [hi] at h1
      obtain rfl : i = k := by have := Option.some.inj h1; omega
      rw [h] at hk
      cases hk
      exact ⟨rfl, rfl⟩
theorem keep_match {a mv : Tx} {wt : Bool} (g : Good r) (h : KeepR r es a mv wt c r' es') (k : MKeep r.rm a mv wt c' m) : c = c' ∧ m = r'.rm := by
  have hn := ixr_none g.nms mv.id
  cases h with
  | full h => cases k with
    | full _ => exact ⟨rfl, rfl⟩
    | there k _ => exact absurd h (by have : r.kept.length < 96 := k; omega)
    | done k _ => exact absurd h (by have : r.kept.length < 96 := k; omega)
  | there h h2 => cases k with
    | full k => exact absurd (show 96 ≤ r.kept.length from k) (by omega)
    | there _ _ => exact ⟨rfl, rfl⟩
    | done _ k => rw [hn.2 k] at h2; cases h2
  | rests h h2 hd b1 b2 b3 b4 b5 b6 => cases k with
    | full k => exact absurd (show 96 ≤ r.kept.length from k) (by omega)
    | there _ k => obtain ⟨x, hx, e⟩ := k; exact absurd e (hn.1 h2 x hx)
    | done _ _ => exact ⟨rfl, rfl⟩
  | waits h h2 hd b1 b2 b3 b4 b5 b6 b7 b8 => cases k with
    | full k => exact absurd (show 96 ≤ r.kept.length from k) (by omega)
    | there _ k => obtain ⟨x, hx, e⟩ := k; exact absurd e (hn.1 h2 x hx)
    | done _ _ => exact ⟨rfl, rfl⟩
theorem end_match {x : Nm} {fate : Int} (g : Good r) (h : EndR r es x fate c r' es') (k : MEnd r.rm x fate c' m) : c = c' ∧ m = r'.rm := by
  have key : ∀ (k : Nat) (y : Kp), r.kept[k]? = some y → y.move.id = x → r.nms x = some (k : Int) := fun k y hk e => (g.nms _ _).2 ⟨k, y, rfl, hk, e⟩
  have keyR : ∀ (k : Nat) (y : Kp), r.kept[k]? = some y → y.move.id = x → keptR r x = some y := fun k y hk e => by
    unfold keptR
    rw [key k y hk e]
    show atZ r.kept (k : Int) = _
    rw [atZ, if_neg (by omega), Int.toNat_natCast, hk]
  have fin : ∀ (i : Nat) (y : Kp), r.nms x = some (i : Int) → r.kept[i]? = some y → y.fate = 1 → (1 < fate ∧ fate ≤ 4) → ∀ {c' : Int} {m : RM}, MEnd r.rm x fate c' m → (0 : Int) = c' ∧ m = { r.rm with kept := r.kept.set i { y with fate := fate } } := fun i y hi hy h1 h2 c' m k => by
    have inj : ∀ (k : Nat) (z : Kp), r.kept[k]? = some z → z.move.id = x → k = i ∧ z = y := fun k z hk e => by
      have h := key k z hk e
      rw [hi] at h
      obtain rfl : i = k := by have := Option.some.inj h; omega
      rw [hy] at hk
      exact ⟨rfl, (Option.some.inj hk).symm⟩
    cases k with
    | none k =>
      obtain ⟨j, z, e, hz, e2⟩ := (g.nms _ _).1 hi
      exact absurd e2 (k z (List.mem_of_getElem? hz))
    | gone k z hk e h3 => obtain ⟨rfl, rfl⟩ := inj k z hk e; exact absurd h1 h3
    | bad k z hk e h3 h4 => omega
    | done k z hk e h3 h4 => obtain ⟨rfl, rfl⟩ := inj k z hk e; exact ⟨rfl, rfl⟩
  cases h with
  | none h => cases k with
    | none _ => exact ⟨rfl, rfl⟩
    | gone k z hk e h3 => exact ⟨rfl, rfl⟩
    | bad k z hk e h3 h4 => exact absurd h3 (h z (keyR k z hk e))
    | done k z hk e h3 h4 => exact absurd h3 (h z (keyR k z hk e))
  | bad y h h1 h2 =>
    have hy : ∀ (k : Nat) (z : Kp), r.kept[k]? = some z → z.move.id = x → z = y := fun k z hk e => by have := keyR k z hk e; rw [h] at this; exact (Option.some.inj this).symm
    cases k with
    | none k =>
      obtain ⟨i, hi, hiy⟩ := keptR_some h
      obtain ⟨j, z, e, hz, e2⟩ := (g.nms _ _).1 hi
      exact absurd e2 (k z (List.mem_of_getElem? hz))
    | gone k z hk e h3 => rw [hy k z hk e] at h3; exact absurd h1 h3
    | bad k z hk e h3 h4 => exact ⟨rfl, rfl⟩
    | done k z hk e h3 h4 => omega
  | rests i y hi h h1 h2 hd b0 b1 b2 => exact fin i y hi h h1 h2 k
  | waits i y hi h h1 h2 hd hs b0 b1 b2 b3 b4 => exact fin i y hi h h1 h2 k
theorem time_match {now : Int} (h : TimeR r es now r' es') : { r.rm with clock := if r.rm.clock < now ∧ now ≤ 1099511627776 then now else r.rm.clock } = r'.rm := by
  cases h with
  | no h => rw [if_neg (by show ¬ (r.clock < now ∧ _); omega)]
  | goes h h2 b0 b1 => rw [if_pos ⟨h, h2⟩]; rfl
end
end Go.Proofs.YtjchjpmgbmeohaaDoor

/- Both sides are the same. -/
set_option linter.unusedSimpArgs false
set_option linter.unusedVariables false
namespace Go.Proofs.YtjchjpmgbmeohaaDoor
open Go.RowKit

theorem Bt.cur {F : Nat → Prop} {w0 w : World} {b : Nat} {d : Dd} {M : Nat} {r : Raw} {es : List Ent} {big : Nat} {m : RM} {ms : List (Raw × List Ent)} (h : Bt F w0 w b d M r es big m ms) : ∃ q : Nat → Prop, MS w q M m := by
  obtain ⟨lab, q, mv, wv, id, st, h⟩ := h
  exact ⟨_, h.cur⟩
set_option maxRecDepth 8000 in
set_option maxHeartbeats 6400000 in
theorem same_any {F : Nat → Prop} {w0 w : World} {b : Nat} {d : Dd} {M : Nat} {r : Raw} {es : List Ent} {big : Nat} {ms : List (Raw × List Ent)} (h : Bt F w0 w b d M r es big r.rm ms) (g : Good r) :
    Calls Tryd.prog 29 #[.pointer (some ⟨b, 0, none⟩)] w fun e w' => e = .returned (.bool true) ∧ Fr (fun _ => False) w w' := by
  obtain ⟨Q, hm⟩ := h.cur
  have hna := g.na
  have hnk := g.nk
  have hSm : ∀ W, Fr (fun _ => False) w W → ∀ (ga gk : Option Addr) (ca ck : Nat), W.ownsRow 0 26 14 (.slice ga r.accs.length ca) r.accs.length (r.accs.flatMap Acc.cells) → W.ownsRow 0 63 33 (.slice gk r.kept.length ck) r.kept.length (r.kept.flatMap Kp.cells) → Calls Tryd.prog 82 #[.pointer (some ⟨M, 0, none⟩), .slice ga r.accs.length ca, .slice gk r.kept.length ck, .int .i64 r.clock, .int .i64 r.stamp] W (fun e w' => e = .returned (.bool true) ∧ Fr (fun _ => False) W w') :=
    fun W f ga gk ca ck oa ok => mSame W Q M r.rm ga gk ca ck (hm.fr f (fun _ _ h => h)) oa ok (show r.accs.length ≤ 100000 by omega) (show r.kept.length ≤ 100000 by omega)
  have HSm := Lib.hid hSm
  clear hSm
  have HRo := Lib.hid (fun W (f : Fr (fun _ => False) w W) => roomA (h.frF f).alv)
  have HAc := Lib.hid (fun W (f : Fr (fun _ => False) w W) => accountsA (h.frF f).alv (by omega))
  have HKe := Lib.hid (fun W (f : Fr (fun _ => False) w W) => keepsA (h.frF f).alv (by omega))
  have HCl := Lib.hid (fun W (f : Fr (fun _ => False) w W) => clockA (h.frF f).alv)
  have HSt := Lib.hid (fun W (f : Fr (fun _ => False) w W) => stampA (h.frF f).alv)
  obtain ⟨b0, b1⟩ := h.cells
  obtain ⟨av, kv, hb, h1, h2, -, -, -, -, -⟩ := hm
  have h2' : w.ownsRow 0 63 33 kv r.kept.length (r.kept.flatMap Kp.cells) := h2
  obtain ⟨ak, ck, rfl, -, -⟩ := own_form h2'
  have m1 : w.cell? ⟨M, 1, none⟩ = some (.slice ak r.kept.length ck) := blk_cell hb 1 rfl
  have HB0 := Lib.hid b0
  have HB1 := Lib.hid b1
  have HM1 := Lib.hid m1
  obtain ⟨br, hbr⟩ : ∃ x : Bool, decide (r.kept.length < 96) = x := ⟨_, rfl⟩
  have hbi : decide ((r.kept.length : Int) < 96) = br := by rw [← hbr]; congr 1; apply propext; omega
  rw [hbr] at HRo
  have F0 := Lib.hid ((Fr.refl (fun _ => False) w).drew)
  clear h hb h1 h2 h2' hbr hna hnk
  go_enter Tryd.func29, Tryd.ntmps29
  go_upto_region 1 with fail
  cases br
  all_goals
    go_region_held3 (fun w' => w'.cell? ⟨b, 0, none⟩ = some (Value.pointer (some ⟨d.B, 0, none⟩)) ∧ w'.cell? ⟨b, 1, none⟩ = some (Value.pointer (some ⟨M, 0, none⟩)) ∧ w'.cell? ⟨M, 1, none⟩ = some (.slice ak r.kept.length ck))
      (first | exact ⟨b0, b1, m1⟩ | exact ⟨q0, q1, n1⟩ | go_keep)
      (first
        | (go_at_call 17; go_must (with_reducible refine (HRo.out _ F0.out).mono ?_); rintro e w1 ⟨rfl, f1⟩; have F1 := Lib.hid (F0.out.then_ f1 (fun _ h => h.elim)); have q0 := F1.out.cell HB0.out (fun h => h); have q1 := F1.out.cell HB1.out (fun h => h); have n1 := F1.out.cell HM1.out (fun h => h); clear f1)
        | (go_at_call 19; go_must (with_reducible refine (HAc.out _ F1.out).mono ?_); rintro e w2 ⟨ga, ca, rfl, oa, -, f2⟩; have F2 := Lib.hid (F1.out.then_ f2 (fun _ h => h.elim)); have OA := Lib.hid oa; have q0 := F2.out.cell HB0.out (fun h => h); have q1 := F2.out.cell HB1.out (fun h => h); have n1 := F2.out.cell HM1.out (fun h => h); clear f2 oa)
        | (go_at_call 20; go_must (with_reducible refine (HKe.out _ F2.out).mono ?_); rintro e w3 ⟨gk, ck2, rfl, ok, -, f3⟩; have F3 := Lib.hid (F2.out.then_ f3 (fun _ h => h.elim)); have OA3 := Lib.hid (own_fr OA.out f3 (fun _ _ h => h)); have OK := Lib.hid ok; have q0 := F3.out.cell HB0.out (fun h => h); have q1 := F3.out.cell HB1.out (fun h => h); have n1 := F3.out.cell HM1.out (fun h => h); clear f3 ok)
        | (go_at_call 37; go_must (with_reducible refine (HCl.out _ F3.out).mono ?_); rintro e w4 ⟨rfl, f4⟩; have F4 := Lib.hid (F3.out.then_ f4 (fun _ h => h.elim)); have OA4 := Lib.hid (own_fr OA3.out f4 (fun _ _ h => h)); have OK4 := Lib.hid (own_fr OK.out f4 (fun _ _ h => h)); have q0 := F4.out.cell HB0.out (fun h => h); have q1 := F4.out.cell HB1.out (fun h => h); have n1 := F4.out.cell HM1.out (fun h => h); clear f4)
        | (go_at_call 21; go_must (with_reducible refine (HSt.out _ F4.out).mono ?_); rintro e w5 ⟨rfl, f5⟩; have F5 := Lib.hid (F4.out.then_ f5 (fun _ h => h.elim)); have OA5 := Lib.hid (own_fr OA4.out f5 (fun _ _ h => h)); have OK5 := Lib.hid (own_fr OK4.out f5 (fun _ _ h => h)); have q0 := F5.out.cell HB0.out (fun h => h); have q1 := F5.out.cell HB1.out (fun h => h); have n1 := F5.out.cell HM1.out (fun h => h); clear f5)
        | (go_at_call 82; go_must (with_reducible refine (HSm.out _ F5.out ga gk ca ck2 OA5.out OK5.out).mono ?_); rintro e w6 ⟨rfl, f6⟩; have F6 := Lib.hid (F5.out.then_ f6 (fun _ h => h.elim)); have q0 := F6.out.cell HB0.out (fun h => h); have q1 := F6.out.cell HB1.out (fun h => h); have n1 := F6.out.cell HM1.out (fun h => h); clear f6))
    go_wp2_with fail
    go_ret
    exact ⟨by first | rfl | simp, F6.out⟩
end Go.Proofs.YtjchjpmgbmeohaaDoor

/- The document's Due: the first transfer that has ended by itself. -/
set_option linter.unusedSimpArgs false
set_option linter.unusedVariables false
namespace Go.Proofs.YtjchjpmgbmeohaaDoor
open Go.RowKit

def Ripe (c : Int) (k : Kp) : Prop := dueB k = true ∧ k.itm.due ≤ c
def DueR (ks : List Kp) (c : Int) (best : Int) (j : Nat) : Prop := (best = -1 ∧ ∀ (k : Nat) (x : Kp), k < j → ks[k]? = some x → ¬ Ripe c x) ∨ ∃ (p : Nat) (y : Kp), best = p ∧ p < j ∧ ks[p]? = some y ∧ Ripe c y ∧ ∀ (k : Nat) (x : Kp), k < j → ks[k]? = some x → Ripe c x → ¬ x.itm.before y.itm
section
variable {ks : List Kp} {c best : Int} {j p : Nat} {x y : Kp}
theorem dr_skip (h : DueR ks c best j) (hx : ks[j]? = some x) (hn : ¬ Ripe c x) : DueR ks c best (j + 1) := by
  rcases h with ⟨e, h⟩ | ⟨p, y, e, hp, hy, hr, h⟩
  · refine .inl ⟨e, fun k z hk hz => ?_⟩
    by_cases ek : k = j
    · subst ek; rw [hx] at hz; cases hz; exact hn
    · exact h k z (by omega) hz
  · refine .inr ⟨p, y, e, by omega, hy, hr, fun k z hk hz hrz => ?_⟩
    by_cases ek : k = j
    · subst ek; rw [hx] at hz; cases hz; exact absurd hrz hn
    · exact h k z (by omega) hz hrz
theorem dr_first (h : DueR ks c (-1) j) (hx : ks[j]? = some x) (hr : Ripe c x) : DueR ks c j (j + 1) := by
  rcases h with ⟨-, h⟩ | ⟨p, y, e, -⟩
  · refine .inr ⟨j, x, rfl, by omega, hx, hr, fun k z hk hz hrz => ?_⟩
    by_cases ek : k = j
    · subst ek; rw [hx] at hz; cases hz
      unfold Itm.before; omega
    · exact absurd hrz (h k z (by omega) hz)
  · omega
theorem dr_take (h : DueR ks c p j) (hy : ks[p]? = some y) (hx : ks[j]? = some x) (hr : Ripe c x) (hb : x.itm.before y.itm) : DueR ks c j (j + 1) := by
  rcases h with ⟨e, -⟩ | ⟨p', y', e, hp, hy', -, h⟩
  · omega
  · obtain rfl : p = p' := by omega
    rw [hy] at hy'; cases hy'
    refine .inr ⟨j, x, rfl, by omega, hx, hr, fun k z hk hz hrz hbz => ?_⟩
    by_cases ek : k = j
    · subst ek; rw [hx] at hz; cases hz
      unfold Itm.before at hbz; omega
    · refine h k z (by omega) hz hrz ?_
      unfold Itm.before at *; omega
theorem dr_keep (h : DueR ks c p j) (hy : ks[p]? = some y) (hx : ks[j]? = some x) (hb : ¬ x.itm.before y.itm) : DueR ks c p (j + 1) := by
  rcases h with ⟨e, -⟩ | ⟨p', y', e, hp, hy', hr, h⟩
  · omega
  · obtain rfl : p = p' := by omega
    rw [hy] at hy'; cases hy'
    refine .inr ⟨p, y, rfl, by omega, hy, hr, fun k z hk hz hrz => ?_⟩
    by_cases ek : k = j
    · subst ek; rw [hx] at hz; cases hz; exact hb
    · exact h k z (by omega) hz hrz
end
attribute [-go_sem] loadCells
set_option maxRecDepth 8000 in
set_option maxHeartbeats 12800000 in
theorem mDue (w : World) (T : Nat → Prop) (M : Nat) (m : RM) (h : MS w T M m) (hn : m.kept.length ≤ 100000) :
    Calls Tryd.prog 34 #[.pointer (some ⟨M, 0, none⟩)] w fun e w' => (∃ i, e = .returned (.int .i64 i) ∧ DueR m.kept m.clock i m.kept.length) ∧ Fr (fun _ => False) w w' := by
  obtain ⟨av, kv, hb, -, h2, -, -, -, -, -⟩ := h
  obtain ⟨k0, d0, rfl, -, -⟩ := own_form h2
  have HO := Lib.hid h2
  have m1 : w.cell? ⟨M, 1, none⟩ = some (.slice k0 m.kept.length d0) := blk_cell hb 1 rfl
  have m2 : w.cell? ⟨M, 2, none⟩ = some (.int .i64 m.clock) := blk_cell hb 2 rfl
  obtain ⟨ks, hks⟩ : ∃ l, m.kept = l := ⟨_, rfl⟩
  obtain ⟨c, hc⟩ : ∃ l, m.clock = l := ⟨_, rfl⟩
  rw [hks] at HO m1 hn
  rw [hc] at m2
  rw [hks, hc]
  obtain ⟨n, hnl⟩ : ∃ n, ks.length = n := ⟨_, rfl⟩
  have HN := Lib.hid hnl
  rw [hnl] at m1 hn HO
  rw [hnl]
  have HM1 := Lib.hid m1
  have HM2 := Lib.hid m2
  clear hb h2 hks hc hnl m2
  go_enter Tryd.func34, Tryd.ntmps34
  go_wp2_with fail
  go_loopw [13, 3] (fun iv bv wr => ∃ (j : Nat) (be : Int), j ≤ n ∧ iv = .int .i64 j ∧ bv = .int .i64 be ∧ DueR ks c be j ∧ Fr (fun _ => False) w wr) (fun iv _ _ => ((n : Int) - intOf iv).toNat)
  case atStart => exact ⟨0, -1, by omega, rfl, rfl, .inl ⟨rfl, fun k x hk => absurd hk (by omega)⟩, Fr.refl _ _⟩
  case round =>
    obtain ⟨j, be, hj, rfl, rfl, hd, hf⟩ := hrel
    have HF := Lib.hid hf
    have HD := Lib.hid hd
    by_cases hjm : j < n
    · have hjI : (j : Int) < n := by omega
      have hjJ : (0 : Int) ≤ j := by omega
      have w1' : IntKind.i64.wrap ((j : Int) + 1) = j + 1 := IntWalk.i64_in _ (by omega)
      have hl : j < ks.length := by rw [HN.out]; exact hjm
      obtain ⟨g, cg, e0⟩ := own_some HO.out (by omega)
      simp only [Value.slice.injEq] at e0
      obtain ⟨rfl, -, rfl⟩ := e0
      have ho := own_fr HO.out hf (fun _ _ h => h)
      obtain ⟨x, hx⟩ : ∃ x, ks[j] = x := ⟨_, rfl⟩
      have HX := Lib.hid (show ks[j]? = some x from by rw [List.getElem?_eq_getElem hl, hx])
      have hr := rw_range (f := Kp.cells) (sz := 33) (fun _ => rfl) ho HN.out hl
      rw [hx] at hr
      obtain ⟨C, hC⟩ : ∃ C, x.cells.toArray = C := ⟨_, rfl⟩
      have hCs : C.size = 33 := by rw [← hC]; rfl
      have HC := Lib.hid hC
      have HCo := Lib.hid (show C.all (·.oneCell') = true from by rw [← hC]; simp [Kp.cells, Tx.cells, Value.oneCell'])
      rw [show x.cells = C.toList from by rw [← hC]] at hr
      have HR := Lib.hid (World.rangeAt_alloc hr (.cells #[.int .u64 0, .int .u64 0, .int .u64 0, .int .u64 0, .int .u64 0, .int .u64 0, .int .u64 0, .int .u64 0, .int .u64 0, .int .u64 0, .int .i64 0, .int .i64 0, .int .i64 0, .int .i64 0, .int .i64 0, .int .i64 0, .int .u64 0, .int .u64 0, .int .u64 0, .int .u64 0, .int .u64 0, .int .u64 0, .int .u64 0, .int .u64 0, .int .u64 0, .int .u64 0, .int .i64 0, .int .i64 0, .int .i64 0, .int .i64 0, .int .i64 0, .int .i64 0, .int .i64 0] 63))
      have HR0 := Lib.hid hr
      have HBz := Lib.hid (heap_alloc_new wr (.cells #[.int .u64 0, .int .u64 0, .int .u64 0, .int .u64 0, .int .u64 0, .int .u64 0, .int .u64 0, .int .u64 0, .int .u64 0, .int .u64 0, .int .i64 0, .int .i64 0, .int .i64 0, .int .i64 0, .int .i64 0, .int .i64 0, .int .u64 0, .int .u64 0, .int .u64 0, .int .u64 0, .int .u64 0, .int .u64 0, .int .u64 0, .int .u64 0, .int .u64 0, .int .u64 0, .int .i64 0, .int .i64 0, .int .i64 0, .int .i64 0, .int .i64 0, .int .i64 0, .int .i64 0] 63))
      have HOw := Lib.hid ho
      clear hf hr hx hC hl ho hd m1
      go_upto_region 5 with (first | (refine wpList_load_mid rfl 63 (.tmp 16) rfl g (j * 33) rfl _ _ HR0.out Tryd.underlying63 rfl (by rw [Array.length_toList, hCs]; rfl) ?_) | (refine wpList_load_mid rfl 63 (.tmp 16) rfl g (j * 33) rfl _ _ HR.out Tryd.underlying63 rfl (by rw [Array.length_toList, hCs]; rfl) ?_) | ((refine wpList_store_row rfl 63 (.tmp 5) (.tmp 17) rfl wr.heap.size C rfl rfl HBz.out (by rw [hCs]; rfl) (by rw [hCs]; rfl) HCo.out ?_); intro w9 hb9 f9; have HB9 := Lib.hid hb9; have F9 := Lib.hid f9; clear hb9 f9) | fail)
      have G9 := Lib.hid (show Fr (fun _ => False) wr w9 from ((Fr.refl (fun _ => False) wr).alloc _).then_ F9.out (fun k hk => .inr (by omega)))
      have G := Lib.hid (HF.out.then_ G9.out (fun _ h => h.elim))
      obtain ⟨tm, htm⟩ : ∃ t, x.move.timeout = t := ⟨_, rfl⟩
      obtain ⟨bo, hbo⟩ : ∃ t, x.move.born = t := ⟨_, rfl⟩
      obtain ⟨sp, hsp⟩ : ∃ t, x.move.stamp = t := ⟨_, rfl⟩
      obtain ⟨ft, hft⟩ : ∃ t, x.fate = t := ⟨_, rfl⟩
      obtain ⟨at_, hat⟩ : ∃ t, IntKind.i64.wrap (bo + tm) = t := ⟨_, rfl⟩
      have x26 : w9.cell? ⟨wr.heap.size, 26, none⟩ = some (.int .i64 tm) := blk_cell HB9.out 26 (by rw [← HC.out, ← htm]; rfl)
      have x30 : w9.cell? ⟨wr.heap.size, 30, none⟩ = some (.int .i64 sp) := blk_cell HB9.out 30 (by rw [← HC.out, ← hsp]; rfl)
      have x31 : w9.cell? ⟨wr.heap.size, 31, none⟩ = some (.int .i64 bo) := blk_cell HB9.out 31 (by rw [← HC.out, ← hbo]; rfl)
      have x32 : w9.cell? ⟨wr.heap.size, 32, none⟩ = some (.int .i64 ft) := blk_cell HB9.out 32 (by rw [← HC.out, ← hft]; rfl)
      have m1 := G.out.cell (p := ⟨M, 1, none⟩) HM1.out (fun h => h)
      have m2 := G.out.cell (p := ⟨M, 2, none⟩) HM2.out (fun h => h)
      have HI := Lib.hid (show x.itm.due = at_ from by rw [Kp.itm, hbo, htm]; exact hat)
      have HIs := Lib.hid (show x.itm.stamp = sp from hsp)
      have HRi := Lib.hid (show Ripe c x ↔ (ft = 1 ∧ 0 < tm ∧ at_ ≤ c) from by
        rw [Ripe, HI.out, dueB, hft, htm]; simp [and_assoc])
      clear htm hbo hsp hft
      by_cases t1 : ft = 1
      rotate_left
      · have t1' : (ft == 1) = false := by simpa using t1
        have t1'' : (ft != 1) = true := by simpa using t1
        have Hn := Lib.hid (show ¬ Ripe c x from fun h => t1 (HRi.out.1 h).1)
        clear t1
        go_wp2_with fail
        go_roundw
        case rel => exact ⟨j + 1, be, by omega, by go_num, rfl, dr_skip HD.out HX.out Hn.out, G.out⟩
        case measure => simp [intOf]; omega
      · have t1' : (ft == 1) = true := by simpa using t1
        have t1'' : (ft != 1) = false := by simpa using t1
        have T1 := Lib.hid t1
        clear t1
        by_cases t2 : tm ≤ 0
        · have Hn := Lib.hid (show ¬ Ripe c x from fun h => by have := (HRi.out.1 h).2.1; omega)
          go_wp2_with fail
          go_roundw
          case rel => exact ⟨j + 1, be, by omega, by go_num, rfl, dr_skip HD.out HX.out Hn.out, G.out⟩
          case measure => simp [intOf]; omega
        · by_cases t3 : c < at_
          · have Hn := Lib.hid (show ¬ Ripe c x from fun h => by have := (HRi.out.1 h).2.2; omega)
            go_wp2_with fail
            go_roundw
            case rel => exact ⟨j + 1, be, by omega, by go_num, rfl, dr_skip HD.out HX.out Hn.out, G.out⟩
            case measure => simp [intOf]; omega
          · have HRip := Lib.hid (HRi.out.2 ⟨T1.out, by omega, by omega⟩)
            by_cases t4 : be < 0
            · obtain rfl : be = -1 := by
                rcases HD.out with ⟨e, -⟩ | ⟨p, y, e, -⟩
                · exact e
                · omega
              go_wp2_with fail
              go_roundw
              case rel => exact ⟨j + 1, j, by omega, by go_num, rfl, dr_first HD.out HX.out HRip.out, G.out⟩
              case measure => simp [intOf]; omega
            · obtain ⟨p, y, rfl, hpj, hy, -, -⟩ : ∃ (p : Nat) (y : Kp), be = p ∧ p < j ∧ ks[p]? = some y ∧ True ∧ True := by
                rcases HD.out with ⟨e, -⟩ | ⟨p, y, e, h1, h2, -⟩
                · omega
                · exact ⟨p, y, e, h1, h2, trivial, trivial⟩
              have hpn : (p : Int) < n := by omega
              have hp0 : (0 : Int) ≤ p := by omega
              have hlp : p < ks.length := by rw [HN.out]; omega
              have HY := Lib.hid hy
              have hyx : ks[p] = y := by rw [List.getElem?_eq_getElem hlp] at hy; exact Option.some.inj hy
              have hr := rw_range (f := Kp.cells) (sz := 33) (fun _ => rfl) (own_fr HOw.out G9.out (fun _ _ h => h)) HN.out hlp
              rw [hyx] at hr
              obtain ⟨D, hD⟩ : ∃ D, y.move.cells.toArray = D := ⟨_, rfl⟩
              have hDs : D.size = 16 := by rw [← hD]; rfl
              have HDc := Lib.hid hD
              have HDo := Lib.hid (show D.all (·.oneCell') = true from by rw [← hD]; simp [Tx.cells, Value.oneCell'])
              have hrm : w9.rangeAt g (p * 33 + 16) D.toList := fun i v hv => by
                rw [← hD] at hv
                have hi : i < 16 := (List.getElem?_eq_some_iff.1 hv).1
                have := hr (16 + i) v (by rw [Kp.cells, List.append_assoc, List.getElem?_append_right (by show 16 ≤ 16 + i; omega), show 16 + i - y.asked.cells.length = i from by show 16 + i - 16 = i; omega, List.getElem?_append_left (by show i < 16; exact hi)]; exact hv)
                rw [Nat.add_assoc]
                exact this
              have HQ := Lib.hid (World.rangeAt_alloc hrm (.cells #[.int .u64 0, .int .u64 0, .int .u64 0, .int .u64 0, .int .u64 0, .int .u64 0, .int .u64 0, .int .u64 0, .int .u64 0, .int .u64 0, .int .i64 0, .int .i64 0, .int .i64 0, .int .i64 0, .int .i64 0, .int .i64 0] 40))
              have HQ0 := Lib.hid hrm
              have HBt := Lib.hid (heap_alloc_new w9 (.cells #[.int .u64 0, .int .u64 0, .int .u64 0, .int .u64 0, .int .u64 0, .int .u64 0, .int .u64 0, .int .u64 0, .int .u64 0, .int .u64 0, .int .i64 0, .int .i64 0, .int .i64 0, .int .i64 0, .int .i64 0, .int .i64 0] 40))
              obtain ⟨pm, hpm⟩ : ∃ t, y.move.timeout = t := ⟨_, rfl⟩
              obtain ⟨po, hpo⟩ : ∃ t, y.move.born = t := ⟨_, rfl⟩
              obtain ⟨ps, hps⟩ : ∃ t, y.move.stamp = t := ⟨_, rfl⟩
              obtain ⟨pa, hpa⟩ : ∃ t, IntKind.i64.wrap (po + pm) = t := ⟨_, rfl⟩
              have HJ := Lib.hid (show y.itm.due = pa from by rw [Kp.itm, hpo, hpm]; exact hpa)
              have HJs := Lib.hid (show y.itm.stamp = ps from hps)
              have HPm := Lib.hid hpm
              have HPo := Lib.hid hpo
              have HPs := Lib.hid hps
              clear hy hyx hr hD hrm hlp hpm hpo hps
              go_upto_region 10 with (first | (refine wpList_load_mid rfl 40 (.tmp 51) rfl g (p * 33 + 16) rfl _ _ HQ0.out Tryd.underlying40 rfl (by rw [Array.length_toList, hDs]; rfl) ?_) | (refine wpList_load_mid rfl 40 (.tmp 51) rfl g (p * 33 + 16) rfl _ _ HQ.out Tryd.underlying40 rfl (by rw [Array.length_toList, hDs]; rfl) ?_) | ((refine wpList_store_row rfl 40 (.tmp 7) (.tmp 52) rfl w9.heap.size D rfl rfl HBt.out (by rw [hDs]; rfl) (by rw [hDs]; rfl) HDo.out ?_); intro w8 hb8 f8; have HB8 := Lib.hid hb8; have F8 := Lib.hid f8; clear hb8 f8) | fail)
              have G8 := Lib.hid (show Fr (fun _ => False) w9 w8 from ((Fr.refl (fun _ => False) w9).alloc _).then_ F8.out (fun k hk => .inr (by omega)))
              have GG := Lib.hid (G.out.then_ G8.out (fun _ h => h.elim))
              have x30' := G8.out.cell x30 (fun h => h)
              have y10 : w8.cell? ⟨w9.heap.size, 10, none⟩ = some (.int .i64 pm) := blk_cell HB8.out 10 (by rw [← HDc.out, ← HPm.out]; rfl)
              have y14 : w8.cell? ⟨w9.heap.size, 14, none⟩ = some (.int .i64 ps) := blk_cell HB8.out 14 (by rw [← HDc.out, ← HPs.out]; rfl)
              have y15 : w8.cell? ⟨w9.heap.size, 15, none⟩ = some (.int .i64 po) := blk_cell HB8.out 15 (by rw [← HDc.out, ← HPo.out]; rfl)
              by_cases u1 : at_ < pa
              · have Hb := Lib.hid (show x.itm.before y.itm from by unfold Itm.before; rw [HI.out, HJ.out]; exact .inl u1)
                go_wp2_with fail
                go_roundw
                case rel => exact ⟨j + 1, j, by omega, by go_num, rfl, dr_take HD.out HY.out HX.out HRip.out Hb.out, GG.out⟩
                case measure => simp [intOf]; omega
              · by_cases u2 : at_ = pa
                · have u2' : (at_ == pa) = true := by simpa using u2
                  by_cases u3 : sp < ps
                  · have Hb := Lib.hid (show x.itm.before y.itm from by unfold Itm.before; rw [HI.out, HJ.out, HIs.out, HJs.out]; exact .inr ⟨u2, u3⟩)
                    clear u2
                    go_wp2_with fail
                    go_roundw
                    case rel => exact ⟨j + 1, j, by omega, by go_num, rfl, dr_take HD.out HY.out HX.out HRip.out Hb.out, GG.out⟩
                    case measure => simp [intOf]; omega
                  · have Hb := Lib.hid (show ¬ x.itm.before y.itm from by unfold Itm.before; rw [HI.out, HJ.out, HIs.out, HJs.out]; omega)
                    clear u2
                    go_wp2_with fail
                    go_roundw
                    case rel => exact ⟨j + 1, p, by omega, by go_num, rfl, dr_keep HD.out HY.out HX.out Hb.out, GG.out⟩
                    case measure => simp [intOf]; omega
                · have u2' : (at_ == pa) = false := by simpa using u2
                  have Hb := Lib.hid (show ¬ x.itm.before y.itm from by unfold Itm.before; rw [HI.out, HJ.out, HIs.out, HJs.out]; omega)
                  clear u2
                  go_wp2_with fail
                  go_roundw
                  case rel => exact ⟨j + 1, p, by omega, by go_num, rfl, dr_keep HD.out HY.out HX.out Hb.out, GG.out⟩
                  case measure => simp [intOf]; omega
    · obtain rfl : j = n := by omega
      have hjI : ¬ (j : Int) < j := by omega
      clear hf m1 hd
      go_wp2_with fail
      go_ret
      exact ⟨⟨be, rfl, HD.out⟩, HF.out⟩
end Go.Proofs.YtjchjpmgbmeohaaDoor

/- What is found by name, and what is due, on both sides. -/
set_option linter.unusedSimpArgs false
set_option linter.unusedVariables false
namespace Go.Proofs.YtjchjpmgbmeohaaDoor
open Go.RowKit

/-- What is found on both sides: nothing, or the same at a place. -/
def FndZ {α : Type} (xs : List α) (o : Option α) (i : Int) : Prop := (o = none ∧ i = -1) ∨ ∃ (j : Nat) (k : α), o = some k ∧ i = j ∧ xs[j]? = some k
theorem atZ_nat {α : Type} (xs : List α) (k : Nat) : atZ xs (k : Int) = xs[k]? := by
  rw [atZ, if_neg (by omega)]
  simp
theorem fnd_ix {α β : Type} {xs : List α} {f : α → β} {g : β → Option Int} (h : IxR xs f g) {y : β} {i : Int} (hi : IdxA xs f y i) : FndZ xs ((g y).bind (atZ xs)) i := by
  rcases hi with ⟨e, hn⟩ | ⟨k, x, e, hx, hf⟩
  · exact .inl ⟨by rw [(ixr_none h y).2 hn]; rfl, e⟩
  · refine .inr ⟨k, x, ?_, e, hx⟩
    rw [(h y k).2 ⟨k, x, rfl, hx, hf⟩]
    show atZ xs (k : Int) = some x
    rw [atZ_nat, hx]
theorem kept_fnd {r : Raw} (g : Good r) {id : Nm} {i : Int} (h : IdxA r.kept (fun k => k.move.id) id i) : FndZ r.kept (keptR r id) i := fnd_ix g.nms h
theorem acct_fnd {r : Raw} (g : Good r) {id : Nm} {i : Int} (h : IdxA r.accs (fun a => a.id) id i) : FndZ r.accs (acctR r id) i := fnd_ix g.ids h
theorem due_fnd {r : Raw} (g : Good r) {x : Itm} {is : Bool} {i : Int} (hf : FirstR r.ends x is) (hd : DueR r.kept r.clock i r.kept.length) : FndZ r.kept (dueO r x is) i := by
  have hlt : ∀ {k : Nat} {y : Kp}, r.kept[k]? = some y → k < r.kept.length := fun h => (List.getElem?_eq_some_iff.1 h).1
  rcases hf with ⟨rfl, hno⟩ | ⟨rfl, hx, hmin⟩
  · refine .inl ⟨rfl, ?_⟩
    rcases hd with ⟨e, -⟩ | ⟨p, y, e, hp, hy, hr, -⟩
    · exact e
    · have := (g.ends y.move.stamp y.itm).2 ⟨y, List.mem_of_getElem? hy, rfl, hr.1, rfl⟩
      rw [hno] at this
      cases this
  · obtain ⟨m, hm, hms, hmd, hmx⟩ := (g.ends x.stamp x).1 hx
    obtain ⟨q, hq⟩ := List.getElem?_of_mem hm
    by_cases hc : x.due ≤ r.clock
    · have hmr : Ripe r.clock m := ⟨hmd, by rw [← hmx]; exact hc⟩
      rcases hd with ⟨-, hn⟩ | ⟨p, y, e, hp, hy, hr, hb⟩
      · exact absurd hmr (hn q m (hlt hq) hq)
      · have b1 := hb q m (hlt hq) hq hmr
        have b2 := hmin y.move.stamp y.itm ((g.ends y.move.stamp y.itm).2 ⟨y, List.mem_of_getElem? hy, rfl, hr.1, rfl⟩)
        rw [hmx] at b2
        have hs : m.move.stamp = y.move.stamp := by
          have e1 : m.itm.stamp = m.move.stamp := rfl
          have e2 : y.itm.stamp = y.move.stamp := rfl
          unfold Itm.before at b1 b2
          omega
        have hpq : q = p := ixr_inj g.sts hq hy hs
        subst hpq
        rw [hq] at hy
        cases hy
        refine .inr ⟨q, m, ?_, e, hq⟩
        have h1 : dueO r x true = keptR r x.id := by unfold dueO; rw [if_pos (by simpa using hc)]
        rw [h1, hmx]
        show (r.nms m.move.id).bind (atZ r.kept) = some m
        rw [(g.nms m.move.id q).2 ⟨q, m, rfl, hq, rfl⟩]
        show atZ r.kept (q : Int) = some m
        rw [atZ_nat, hq]
    · refine .inl ⟨by unfold dueO; rw [if_neg (by simpa using hc)], ?_⟩
      rcases hd with ⟨e, -⟩ | ⟨p, y, e, hp, hy, hr, -⟩
      · exact e
      · have b2 := hmin y.move.stamp y.itm ((g.ends y.move.stamp y.itm).2 ⟨y, List.mem_of_getElem? hy, rfl, hr.1, rfl⟩)
        have := hr.2
        unfold Itm.before at b2
        omega
section
variable {F : Nat → Prop} {w0 w : World} {b : Nat} {d : Dd} {M : Nat} {r : Raw} {es : List Ent} {big : Nat} {m : RM} {ms : List (Raw × List Ent)}
/-- A call of the books that looks by name. -/
theorem btKept (h : Bt F w0 w b d M r es big m ms) (g : Good r) (id : Nm) : Calls Tryd.prog 30 #[.pointer (some ⟨d.B, 0, none⟩), .agg #[.int .u64 id.hi, .int .u64 id.lo]] w fun e w' => e = .returned (.tuple #[.agg ((keptR r id).getD Kp.zero).cells.toArray, .bool (keptR r id).isSome]) ∧ Fr (fun _ => False) w w' := by
  obtain ⟨lab, q, mv, wv, i, st, h⟩ := h
  have := g.nk
  exact keptS w lab d r es big id h.sta (by omega)
theorem btAcct (h : Bt F w0 w b d M r es big m ms) (g : Good r) (id : Nm) : Calls Tryd.prog 32 #[.pointer (some ⟨d.B, 0, none⟩), .agg #[.int .u64 id.hi, .int .u64 id.lo]] w fun e w' => e = .returned (.tuple #[.agg ((acctR r id).getD Acc.zero).cells.toArray, .bool (acctR r id).isSome]) ∧ Fr (fun _ => False) w w' := by
  obtain ⟨lab, q, mv, wv, i, st, h⟩ := h
  have := g.na
  exact acctS w lab d r es big id h.sta (by omega)
theorem btDue (h : Bt F w0 w b d M r es big m ms) (g : Good r) (hb : big ≤ 90000) : ∃ x is, FirstR r.ends x is ∧ Calls Tryd.prog 33 #[.pointer (some ⟨d.B, 0, none⟩)] w fun e w' => e = .returned (.tuple #[.agg ((dueO r x is).getD Kp.zero).cells.toArray, .bool (dueO r x is).isSome]) ∧ Fr (fun _ => False) w w' := by
  obtain ⟨lab, q, mv, wv, i, st, h⟩ := h
  have := g.nk
  exact dueS w lab d r es big h.sta hb (by omega)
end
/-- The document's looks, of the state that is so. -/
theorem rmName {w : World} {T : Nat → Prop} {M : Nat} {r : Raw} (h : MS w T M r.rm) (g : Good r) (id : Nm) : Calls Tryd.prog 31 #[.pointer (some ⟨M, 0, none⟩), .agg #[.int .u64 id.hi, .int .u64 id.lo]] w fun e w' => (∃ i, e = .returned (.int .i64 i) ∧ FndZ r.kept (keptR r id) i) ∧ Fr (fun _ => False) w w' :=
  (mName w T M r.rm id h (by have := g.nk; show r.kept.length ≤ _; omega)).mono fun e w' ⟨⟨i, he, hi⟩, f⟩ => ⟨⟨i, he, kept_fnd g hi⟩, f⟩
theorem rmAcct {w : World} {T : Nat → Prop} {M : Nat} {r : Raw} (h : MS w T M r.rm) (g : Good r) (id : Nm) : Calls Tryd.prog 35 #[.pointer (some ⟨M, 0, none⟩), .agg #[.int .u64 id.hi, .int .u64 id.lo]] w fun e w' => (∃ i, e = .returned (.int .i64 i) ∧ FndZ r.accs (acctR r id) i) ∧ Fr (fun _ => False) w w' :=
  (mAcct w T M r.rm id h (by have := g.na; show r.accs.length ≤ _; omega)).mono fun e w' ⟨⟨i, he, hi⟩, f⟩ => ⟨⟨i, he, acct_fnd g hi⟩, f⟩
theorem rmDue {w : World} {T : Nat → Prop} {M : Nat} {r : Raw} (h : MS w T M r.rm) (g : Good r) {x : Itm} {is : Bool} (hf : FirstR r.ends x is) : Calls Tryd.prog 34 #[.pointer (some ⟨M, 0, none⟩)] w fun e w' => (∃ i, e = .returned (.int .i64 i) ∧ FndZ r.kept (dueO r x is) i) ∧ Fr (fun _ => False) w w' :=
  (mDue w T M r.rm h (by have := g.nk; show r.kept.length ≤ _; omega)).mono fun e w' ⟨⟨i, he, hi⟩, f⟩ => ⟨⟨i, he, due_fnd g hf hi⟩, f⟩
end Go.Proofs.YtjchjpmgbmeohaaDoor

/- Both sides: a call, of kinds 0 to 4 and others. -/
set_option linter.unusedSimpArgs false
set_option linter.unusedVariables false
namespace Go.Proofs.YtjchjpmgbmeohaaDoor
open Go.RowKit

/-- The marks: each is taken back to. -/
def MkOk : Raw → List Ent → List (Raw × List Ent) → Prop
  | _, _, [] => True
  | r, es, x :: l => Backs x.1 x.2 r es ∧ Good x.1 ∧ MkOk x.1 x.2 l
theorem mk_step {r r' : Raw} {es es' : List Ent} {ms : List (Raw × List Ent)} (h : MkOk r es ms) (k : Backs r es r' es') : MkOk r' es' ms := by
  cases ms with
  | nil => trivial
  | cons x l => exact ⟨h.1.trans k, h.2⟩
def DoesP (F : Nat → Prop) (w0 w : World) (b : Nat) (d : Dd) (big : Nat) (r : Raw) (es : List Ent) (ms : List (Raw × List Ent)) (k : Int) (e : Ending) (w' : World) : Prop :=
  e = .returned (.bool true) ∧ ∃ M' r' es' ms', Bt F w0 w' b d M' r' es' (big + 8) r'.rm ms' ∧ Good r' ∧ MkOk r' es' ms' ∧ (k < 5 → ms' = ms ∧ Backs r es r' es') ∧ Fr (fun k => ¬ F k) w w' ∧ ms'.length ≤ ms.length + 1
theorem blk_cell' {w : World} {g : Nat} {c : Array Value} {t : TypeId} {f : Nat × Nat} (h : w.heap[g]? = some (.cells c t f)) (j : Nat) {v : Value} (hv : c[j]? = some v) : w.cell? ⟨g, j, none⟩ = some v := by rw [cell_of_row w g j c t f h, hv]
theorem cl_loads {P : Program} {W : World} {g : Nat} {c : Cl} {t : TypeId} {fr : Nat × Nat} (h : W.heap[g]? = some (.cells c.cells.toArray t fr)) :
    (loadCells ⟨g, 1, none⟩ 14).run P W = .ok c.account.cells.toArray W ∧ (loadCells ⟨g, 15, none⟩ 16).run P W = .ok c.asked.cells.toArray W ∧ (loadCells ⟨g, 31, none⟩ 16).run P W = .ok c.move.cells.toArray W ∧ (loadCells ⟨g, 48, none⟩ 2).run P W = .ok #[.int .u64 c.id.hi, .int .u64 c.id.lo] W ∧ W.cell? ⟨g, 0, none⟩ = some (.int .i64 c.kind) ∧ W.cell? ⟨g, 47, none⟩ = some (.bool c.waits) ∧ W.cell? ⟨g, 50, none⟩ = some (.int .i64 c.n) :=
  ⟨ld_part [.int .i64 c.kind] c.account.cells (c.asked.cells ++ c.move.cells ++ [.bool c.waits, .int .u64 c.id.hi, .int .u64 c.id.lo, .int .i64 c.n]) rfl rfl (t := t) (fr := fr) (by rw [h]; simp [Cl.cells]),
   ld_part ([.int .i64 c.kind] ++ c.account.cells) c.asked.cells (c.move.cells ++ [.bool c.waits, .int .u64 c.id.hi, .int .u64 c.id.lo, .int .i64 c.n]) rfl rfl (t := t) (fr := fr) (by rw [h]; simp [Cl.cells]),
   ld_part ([.int .i64 c.kind] ++ c.account.cells ++ c.asked.cells) c.move.cells [.bool c.waits, .int .u64 c.id.hi, .int .u64 c.id.lo, .int .i64 c.n] rfl rfl (t := t) (fr := fr) (by rw [h]; simp [Cl.cells]),
   ld_nm (blk_cell' h 48 rfl) (blk_cell' h 49 rfl), blk_cell' h 0 rfl, blk_cell' h 47 rfl, blk_cell' h 50 rfl⟩
section
variable {F : Nat → Prop} {w0 w : World} {b : Nat} {d : Dd} {M : Nat} {r : Raw} {es : List Ent} {big : Nat} {ms : List (Raw × List Ent)}
attribute [-go_sem] loadCells
set_option maxRecDepth 8000 in
set_option maxHeartbeats 6400000 in
theorem does_0 (h : Bt F w0 w b d M r es big r.rm ms) (g : Good r) (mk : MkOk r es ms) (hb : big ≤ 9000) (c : Cl) (hk : c.kind = 0) :
    Calls Tryd.prog 24 #[.pointer (some ⟨b, 0, none⟩), .agg c.cells.toArray] w (DoesP F w0 w b d big r es ms c.kind) := by
  have H0 := Lib.hid (h.box (.cells c.cells.toArray 53))
  have HB := Lib.hid (heap_alloc_new w (.cells c.cells.toArray 53))
  have HG := Lib.hid g
  have HMk := Lib.hid mk
  have HNa := Lib.hid (And.intro g.na (And.intro g.nk (And.intro g.s0 g.s1)))
  have HNr := Lib.hid (show r.rm.accs.length ≤ 100000 ∧ r.rm.kept.length ≤ 100000 ∧ 0 ≤ r.rm.stamp ∧ r.rm.stamp ≤ 4611686018427387904 from by have := g.na; have := g.nk; have := g.s0; have := g.s1; show r.accs.length ≤ _ ∧ r.kept.length ≤ _ ∧ 0 ≤ r.stamp ∧ r.stamp ≤ _; omega)
  have HFn := Lib.hid (show ∀ k, F k → k < w.heap.size from fun k hk => by obtain ⟨lab, q, mv, wv, id, st, h⟩ := h; exact (h.ff k hk).2.2)
  obtain ⟨b0, b1⟩ := H0.out.cells
  obtain ⟨l1, l2, l3, l4, k0, k47, k50⟩ := cl_loads (P := Tryd.prog) (W := (w.alloc (.cells c.cells.toArray 53)).drew) (blk_drew HB.out)
  have k0 : (w.alloc (.cells c.cells.toArray 53)).cell? ⟨w.heap.size, 0, none⟩ = some (.int .i64 0) := by rw [← hk]; exact k0
  have HK := Lib.hid hk
  have HOb := Lib.hid (btOpen (H0.out.frF (Fr.refl _ _).drew) HG.out c.account (by omega))
  clear h g mk hk
  go_enter Tryd.func24, Tryd.ntmps24
  go_upto_region 3 with fail
  go_region_held3 (fun w' => w'.cell? ⟨b, 0, none⟩ = some (Value.pointer (some ⟨d.B, 0, none⟩)) ∧ w'.cell? ⟨b, 1, none⟩ = some (Value.pointer (some ⟨M, 0, none⟩)) ∧ (loadCells ⟨w.heap.size, 1, none⟩ 14).run Tryd.prog w' = .ok c.account.cells.toArray w')
    (first | exact ⟨b0, b1, l1⟩ | exact ⟨q0, q1, m1⟩ | go_keep)
    (first
      | (go_at_call 16; go_must (with_reducible refine HOb.out.mono ?_); rintro e w2 ⟨c2, r2, es2, rfl, hr2, h2, f2⟩; obtain ⟨q0, q1⟩ := h2.cells; have bb := f2.blk (blk_drew HB.out) (fun hn => hn (.inr rfl)); obtain ⟨m1, m2, m3, m4, j0, j47, j50⟩ := cl_loads (P := Tryd.prog) (W := w2) bb; have H2 := Lib.hid h2; have F2 := Lib.hid f2; have HR2 := Lib.hid hr2; have BB := Lib.hid bb; clear h2 f2 hr2 bb)
      | (go_at_call 73; go_must (with_reducible refine (bmOpen H2.out c.account HNr.out.1 HNr.out.2.2.1 HNr.out.2.2.2).mono ?_); rintro e w3 ⟨c3, m3', rfl, hr3, h3, f3⟩; obtain ⟨rfl, rfl⟩ := open_match HG.out HR2.out hr3; obtain ⟨q0, q1⟩ := h3.cells; have bb := f3.blk BB.out (fun hn => hn (.inr rfl)); obtain ⟨m1, m2, m3, m4, j0, j47, j50⟩ := cl_loads (P := Tryd.prog) (W := w3) bb; have H3 := Lib.hid h3; have F3 := Lib.hid f3; clear h3 f3 bb hr3))
  go_wp2_with fail
  go_ret
  obtain ⟨g2, bk⟩ := open_good HG.out HR2.out
  refine ⟨by first | rfl | simp, M, r2, es2, ms, (H3.out.more (Nat.le_succ _)).less (fun k hk => .inl hk), g2, mk_step HMk.out bk, fun _ => ⟨rfl, bk⟩, ?_, Nat.le_succ _⟩
  have fa : Fr (fun k => ¬ F k) w (w.alloc (.cells c.cells.toArray 53)).drew := ((Fr.refl _ w).alloc _).drew
  exact (fa.then_ F2.out (fun k hk => .inl (fun hF => hk (.inl hF)))).then_ F3.out (fun k hk => .inl (fun hF => hk (.inl hF)))
set_option maxRecDepth 8000 in
set_option maxHeartbeats 6400000 in
theorem does_1 (h : Bt F w0 w b d M r es big r.rm ms) (g : Good r) (mk : MkOk r es ms) (hb : big ≤ 9000) (c : Cl) (hk : c.kind = 1) :
    Calls Tryd.prog 24 #[.pointer (some ⟨b, 0, none⟩), .agg c.cells.toArray] w (DoesP F w0 w b d big r es ms c.kind) := by
  have H0 := Lib.hid (h.box (.cells c.cells.toArray 53))
  have HB := Lib.hid (heap_alloc_new w (.cells c.cells.toArray 53))
  have HG := Lib.hid g
  have HMk := Lib.hid mk
  have HNa := Lib.hid (And.intro g.na (And.intro g.nk (And.intro g.s0 g.s1)))
  have HNr := Lib.hid (show r.rm.accs.length ≤ 100000 ∧ r.rm.kept.length ≤ 100000 ∧ 0 ≤ r.rm.stamp ∧ r.rm.stamp ≤ 4611686018427387904 from by have := g.na; have := g.nk; have := g.s0; have := g.s1; show r.accs.length ≤ _ ∧ r.kept.length ≤ _ ∧ 0 ≤ r.stamp ∧ r.stamp ≤ _; omega)
  have HFn := Lib.hid (show ∀ k, F k → k < w.heap.size from fun k hk => by obtain ⟨lab, q, mv, wv, id, st, h⟩ := h; exact (h.ff k hk).2.2)
  obtain ⟨b0, b1⟩ := H0.out.cells
  obtain ⟨l1, l2, l3, l4, k0, k47, k50⟩ := cl_loads (P := Tryd.prog) (W := (w.alloc (.cells c.cells.toArray 53)).drew) (blk_drew HB.out)
  have k0 : (w.alloc (.cells c.cells.toArray 53)).cell? ⟨w.heap.size, 0, none⟩ = some (.int .i64 1) := by rw [← hk]; exact k0
  have HK := Lib.hid hk
  have HOb := Lib.hid (btTurn (H0.out.frF (Fr.refl _ _).drew) HG.out c.account (by omega))
  clear h g mk hk
  go_enter Tryd.func24, Tryd.ntmps24
  go_upto_region 5 with fail
  go_region_held3 (fun w' => w'.cell? ⟨b, 0, none⟩ = some (Value.pointer (some ⟨d.B, 0, none⟩)) ∧ w'.cell? ⟨b, 1, none⟩ = some (Value.pointer (some ⟨M, 0, none⟩)) ∧ (loadCells ⟨w.heap.size, 1, none⟩ 14).run Tryd.prog w' = .ok c.account.cells.toArray w')
    (first | exact ⟨b0, b1, l1⟩ | exact ⟨q0, q1, m1⟩ | go_keep)
    (first
      | (go_at_call 40; go_must (with_reducible refine HOb.out.mono ?_); rintro e w2 ⟨c2, r2, es2, rfl, hr2, h2, f2⟩; obtain ⟨q0, q1⟩ := h2.cells; have bb := f2.blk (blk_drew HB.out) (fun hn => hn (.inr rfl)); obtain ⟨m1, m2, m3, m4, j0, j47, j50⟩ := cl_loads (P := Tryd.prog) (W := w2) bb; have H2 := Lib.hid h2; have F2 := Lib.hid f2; have HR2 := Lib.hid hr2; have BB := Lib.hid bb; clear h2 f2 hr2 bb)
      | (go_at_call 74; go_must (with_reducible refine (bmTurn H2.out c.account HNr.out.1).mono ?_); rintro e w3 ⟨c3, m3', rfl, hr3, h3, f3⟩; obtain ⟨rfl, rfl⟩ := turn_match HG.out HR2.out hr3; obtain ⟨q0, q1⟩ := h3.cells; have bb := f3.blk BB.out (fun hn => hn (.inr rfl)); obtain ⟨m1, m2, m3, m4, j0, j47, j50⟩ := cl_loads (P := Tryd.prog) (W := w3) bb; have H3 := Lib.hid h3; have F3 := Lib.hid f3; clear h3 f3 bb hr3))
  go_wp2_with fail
  go_ret
  obtain ⟨g2, bk⟩ := turn_good HG.out HR2.out
  refine ⟨by first | rfl | simp, M, r2, es2, ms, (H3.out.more (Nat.le_succ _)).less (fun k hk => .inl hk), g2, mk_step HMk.out bk, fun _ => ⟨rfl, bk⟩, ?_, Nat.le_succ _⟩
  have fa : Fr (fun k => ¬ F k) w (w.alloc (.cells c.cells.toArray 53)).drew := ((Fr.refl _ w).alloc _).drew
  exact (fa.then_ F2.out (fun k hk => .inl (fun hF => hk (.inl hF)))).then_ F3.out (fun k hk => .inl (fun hF => hk (.inl hF)))
set_option maxRecDepth 8000 in
set_option maxHeartbeats 6400000 in
theorem does_2 (h : Bt F w0 w b d M r es big r.rm ms) (g : Good r) (mk : MkOk r es ms) (hb : big ≤ 9000) (c : Cl) (hk : c.kind = 2) :
    Calls Tryd.prog 24 #[.pointer (some ⟨b, 0, none⟩), .agg c.cells.toArray] w (DoesP F w0 w b d big r es ms c.kind) := by
  have H0 := Lib.hid (h.box (.cells c.cells.toArray 53))
  have HB := Lib.hid (heap_alloc_new w (.cells c.cells.toArray 53))
  have HG := Lib.hid g
  have HMk := Lib.hid mk
  have HNa := Lib.hid (And.intro g.na (And.intro g.nk (And.intro g.s0 g.s1)))
  have HNr := Lib.hid (show r.rm.accs.length ≤ 100000 ∧ r.rm.kept.length ≤ 100000 ∧ 0 ≤ r.rm.stamp ∧ r.rm.stamp ≤ 4611686018427387904 from by have := g.na; have := g.nk; have := g.s0; have := g.s1; show r.accs.length ≤ _ ∧ r.kept.length ≤ _ ∧ 0 ≤ r.stamp ∧ r.stamp ≤ _; omega)
  have HFn := Lib.hid (show ∀ k, F k → k < w.heap.size from fun k hk => by obtain ⟨lab, q, mv, wv, id, st, h⟩ := h; exact (h.ff k hk).2.2)
  obtain ⟨b0, b1⟩ := H0.out.cells
  obtain ⟨l1, l2, l3, l4, k0, k47, k50⟩ := cl_loads (P := Tryd.prog) (W := (w.alloc (.cells c.cells.toArray 53)).drew) (blk_drew HB.out)
  have k0 : (w.alloc (.cells c.cells.toArray 53)).cell? ⟨w.heap.size, 0, none⟩ = some (.int .i64 2) := by rw [← hk]; exact k0
  have HK := Lib.hid hk
  have HOb := Lib.hid (btKeep (H0.out.frF (Fr.refl _ _).drew) HG.out c.asked c.move c.waits (by omega))
  clear h g mk hk
  go_enter Tryd.func24, Tryd.ntmps24
  go_upto_region 7 with fail
  go_region_held3 (fun w' => w'.cell? ⟨b, 0, none⟩ = some (Value.pointer (some ⟨d.B, 0, none⟩)) ∧ w'.cell? ⟨b, 1, none⟩ = some (Value.pointer (some ⟨M, 0, none⟩)) ∧ (loadCells ⟨w.heap.size, 15, none⟩ 16).run Tryd.prog w' = .ok c.asked.cells.toArray w' ∧ (loadCells ⟨w.heap.size, 31, none⟩ 16).run Tryd.prog w' = .ok c.move.cells.toArray w' ∧ w'.cell? ⟨w.heap.size, 47, none⟩ = some (Value.bool c.waits))
    (first | exact ⟨b0, b1, l2, l3, k47⟩ | exact ⟨q0, q1, m2, m3, j47⟩ | go_keep)
    (first
      | (go_at_call 18; go_must (with_reducible refine HOb.out.mono ?_); rintro e w2 ⟨c2, r2, es2, rfl, hr2, h2, f2⟩; obtain ⟨q0, q1⟩ := h2.cells; have bb := f2.blk (blk_drew HB.out) (fun hn => hn (.inr rfl)); obtain ⟨m1, m2, m3, m4, j0, j47, j50⟩ := cl_loads (P := Tryd.prog) (W := w2) bb; have H2 := Lib.hid h2; have F2 := Lib.hid f2; have HR2 := Lib.hid hr2; have BB := Lib.hid bb; clear h2 f2 hr2 bb)
      | (go_at_call 75; go_must (with_reducible refine (bmKeep H2.out c.asked c.move c.waits HNr.out.2.1 HNr.out.2.2.1 HNr.out.2.2.2).mono ?_); rintro e w3 ⟨c3, m3', rfl, hr3, h3, f3⟩; obtain ⟨rfl, rfl⟩ := keep_match HG.out HR2.out hr3; obtain ⟨q0, q1⟩ := h3.cells; have bb := f3.blk BB.out (fun hn => hn (.inr rfl)); obtain ⟨m1, m2, m3, m4, j0, j47, j50⟩ := cl_loads (P := Tryd.prog) (W := w3) bb; have H3 := Lib.hid h3; have F3 := Lib.hid f3; clear h3 f3 bb hr3))
  go_wp2_with fail
  go_ret
  obtain ⟨g2, bk⟩ := keep_good HG.out HR2.out
  refine ⟨by first | rfl | simp, M, r2, es2, ms, (H3.out.more (Nat.le_succ _)).less (fun k hk => .inl hk), g2, mk_step HMk.out bk, fun _ => ⟨rfl, bk⟩, ?_, Nat.le_succ _⟩
  have fa : Fr (fun k => ¬ F k) w (w.alloc (.cells c.cells.toArray 53)).drew := ((Fr.refl _ w).alloc _).drew
  exact (fa.then_ F2.out (fun k hk => .inl (fun hF => hk (.inl hF)))).then_ F3.out (fun k hk => .inl (fun hF => hk (.inl hF)))
set_option maxRecDepth 8000 in
set_option maxHeartbeats 6400000 in
theorem does_3 (h : Bt F w0 w b d M r es big r.rm ms) (g : Good r) (mk : MkOk r es ms) (hb : big ≤ 9000) (c : Cl) (hk : c.kind = 3) :
    Calls Tryd.prog 24 #[.pointer (some ⟨b, 0, none⟩), .agg c.cells.toArray] w (DoesP F w0 w b d big r es ms c.kind) := by
  have H0 := Lib.hid (h.box (.cells c.cells.toArray 53))
  have HB := Lib.hid (heap_alloc_new w (.cells c.cells.toArray 53))
  have HG := Lib.hid g
  have HMk := Lib.hid mk
  have HNa := Lib.hid (And.intro g.na (And.intro g.nk (And.intro g.s0 g.s1)))
  have HNr := Lib.hid (show r.rm.accs.length ≤ 100000 ∧ r.rm.kept.length ≤ 100000 ∧ 0 ≤ r.rm.stamp ∧ r.rm.stamp ≤ 4611686018427387904 from by have := g.na; have := g.nk; have := g.s0; have := g.s1; show r.accs.length ≤ _ ∧ r.kept.length ≤ _ ∧ 0 ≤ r.stamp ∧ r.stamp ≤ _; omega)
  have HFn := Lib.hid (show ∀ k, F k → k < w.heap.size from fun k hk => by obtain ⟨lab, q, mv, wv, id, st, h⟩ := h; exact (h.ff k hk).2.2)
  obtain ⟨b0, b1⟩ := H0.out.cells
  obtain ⟨l1, l2, l3, l4, k0, k47, k50⟩ := cl_loads (P := Tryd.prog) (W := (w.alloc (.cells c.cells.toArray 53)).drew) (blk_drew HB.out)
  have k0 : (w.alloc (.cells c.cells.toArray 53)).cell? ⟨w.heap.size, 0, none⟩ = some (.int .i64 3) := by rw [← hk]; exact k0
  have HK := Lib.hid hk
  have HOb := Lib.hid (btEnd (H0.out.frF (Fr.refl _ _).drew) HG.out c.id c.n (by omega))
  clear h g mk hk
  go_enter Tryd.func24, Tryd.ntmps24
  go_upto_region 9 with fail
  go_region_held3 (fun w' => w'.cell? ⟨b, 0, none⟩ = some (Value.pointer (some ⟨d.B, 0, none⟩)) ∧ w'.cell? ⟨b, 1, none⟩ = some (Value.pointer (some ⟨M, 0, none⟩)) ∧ (loadCells ⟨w.heap.size, 48, none⟩ 2).run Tryd.prog w' = .ok #[.int .u64 c.id.hi, .int .u64 c.id.lo] w' ∧ w'.cell? ⟨w.heap.size, 50, none⟩ = some (Value.int .i64 c.n))
    (first | exact ⟨b0, b1, l4, k50⟩ | exact ⟨q0, q1, m4, j50⟩ | go_keep)
    (first
      | (go_at_call 41; go_must (with_reducible refine HOb.out.mono ?_); rintro e w2 ⟨c2, r2, es2, rfl, hr2, h2, f2⟩; obtain ⟨q0, q1⟩ := h2.cells; have bb := f2.blk (blk_drew HB.out) (fun hn => hn (.inr rfl)); obtain ⟨m1, m2, m3, m4, j0, j47, j50⟩ := cl_loads (P := Tryd.prog) (W := w2) bb; have H2 := Lib.hid h2; have F2 := Lib.hid f2; have HR2 := Lib.hid hr2; have BB := Lib.hid bb; clear h2 f2 hr2 bb)
      | (go_at_call 76; go_must (with_reducible refine (bmEnd H2.out c.id c.n HNr.out.2.1).mono ?_); rintro e w3 ⟨c3, m3', rfl, hr3, h3, f3⟩; obtain ⟨rfl, rfl⟩ := end_match HG.out HR2.out hr3; obtain ⟨q0, q1⟩ := h3.cells; have bb := f3.blk BB.out (fun hn => hn (.inr rfl)); obtain ⟨m1, m2, m3, m4, j0, j47, j50⟩ := cl_loads (P := Tryd.prog) (W := w3) bb; have H3 := Lib.hid h3; have F3 := Lib.hid f3; clear h3 f3 bb hr3))
  go_wp2_with fail
  go_ret
  obtain ⟨g2, bk⟩ := end_good HG.out HR2.out
  refine ⟨by first | rfl | simp, M, r2, es2, ms, (H3.out.more (Nat.le_succ _)).less (fun k hk => .inl hk), g2, mk_step HMk.out bk, fun _ => ⟨rfl, bk⟩, ?_, Nat.le_succ _⟩
  have fa : Fr (fun k => ¬ F k) w (w.alloc (.cells c.cells.toArray 53)).drew := ((Fr.refl _ w).alloc _).drew
  exact (fa.then_ F2.out (fun k hk => .inl (fun hF => hk (.inl hF)))).then_ F3.out (fun k hk => .inl (fun hF => hk (.inl hF)))
set_option maxRecDepth 8000 in
set_option maxHeartbeats 6400000 in
theorem does_4 (h : Bt F w0 w b d M r es big r.rm ms) (g : Good r) (mk : MkOk r es ms) (hb : big ≤ 9000) (c : Cl) (hk : c.kind = 4) :
    Calls Tryd.prog 24 #[.pointer (some ⟨b, 0, none⟩), .agg c.cells.toArray] w (DoesP F w0 w b d big r es ms c.kind) := by
  have H0 := Lib.hid (h.box (.cells c.cells.toArray 53))
  have HB := Lib.hid (heap_alloc_new w (.cells c.cells.toArray 53))
  have HG := Lib.hid g
  have HMk := Lib.hid mk
  have HNa := Lib.hid (And.intro g.na (And.intro g.nk (And.intro g.s0 g.s1)))
  have HNr := Lib.hid (show r.rm.accs.length ≤ 100000 ∧ r.rm.kept.length ≤ 100000 ∧ 0 ≤ r.rm.stamp ∧ r.rm.stamp ≤ 4611686018427387904 from by have := g.na; have := g.nk; have := g.s0; have := g.s1; show r.accs.length ≤ _ ∧ r.kept.length ≤ _ ∧ 0 ≤ r.stamp ∧ r.stamp ≤ _; omega)
  have HFn := Lib.hid (show ∀ k, F k → k < w.heap.size from fun k hk => by obtain ⟨lab, q, mv, wv, id, st, h⟩ := h; exact (h.ff k hk).2.2)
  obtain ⟨b0, b1⟩ := H0.out.cells
  obtain ⟨l1, l2, l3, l4, k0, k47, k50⟩ := cl_loads (P := Tryd.prog) (W := (w.alloc (.cells c.cells.toArray 53)).drew) (blk_drew HB.out)
  have k0 : (w.alloc (.cells c.cells.toArray 53)).cell? ⟨w.heap.size, 0, none⟩ = some (.int .i64 4) := by rw [← hk]; exact k0
  have HK := Lib.hid hk
  have HOb := Lib.hid (btTime (H0.out.frF (Fr.refl _ _).drew) c.n (by omega))
  clear h g mk hk
  go_enter Tryd.func24, Tryd.ntmps24
  go_upto_region 11 with fail
  go_region_held3 (fun w' => w'.cell? ⟨b, 0, none⟩ = some (Value.pointer (some ⟨d.B, 0, none⟩)) ∧ w'.cell? ⟨w.heap.size, 50, none⟩ = some (Value.int .i64 c.n))
    (first | exact ⟨b0, k50⟩ | exact ⟨q0, j50⟩ | go_keep)
    (first
      | (go_at_call 39; go_must (with_reducible refine HOb.out.mono ?_); rintro e w2 ⟨rfl, r2, es2, hr2, h2, f2⟩; obtain ⟨q0, q1⟩ := h2.cells; have bb := f2.blk (blk_drew HB.out) (fun hn => hn (.inr rfl)); have j50 := (cl_loads (P := Tryd.prog) (W := w2) bb).2.2.2.2.2.2; have H2 := Lib.hid h2; have F2 := Lib.hid f2; have HR2 := Lib.hid hr2; have BB := Lib.hid bb; clear h2 f2 hr2 bb))
  clear b0 b1 k0 k47 k50 l1 l2 l3 l4
  have HOm := Lib.hid (bmTime (H2.out.frF (Fr.refl _ _).drew) c.n)
  go_upto_region 12 with fail
  go_region_held3 (fun w' => w'.cell? ⟨b, 1, none⟩ = some (Value.pointer (some ⟨M, 0, none⟩)) ∧ w'.cell? ⟨w.heap.size, 50, none⟩ = some (Value.int .i64 c.n))
    (first | exact ⟨q1, j50⟩ | exact ⟨p1, i50⟩ | go_keep)
    (first
      | (go_at_call 77; go_must (with_reducible refine HOm.out.mono ?_); rintro e w3 ⟨rfl, h3, f3⟩; rw [time_match HR2.out] at h3; obtain ⟨p0, p1⟩ := h3.cells; have bb := f3.blk (blk_drew BB.out) (fun hn => hn (.inr rfl)); have i50 := (cl_loads (P := Tryd.prog) (W := w3) bb).2.2.2.2.2.2; have H3 := Lib.hid h3; have F3 := Lib.hid f3; clear h3 f3 bb))
  go_wp2_with fail
  go_ret
  obtain ⟨g2, bk⟩ := time_good HG.out HR2.out
  refine ⟨rfl, M, r2, es2, ms, (H3.out.more (Nat.le_succ _)).less (fun k hk => .inl hk), g2, mk_step HMk.out bk, fun _ => ⟨rfl, bk⟩, ?_, Nat.le_succ _⟩
  have fa : Fr (fun k => ¬ F k) w (w.alloc (.cells c.cells.toArray 53)).drew := ((Fr.refl _ w).alloc _).drew
  exact ((fa.then_ F2.out (fun k hk => .inl (fun hF => hk (.inl hF)))).drew).then_ F3.out (fun k hk => .inl (fun hF => hk (.inl hF)))
set_option maxRecDepth 8000 in
set_option maxHeartbeats 6400000 in
theorem does_x (h : Bt F w0 w b d M r es big r.rm ms) (g : Good r) (mk : MkOk r es ms) (hb : big ≤ 9000) (c : Cl) (hk : c.kind < 0 ∨ 6 < c.kind) :
    Calls Tryd.prog 24 #[.pointer (some ⟨b, 0, none⟩), .agg c.cells.toArray] w (DoesP F w0 w b d big r es ms c.kind) := by
  have H0 := Lib.hid (h.box (.cells c.cells.toArray 53))
  have HB := Lib.hid (heap_alloc_new w (.cells c.cells.toArray 53))
  have HG := Lib.hid g
  have HMk := Lib.hid mk
  have HNa := Lib.hid (And.intro g.na (And.intro g.nk (And.intro g.s0 g.s1)))
  have HNr := Lib.hid (show r.rm.accs.length ≤ 100000 ∧ r.rm.kept.length ≤ 100000 ∧ 0 ≤ r.rm.stamp ∧ r.rm.stamp ≤ 4611686018427387904 from by have := g.na; have := g.nk; have := g.s0; have := g.s1; show r.accs.length ≤ _ ∧ r.kept.length ≤ _ ∧ 0 ≤ r.stamp ∧ r.stamp ≤ _; omega)
  have HFn := Lib.hid (show ∀ k, F k → k < w.heap.size from fun k hk => by obtain ⟨lab, q, mv, wv, id, st, h⟩ := h; exact (h.ff k hk).2.2)
  obtain ⟨b0, b1⟩ := H0.out.cells
  obtain ⟨l1, l2, l3, l4, k0, k47, k50⟩ := cl_loads (P := Tryd.prog) (W := (w.alloc (.cells c.cells.toArray 53)).drew) (blk_drew HB.out)
  have HK := Lib.hid hk
  obtain ⟨k, hkk⟩ : ∃ k, c.kind = k := ⟨_, rfl⟩
  rw [hkk] at k0 hk
  have k0 : (w.alloc (.cells c.cells.toArray 53)).cell? ⟨w.heap.size, 0, none⟩ = some (.int .i64 k) := k0
  have HKk := Lib.hid hkk
  have e0 : (k == 0) = false := by simp; omega
  have e1 : (k == 1) = false := by simp; omega
  have e2 : (k == 2) = false := by simp; omega
  have e3 : (k == 3) = false := by simp; omega
  have e4 : (k == 4) = false := by simp; omega
  have e5 : (k == 5) = false := by simp; omega
  have e6 : (k == 6) = false := by simp; omega
  clear h g mk hk hkk
  go_enter Tryd.func24, Tryd.ntmps24
  go_wp2_with fail
  go_ret
  exact ⟨rfl, M, r, es, ms, (H0.out.more (by omega)).less (fun k hk => .inl hk), HG.out, HMk.out, fun _ => ⟨rfl, .refl _ _⟩, (Fr.refl _ w).alloc _, Nat.le_succ _⟩
end
end Go.Proofs.YtjchjpmgbmeohaaDoor

/- Both sides: a mark is told, or taken back to. -/
set_option linter.unusedSimpArgs false
set_option linter.unusedVariables false
namespace Go.Proofs.YtjchjpmgbmeohaaDoor
open Go.RowKit

theorem fresh_id (l : List Nat) : ∃ j, 2 ≤ j ∧ ∀ i ∈ l, i < j := by
  induction l with
  | nil => exact ⟨2, Nat.le_refl _, fun _ h => by cases h⟩
  | cons x l ih =>
    obtain ⟨j, h2, hj⟩ := ih
    refine ⟨j + x + 1, by omega, fun i hi => ?_⟩
    rcases List.mem_cons.1 hi with rfl | hi
    · omega
    · have := hj i hi; omega
section
variable {F : Nat → Prop} {w0 w W : World} {b : Nat} {d : Dd} {M M2 : Nat} {r : Raw} {es : List Ent} {big : Nat} {m : RM} {ms : List (Raw × List Ent)} {lab q : Nat → Nat} {mv wv mv' wv' : Value} {id : Nat} {st : List (Nat × Nat)} {n1 n2 : Nat}
theorem BtX.push (h : BtX F w0 w b d M r es big m ms lab q mv wv id st) (hmr : m = r.rm) (f : Fr (fun k => k = b ∨ mv.ownBlock = some k ∨ wv.ownBlock = some k) w W) (hb : W.heap[b]? = some (.cells #[.pointer (some ⟨d.B, 0, none⟩), .pointer (some ⟨M, 0, none⟩), mv', wv'] 61 (0, 0)))
    (hm : W.ownsRow 0 3 1 mv' (ms.length + 1) ((ms.reverse.map fun x => Value.int .i64 x.2.length) ++ [.int .i64 es.length])) (hw : W.ownsRow 0 57 1 wv' (ms.length + 1) ((st.reverse.map fun p => Value.pointer (some ⟨p.2, 0, none⟩)) ++ [.pointer (some ⟨M2, 0, none⟩)]))
    (lm : ∀ k, mv'.ownBlock = some k → mv.ownBlock = some k ∨ (w.heap.size ≤ k ∧ k < n1)) (lw : ∀ k, wv'.ownBlock = some k → wv.ownBlock = some k ∨ n2 ≤ k) (hc : MS W (fun k => n1 ≤ k ∧ k < n2) M2 m) (a1 : w.heap.size ≤ n1) (a2 : n1 ≤ n2) (a3 : n2 ≤ W.heap.size) : Bt F w0 W b d M r es big m ((r, es) :: ms) := by
  obtain ⟨id2, i2, hid⟩ := fresh_id (id :: st.map (·.1))
  have q1 : ∀ k, (k = b ∨ mv.ownBlock = some k ∨ wv.ownBlock = some k) → q k = 1 := fun k hk => by
    rcases hk with rfl | hk | hk
    · exact h.qb
    · exact (h.qm k hk).1
    · exact (h.qw k hk).1
  have hl0 : ∀ k, (k = b ∨ mv.ownBlock = some k ∨ wv.ownBlock = some k) → lab k = 0 := fun k hk => (h.q0 k (by rw [q1 k hk]; decide)).1
  have hfs := f.size
  obtain ⟨Q, hQ⟩ : ∃ Q : Nat → Nat, Q = fun k => if k < w.heap.size then q k else if n1 ≤ k ∧ k < n2 then id2 else if k < W.heap.size then 1 else 0 := ⟨_, rfl⟩
  have Qold : ∀ k, k < w.heap.size → Q k = q k := fun k hk => by rw [hQ]; exact if_pos hk
  have Qq : ∀ (j k : Nat), j ≠ 0 → q k = j → Q k = j := fun j k hj hk => by rw [Qold k (h.q0 k (by rw [hk]; exact hj)).2.2, hk]
  have Qnew : ∀ k, n1 ≤ k → k < n2 → Q k = id2 := fun k h1 h2 => by
    rw [hQ]
    show (if k < w.heap.size then q k else _) = _
    rw [if_neg (by omega), if_pos ⟨h1, h2⟩]
  have Qone : ∀ k, w.heap.size ≤ k → ¬ (n1 ≤ k ∧ k < n2) → k < W.heap.size → Q k = 1 := fun k h1 h2 h3 => by
    rw [hQ]
    show (if k < w.heap.size then q k else _) = _
    rw [if_neg (by omega), if_neg h2, if_pos h3]
  have Qlt : ∀ k, Q k ≠ 0 → k < W.heap.size := fun k hk => by
    by_cases hlt : k < w.heap.size
    · omega
    · by_cases h2 : n1 ≤ k ∧ k < n2
      · omega
      · by_cases h3 : k < W.heap.size
        · exact h3
        · exfalso; apply hk; rw [hQ]; show (if k < w.heap.size then q k else _) = 0; rw [if_neg hlt, if_neg h2, if_neg h3]
  have hb1 : b < w.heap.size := (h.q0 b (by rw [h.qb]; decide)).2.2
  have nb : ∀ p ∈ (id :: st.map (·.1)), ∀ k, q k = p → ¬ (k = b ∨ mv.ownBlock = some k ∨ wv.ownBlock = some k) := fun p hp k hk hs => by
    have := h.two p hp
    rw [q1 k hs] at hk
    omega
  refine ⟨lab, Q, mv', wv', id, (id2, M2) :: st, ⟨h.sta.fr f hl0, hb, by rw [List.reverse_cons, List.map_append]; exact hm, by rw [List.reverse_cons, List.map_append]; exact hw, by simp [h.len], (h.cur.fr f (nb id (List.mem_cons_self ..))).mono (fun k hk => Qq id k (by have := h.two id (List.mem_cons_self ..); omega) hk) (fun k hk => Qlt k (by have hk : Q k = id := hk; have := h.two id (List.mem_cons_self ..); omega)), fun i p x hp hx => ?_, ?_, fun j hj => ?_, Qq 1 b (by decide) h.qb, fun k hk => ?_, fun k hk => ?_, fun k hk hk2 => ?_, fun k hk => ?_, h.l0, h.fr.then_ f (fun k hk => .inr (h.q0 k (by rw [q1 k hk]; decide)).2.1), fun k hk => ?_⟩⟩
  · cases i with
    | zero =>
      simp only [List.getElem?_cons_zero, Option.some.injEq] at hp hx
      subst hp hx
      rw [← hmr]
      exact hc.mono (fun k hk => Qnew k hk.1 hk.2) (fun k hk => Qlt k (by have hk : Q k = id2 := hk; omega))
    | succ i =>
      simp only [List.getElem?_cons_succ] at hp hx
      have hpm : p.1 ∈ id :: st.map (·.1) := List.mem_cons_of_mem _ (List.mem_map.2 ⟨p, List.mem_of_getElem? hp, rfl⟩)
      have h2 := h.two p.1 hpm
      exact ((h.old i p x hp hx).fr f (nb p.1 hpm)).mono (fun k hk => Qq p.1 k (by omega) hk) (fun k hk => Qlt k (by have hk : Q k = p.1 := hk; omega))
  · have hnd := h.nd
    rw [List.nodup_cons] at hnd
    rw [List.map_cons, List.nodup_cons, List.nodup_cons]
    refine ⟨fun hm => ?_, fun hm => ?_, hnd.2⟩
    · rcases List.mem_cons.1 hm with e | hm
      · have := hid id (List.mem_cons_self ..); omega
      · exact hnd.1 hm
    · have := hid id2 (List.mem_cons_of_mem _ hm); omega
  · rw [List.map_cons] at hj
    rcases List.mem_cons.1 hj with rfl | hj
    · exact h.two _ (List.mem_cons_self ..)
    · rcases List.mem_cons.1 hj with rfl | hj
      · exact i2
      · exact h.two j (List.mem_cons_of_mem _ hj)
  · rcases lm k hk with h1 | h1
    · exact ⟨Qq 1 k (by decide) (h.qm k h1).1, (h.qm k h1).2⟩
    · exact ⟨Qone k h1.1 (by omega) (own_lt hm hk), by omega⟩
  · rcases lw k hk with h1 | h1
    · exact ⟨Qq 1 k (by decide) (h.qw k h1).1, (h.qw k h1).2⟩
    · exact ⟨Qone k (by omega) (by omega) (own_lt hw hk), by omega⟩
  · rcases lm k hk with h1 | h1
    · have := (h.q0 k (by rw [(h.qm k h1).1]; decide)).2.2
      rcases lw k hk2 with h2 | h2
      · exact h.mw k h1 h2
      · omega
    · rcases lw k hk2 with h2 | h2
      · have := (h.q0 k (by rw [(h.qw k h2).1]; decide)).2.2; omega
      · omega
  · by_cases hlt : k < w.heap.size
    · rw [Qold k hlt] at hk
      obtain ⟨h1, h2, h3⟩ := h.q0 k hk
      exact ⟨h1, h2, by omega⟩
    · exact ⟨h.sta.free (by omega), by have := h.fr.size; omega, Qlt k hk⟩
  · obtain ⟨h1, h2, h3⟩ := h.ff k hk
    exact ⟨h1, by rw [Qold k h3, h2], by omega⟩
theorem BtX.pop {x : Raw × List Ent} {p : Nat × Nat} {am aw : Option Addr} {cm cw : Nat} (h : BtX F w0 w b d M r es big m (x :: ms) lab q (.slice am (ms.length + 1) cm) (.slice aw (ms.length + 1) cw) id (p :: st)) (hxr : x.1 = r) :
    Bt F w0 (((w.setCell ⟨b, 1, none⟩ (.pointer (some ⟨p.2, 0, none⟩))).setCell ⟨b, 2, none⟩ (.slice am ms.length cm)).setCell ⟨b, 3, none⟩ (.slice aw ms.length cw)) b d p.2 r es big r.rm ms ∧ Fr (fun k => k = b) w (((w.setCell ⟨b, 1, none⟩ (.pointer (some ⟨p.2, 0, none⟩))).setCell ⟨b, 2, none⟩ (.slice am ms.length cm)).setCell ⟨b, 3, none⟩ (.slice aw ms.length cw)) := by
  have f : Fr (fun k => k = b) w (((w.setCell ⟨b, 1, none⟩ (.pointer (some ⟨p.2, 0, none⟩))).setCell ⟨b, 2, none⟩ (.slice am ms.length cm)).setCell ⟨b, 3, none⟩ (.slice aw ms.length cw)) := (((Fr.refl (fun k => k = b) w).set1 _).set1 _).set1 _
  have hq1 : ∀ k, q k ≠ 1 → ¬ k = b := fun k hk e => hk (by rw [e]; exact h.qb)
  have hlm : ∀ k, (Value.slice am ms.length cm).ownBlock = some k → (Value.slice am (ms.length + 1) cm).ownBlock = some k := fun k hk => by cases am with | none => cases hk | some a => exact hk
  have hlw : ∀ k, (Value.slice aw ms.length cw).ownBlock = some k → (Value.slice aw (ms.length + 1) cw).ownBlock = some k := fun k hk => by cases aw with | none => cases hk | some a => exact hk
  have hpl : st.length = ms.length := by have := h.len; simpa using this
  have hm := own_cut h.mrk rfl (show ms.length ≤ ms.length + 1 from Nat.le_succ _)
  have hw := own_cut h.was rfl (show ms.length ≤ ms.length + 1 from Nat.le_succ _)
  rw [List.reverse_cons, List.map_append, Nat.mul_one, List.take_left' (by simp)] at hm
  rw [List.reverse_cons, List.map_append, Nat.mul_one, List.take_left' (by simp [hpl])] at hw
  have hpid : p.1 ∈ id :: (p :: st).map (·.1) := by simp
  have h2p := h.two p.1 hpid
  have hnd := h.nd
  rw [List.map_cons, List.nodup_cons, List.nodup_cons] at hnd
  refine ⟨⟨lab, q, .slice am ms.length cm, .slice aw ms.length cw, p.1, st, ⟨h.sta.fr f (fun k hk => by rw [hk]; exact (h.q0 b (by rw [h.qb]; decide)).1), ?_, own_fr hm f (fun k hk => (h.qm k (hlm k hk)).2), own_fr hw f (fun k hk => (h.qw k (hlw k hk)).2), hpl, ?_, fun i p' x' hp hx => ?_, List.nodup_cons.2 hnd.2, fun j hj => ?_, h.qb, fun k hk => h.qm k (hlm k hk), fun k hk => h.qw k (hlw k hk), fun k hk hk2 => h.mw k (hlm k hk) (hlw k hk2), fun k hk => ?_, h.l0, h.fr.then_ f (fun k hk => .inr (by rw [hk]; exact (h.q0 b (by rw [h.qb]; decide)).2.1)), fun k hk => ?_⟩⟩, f⟩
  · have := blk_set (blk_set (blk_set h.blk 1 (.pointer (some ⟨p.2, 0, none⟩))) 2 (.slice am ms.length cm)) 3 (.slice aw ms.length cw)
    simpa using this
  · have := h.old 0 p x rfl rfl
    rw [hxr] at this
    exact this.fr f (fun k hk => hq1 k (by have hk : q k = p.1 := hk; omega))
  · have hpm : p'.1 ∈ id :: (p :: st).map (·.1) := by
      have : p' ∈ st := List.mem_of_getElem? hp
      simp only [List.map_cons, List.mem_cons, List.mem_map]
      exact .inr (.inr ⟨p', this, rfl⟩)
    have h2 := h.two p'.1 hpm
    exact (h.old (i + 1) p' x' (by simpa using hp) (by simpa using hx)).fr f (fun k hk => hq1 k (by have hk : q k = p'.1 := hk; omega))
  · exact h.two j (List.mem_cons_of_mem _ hj)
  · obtain ⟨h1, h2, h3⟩ := h.q0 k hk
    exact ⟨h1, h2, Nat.lt_of_lt_of_le h3 f.size⟩
  · obtain ⟨h1, h2, h3⟩ := h.ff k hk
    exact ⟨h1, h2, Nat.lt_of_lt_of_le h3 f.size⟩
theorem btBack {x : Raw × List Ent} (h : Bt F w0 w b d M r es big m ms) (hbk : Backs x.1 x.2 r es) (g : Good r) (hb : big ≤ 10000) : Calls Tryd.prog 28 #[.pointer (some ⟨d.B, 0, none⟩), .int .i64 x.2.length] w fun e w' => e = .returned (.tuple #[]) ∧ Bt F w0 w' b d M x.1 x.2 big m ms ∧ Fr (fun k => ¬ F k) w w' := by
  obtain ⟨lab, q, mv, wv, id, st, h⟩ := h
  obtain ⟨news, rfl, hf, hu⟩ := hbk
  have := g.na; have := g.nk
  refine (backS w lab d r news x.2 big h.sta hf (by omega) (by omega) (by omega)).mono fun e w' ⟨he, lab', hs, hp⟩ => ?_
  rw [hu] at hs
  exact ⟨he, h.books hs hp, hp.fr.mono (fun k hk hF => hk.1 (h.ff k hF).1)⟩
theorem btMark (h : Bt F w0 w b d M r es big m ms) : Calls Tryd.prog 27 #[.pointer (some ⟨d.B, 0, none⟩)] w fun e w' => e = .returned (.int .i64 es.length) ∧ Fr (fun _ => False) w w' := by
  obtain ⟨lab, q, mv, wv, id, st, h⟩ := h
  exact markS w lab d r es big h.sta
end
end Go.Proofs.YtjchjpmgbmeohaaDoor

/- Both sides: kinds 5, 6; whatever kind. -/
set_option linter.unusedSimpArgs false
set_option linter.unusedVariables false
namespace Go.Proofs.YtjchjpmgbmeohaaDoor
open Go.RowKit

theorem Tryd.infoInt15 : (Tryd.prog.info? 3).map (fun i => (i.zero, i.size, i.bytes)) = some (some (.int .i64 0), 1, 8) := by kernel_rfl
theorem Tryd.infoPtr15 : (Tryd.prog.info? 57).map (fun i => (i.zero, i.size, i.bytes)) = some (some (.pointer none), 1, 8) := by kernel_rfl
section
variable {F : Nat → Prop} {w0 w : World} {b : Nat} {d : Dd} {M : Nat} {r : Raw} {es : List Ent} {big : Nat} {ms : List (Raw × List Ent)}
attribute [-go_sem] loadCells
set_option maxRecDepth 8000 in
set_option maxHeartbeats 6400000 in
theorem does_5 (h : Bt F w0 w b d M r es big r.rm ms) (g : Good r) (mk : MkOk r es ms) (hb : big ≤ 9000) (c : Cl) (hk : c.kind = 5) (hms : ms.length ≤ 1000) :
    Calls Tryd.prog 24 #[.pointer (some ⟨b, 0, none⟩), .agg c.cells.toArray] w (DoesP F w0 w b d big r es ms c.kind) := by
  have H0 := Lib.hid (h.box (.cells c.cells.toArray 53))
  have HB := Lib.hid (heap_alloc_new w (.cells c.cells.toArray 53))
  have HG := Lib.hid g
  have HMk := Lib.hid mk
  have HNa := Lib.hid (And.intro g.na (And.intro g.nk (And.intro g.s0 g.s1)))
  have HNr := Lib.hid (show r.rm.accs.length ≤ 100000 ∧ r.rm.kept.length ≤ 100000 ∧ 0 ≤ r.rm.stamp ∧ r.rm.stamp ≤ 4611686018427387904 from by have := g.na; have := g.nk; have := g.s0; have := g.s1; show r.accs.length ≤ _ ∧ r.kept.length ≤ _ ∧ 0 ≤ r.stamp ∧ r.stamp ≤ _; omega)
  have HFn := Lib.hid (show ∀ k, F k → k < w.heap.size from fun k hk => by obtain ⟨lab, q, mv, wv, id, st, h⟩ := h; exact (h.ff k hk).2.2)
  obtain ⟨b0, b1⟩ := H0.out.cells
  obtain ⟨l1, l2, l3, l4, k0, k47, k50⟩ := cl_loads (P := Tryd.prog) (W := (w.alloc (.cells c.cells.toArray 53)).drew) (blk_drew HB.out)
  have k0 : (w.alloc (.cells c.cells.toArray 53)).cell? ⟨w.heap.size, 0, none⟩ = some (.int .i64 5) := by rw [← hk]; exact k0
  have HK := Lib.hid hk
  obtain ⟨iI, hiI, h0I, h1I, h2I⟩ := info_parts Tryd.infoInt15
  obtain ⟨iP, hiP, h0P, h1P, h2P⟩ := info_parts Tryd.infoPtr15
  obtain ⟨lab, q, mv, wv, id, st, hx⟩ := H0.out
  obtain ⟨am, cm, rfl, -, -⟩ := own_form hx.mrk
  obtain ⟨aw, cw, rfl, -, -⟩ := own_form hx.was
  have HX := Lib.hid hx
  have b2 := blk_cell hx.blk 2 rfl
  have HLe := Lib.hid hms
  have HMr := Lib.hid (btMark (H0.out.frF (Fr.refl _ _).drew))
  have hbl := blk_lt hx.blk
  clear h g mk hk hx hms
  go_enter Tryd.func24, Tryd.ntmps24
  go_upto_region 14 with fail
  obtain ⟨W, hW⟩ : ∃ W, w.alloc (.cells c.cells.toArray 53) = W := ⟨_, rfl⟩
  have FW := Lib.hid (show Fr (fun k => ¬ F k) w W from by rw [← hW]; exact (Fr.refl _ w).alloc _)
  (try rw [hW])
  rw [hW] at b0 b1 b2 HX HMr hbl
  clear k0 k47 k50 l1 l2 l3 l4 HB hW
  go_cut [] from 6 (fun w' => ∃ mv', w'.heap[b]? = some (.cells #[.pointer (some ⟨d.B, 0, none⟩), .pointer (some ⟨M, 0, none⟩), mv', .slice aw ms.length cw] 61 (0, 0)) ∧ w'.ownsRow 0 3 1 mv' (ms.length + 1) ((ms.reverse.map fun x => Value.int .i64 x.2.length) ++ [.int .i64 es.length]) ∧ (∀ k, mv'.ownBlock = some k → (Value.slice am ms.length cm).ownBlock = some k ∨ W.heap.size ≤ k) ∧ Fr (fun k => k = b ∨ (Value.slice am ms.length cm).ownBlock = some k) W w')
  case first =>
    have Hne := Lib.hid (show ¬ (Value.slice am ms.length cm).ownBlock = some b from fun e => (HX.out.qm b e).2 rfl)
    have HBk := Lib.hid HX.out.blk
    go_region_law (first
        | (go_simp; go_at_call 27; go_must (with_reducible refine HMr.out.mono ?_); rintro e w2 ⟨rfl, f2⟩; have bb := f2.blk (blk_drew HBk.out) (fun h => h); have q0 := blk_cell bb 0 rfl; have q2 := blk_cell bb 2 rfl; have hl2 := blk_lt bb; have Hb2 := Lib.hid bb; have F2 := Lib.hid f2; have HOm := Lib.hid (own_fr (HX.out.mrk.drew) f2 (fun _ _ h => h)); clear f2 bb)
        | ((refine step_append_fresh _ w2 rfl (.tmp 110) (.tmp 116) 58 rfl 3 iI (.int .i64 0) 1 8 Tryd.underlying58 hiI h0I h1I h2I rfl (by decide) (.slice am ms.length cm) ms.length _ (by simp only [Act.eval, Act.put]; rfl) HOm.out #[.int .i64 es.length] rfl (by simp [Act.eval, Act.put]) rfl (by simp [Value.oneCell']) (by have := HLe.out; omega) (by have := HLe.out; omega) ?_); intro g3 c3 w3 o3 f3 t3; have bb := f3.blk (blk_alloc Hb2.out _) Hne.out; have r0 := blk_cell bb 0 rfl; have r2 := blk_cell bb 2 rfl; have z2 := blk_free bb 2; have s0 := blk_cell (blk_set bb 2 (.slice (some ⟨g3, 0, none⟩) (ms.length + 1) c3)) 0 rfl; have Hb3 := Lib.hid bb; have O3 := Lib.hid o3; have F3 := Lib.hid f3; have T3 := Lib.hid t3; clear bb o3 f3 t3))
    all_goals
      go_wp2_with fail
      go_meet
      have hs2 := F2.out.size
      have hs2' : W.heap.size ≤ w2.heap.size := hs2
      have hz : (w2.alloc (.cells #[.int .i64 es.length] 3)).heap.size = w2.heap.size + 1 := by simp
      have ho := own_fr O3.out ((Fr.refl (fun k => k = b) w3).set1 (j := 2) (.slice (some ⟨g3, 0, none⟩) (ms.length + 1) c3)) (fun k hk e => by
        rcases T3.out k hk with h | h
        · exact Hne.out (by rw [← e]; exact h)
        · have := blk_lt HBk.out; omega)
      refine ⟨_, by simpa using blk_set Hb3.out 2 (.slice (some ⟨g3, 0, none⟩) (ms.length + 1) c3), ho, fun k hk => ?_, ?_⟩
      · rcases T3.out k hk with h | h
        · exact .inl h
        · exact .inr (by omega)
      · have fa : Fr (fun k => k = b ∨ (Value.slice am ms.length cm).ownBlock = some k) W w2 := (((Fr.refl _ W).drew).then_ F2.out (fun _ h => h.elim))
        exact ((fa.alloc _).then_ F3.out (fun k hk => .inl (.inr hk))).then_ ((Fr.refl (fun k => k = b) w3).set1 _) (fun k hk => .inl (.inl hk))
  case rest =>
  obtain ⟨mv', hb4, ho4, ht4, hf4⟩ := hcut
  obtain ⟨w4, hw4⟩ : ∃ W, W = wc := ⟨_, rfl⟩
  subst hw4
  have HBk4 := Lib.hid hb4
  have HO4 := Lib.hid ho4
  have HT4 := Lib.hid ht4
  have HF4 := Lib.hid hf4
  have hq1 : ∀ k, (k = b ∨ (Value.slice am ms.length cm).ownBlock = some k) → q k = 1 := fun k hk => hk.elim (fun e => by rw [e]; exact HX.out.qb) (fun h => (HX.out.qm k h).1)
  have HMc := Lib.hid (HX.out.cur.fr hf4 (fun k hk hs => by have hk : q k = id := hk; have := hq1 k hs; have := HX.out.two id (List.mem_cons_self ..); omega))
  have HOw := Lib.hid (own_fr HX.out.was hf4 (fun k hk hs => by rcases hs with rfl | hs; exact (HX.out.qw _ hk).2 rfl; exact HX.out.mw k hs hk))
  have HCp := Lib.hid (mCopy w4.drew _ M r.rm (HMc.out.fr (Fr.refl (fun _ => False) w4).drew (fun _ _ h => h)) HNr.out.1 HNr.out.2.1)
  clear b0 b1 b2 hb4 ho4 ht4 hf4 hq1
  go_upto_region 15 with fail
  have Hne := Lib.hid (show ¬ (Value.slice aw ms.length cw).ownBlock = some b from fun e => (HX.out.qw b e).2 rfl)
  have c1 := blk_cell HBk4.out 1 rfl
  have c3 := blk_cell HBk4.out 3 rfl
  go_region_law (first
      | (go_simp; go_at_call 26; go_must (with_reducible refine HCp.out.mono ?_); rintro e w5 ⟨M2, rfl, hm5, f5⟩; have bb := f5.blk (blk_drew HBk4.out) (fun h => h); have q1 := blk_cell bb 1 rfl; have q3 := blk_cell bb 3 rfl; have hl5 := blk_lt bb; have Hb5 := Lib.hid bb; have F5 := Lib.hid f5; have HM5 := Lib.hid hm5; have HO5 := Lib.hid (own_fr (HOw.out.drew) f5 (fun _ _ h => h)); clear f5 bb hm5)
      | ((refine step_append_fresh _ w5 rfl (.tmp 124) (.tmp 130) 59 rfl 57 iP (.pointer none) 1 8 Tryd.underlying59 hiP h0P h1P h2P rfl (by decide) (.slice aw ms.length cw) ms.length _ (by simp only [Act.eval, Act.put]; rfl) HO5.out #[.pointer (some ⟨M2, 0, none⟩)] rfl (by simp [Act.eval, Act.put]) rfl (by simp [Value.oneCell']) (by have := HLe.out; omega) (by have := HLe.out; omega) ?_); intro g6 c6 w6 o6 f6 t6; have bb := f6.blk (blk_alloc Hb5.out _) Hne.out; have r1 := blk_cell bb 1 rfl; have r3 := blk_cell bb 3 rfl; have z3 := blk_free bb 3; have s1 := blk_cell (blk_set bb 3 (.slice (some ⟨g6, 0, none⟩) (ms.length + 1) c6)) 1 rfl; have Hb6 := Lib.hid bb; have O6 := Lib.hid o6; have F6 := Lib.hid f6; have T6 := Lib.hid t6; clear bb o6 f6 t6))
  all_goals
    have hs5 : w4.heap.size ≤ w5.heap.size := F5.out.size
    have hz : (w5.alloc (.cells #[.pointer (some ⟨M2, 0, none⟩)] 57)).heap.size = w5.heap.size + 1 := by simp
    have hb4l := blk_lt HBk4.out
    have hs6 := F6.out.size
    have hawl : ∀ k, (Value.slice aw ms.length cw).ownBlock = some k → k < w4.heap.size := fun k hk => own_lt HOw.out hk
    have fw : Fr (fun k => k = b) w6 (w6.setCell ⟨b, 3, none⟩ (.slice (some ⟨g6, 0, none⟩) (ms.length + 1) c6)) := (Fr.refl (fun k => k = b) w6).set1 (j := 3) (.slice (some ⟨g6, 0, none⟩) (ms.length + 1) c6)
    have ho := own_fr O6.out fw (fun k hk e => by
      rcases T6.out k hk with h | h
      · exact Hne.out (by rw [← e]; exact h)
      · omega)
    have hb7 : (w6.setCell ⟨b, 3, none⟩ (.slice (some ⟨g6, 0, none⟩) (ms.length + 1) c6)).heap[b]? = some (.cells #[.pointer (some ⟨d.B, 0, none⟩), .pointer (some ⟨M, 0, none⟩), mv', .slice (some ⟨g6, 0, none⟩) (ms.length + 1) c6] 61 (0, 0)) := by simpa using blk_set Hb6.out 3 (.slice (some ⟨g6, 0, none⟩) (ms.length + 1) c6)
    have ht7 : ∀ k, (Value.slice (some ⟨g6, 0, none⟩) (ms.length + 1) c6).ownBlock = some k → (Value.slice aw ms.length cw).ownBlock = some k ∨ w5.heap.size ≤ k := fun k hk => by
      rcases T6.out k hk with h | h
      · exact .inl h
      · exact .inr (by omega)
    have f56 : Fr (fun k => k = b ∨ (Value.slice aw ms.length cw).ownBlock = some k) w5 (w6.setCell ⟨b, 3, none⟩ (.slice (some ⟨g6, 0, none⟩) (ms.length + 1) c6)) := (((Fr.refl _ w5).alloc _).then_ F6.out (fun k hk => .inl (.inr hk))).then_ fw (fun k hk => .inl (.inl hk))
    have hm7 := HM5.out.fr f56 (fun k hk hs => by
      have hk1 : w4.heap.size ≤ k := hk.1
      rcases hs with h | h
      · omega
      · have := hawl k h; omega)
    have fa : Fr (fun k => k = b ∨ (Value.slice aw ms.length cw).ownBlock = some k) w4 w5 := (((Fr.refl _ w4).drew).then_ F5.out (fun _ h => h.elim))
    have hf7 := fa.then_ f56 (fun k hk => .inl hk)
    have hs4 := HF4.out.size
    have hmlt : ∀ k, mv'.ownBlock = some k → k < w4.heap.size := fun k hk => own_lt HO4.out hk
    have hmd : ∀ k, mv'.ownBlock = some k → ¬ (k = b ∨ (Value.slice aw ms.length cw).ownBlock = some k) := fun k hk hs => by
      rcases HT4.out k hk with h | h
      · rcases hs with e | hs
        · exact (HX.out.qm k h).2 e
        · exact HX.out.mw k h hs
      · rcases hs with e | hs
        · have := blk_lt HX.out.blk; omega
        · have := (HX.out.q0 k (by rw [(HX.out.qw k hs).1]; decide)).2.2; omega
    have hall : Fr (fun k => k = b ∨ (Value.slice am ms.length cm).ownBlock = some k ∨ (Value.slice aw ms.length cw).ownBlock = some k) W _ := (HF4.out.mono (fun k hk => hk.imp (fun h => h) .inl)).then_ hf7 (fun k hk => .inl (hk.imp (fun h => h) .inr))
    have hfin := HX.out.push rfl hall hb7 (own_fr HO4.out hf7 hmd) ho (fun k hk => (HT4.out k hk).imp (fun h => h) (fun h => ⟨h, hmlt k hk⟩)) ht7 hm7 hs4 hs5 (by have := f56.size; omega)
    have HFin := Lib.hid hfin
    have HFr := Lib.hid (show Fr (fun k => ¬ F k) w _ from FW.out.then_ hall (fun k hk => .inl (fun hF => by
      have h0 := (HX.out.ff k (.inl hF)).2.1
      rcases hk with e | hk | hk
      · rw [e, HX.out.qb] at h0; cases h0
      · rw [(HX.out.qm k hk).1] at h0; cases h0
      · rw [(HX.out.qw k hk).1] at h0; cases h0)))
    clear hs5 hz hs6 hawl fw ho hb7 ht7 f56 hm7 fa hf7 hs4 hmlt hmd hall hfin
    go_wp2_with fail
    go_ret
    have hk := HK.out
    exact ⟨rfl, M, r, es, (r, es) :: ms, (HFin.out.more (by omega)).less (fun k hk => .inl hk), HG.out, ⟨.refl _ _, HG.out, HMk.out⟩, fun h => by omega, HFr.out, by simp⟩
end
end Go.Proofs.YtjchjpmgbmeohaaDoor
