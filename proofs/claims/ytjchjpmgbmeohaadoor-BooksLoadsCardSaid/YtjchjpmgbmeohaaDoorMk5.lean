/- Several texts in one, for the law BooksBack: BkL, BkM, BkN, BkO, BkP, BkQ. Each says what it shows; conditions: what each theorem names. -/
import Derived.Test.YtjchjpmgbmeohaaDoorMk3
import Derived.Test.YtjchjpmgbmeohaaDoorMk4
import Derived.Deep.RegionHeld3
import Derived.Test.YtjchjpmgbmeohaaDoorMk2
import Derived.Deep.MidRow
/- Books: what a state is. -/
set_option linter.unusedSimpArgs false
set_option linter.unusedVariables false
namespace Go.Proofs.YtjchjpmgbmeohaaDoor
open Go.RowKit

structure Kp where
  asked : Tx
  move : Tx
  fate : Int
def Tx.cells (a : Tx) : List Value := [.int .u64 a.id.hi, .int .u64 a.id.lo, .int .u64 a.debit.hi, .int .u64 a.debit.lo, .int .u64 a.credit.hi, .int .u64 a.credit.lo, .int .u64 a.amount.hi, .int .u64 a.amount.lo, .int .u64 a.pending.hi, .int .u64 a.pending.lo, .int .i64 a.timeout, .int .i64 a.ledger, .int .i64 a.code, .int .i64 a.flags, .int .i64 a.stamp, .int .i64 a.born]
def Kp.cells (k : Kp) : List Value := k.asked.cells ++ k.move.cells ++ [.int .i64 k.fate]
structure Itm where
  due : Int
  stamp : Int
  id : Nm
def Itm.cells (x : Itm) : List Value := [.int .i64 x.due, .int .i64 x.stamp, .int .u64 x.id.hi, .int .u64 x.id.lo]
def Itm.before (a b : Itm) : Prop := a.due < b.due ∨ (a.due = b.due ∧ a.stamp < b.stamp)
abbrev Pr := Int × Int
def Pr.cells (p : Pr) : List Value := [.int .i64 p.1, .int .i64 p.2]
def prs (ps : List Pr) : List Value := ps.flatMap Pr.cells
def its (xs : List Itm) : List Value := xs.flatMap Itm.cells
/-- Pairs, rising, are what a function tells. -/
structure ORel (ps : List Pr) (f : Int → Option Int) : Prop where
  up : ps.Pairwise (fun a b => a.1 < b.1)
  iff : ∀ s a, (s, a) ∈ ps ↔ f s = some a
/-- A heap's items are what a function tells. -/
structure QRel (hp : List Itm) (f : Int → Option Itm) : Prop where
  heap : ∀ (i : Nat) (x y : Itm), 0 < i → hp[i]? = some x → hp[(i - 1) / 2]? = some y → ¬ x.before y
  nd : (hp.map (·.stamp)).Nodup
  iff : ∀ s x, f s = some x ↔ x ∈ hp ∧ x.stamp = s
/-- A state's parts, whatever they have to do with one another. -/
structure Raw where
  accs : List Acc
  kept : List Kp
  ids : Nm → Option Int
  nms : Nm → Option Int
  sts : Int → Option Int
  ends : Int → Option Itm
  clock : Int
  stamp : Int
/-- Where the parts lie. -/
structure Dd where
  B : Nat
  A : Nat
  K : Nat
  I : Nat
  N : Nat
/-- What the log holds. -/
inductive Ent where
  | accCut (bl bn n : Nat)
  | accPut (bo bl bi i : Nat) (old : Acc)
  | kepCut (bl bn n : Nat)
  | kepPut (bo bl bi i : Nat) (old : Kp)
  | idDrop (bs ba : Nat) (a : Acc)
  | nmDrop (bs bm bk : Nat) (m : Tx) (k : Kp)
  | enDrop (bs bx : Nat) (x : Itm)
  | enPut (bs bx : Nat) (x : Itm)
  | stDec (bs : Nat)
  | clkSet (bw bs : Nat) (was : Int)
def pt (b : Nat) : Value := .pointer (some ⟨b, 0, none⟩)
def Ent.fn : Ent → Fn
  | .accCut .. => .func 98
  | .accPut .. => .func 104
  | .kepCut .. => .func 99
  | .kepPut .. => .func 105
  | .idDrop .. => .func 59
  | .nmDrop .. => .func 65
  | .enDrop .. => .func 69
  | .enPut .. => .func 88
  | .stDec .. => .func 96
  | .clkSet .. => .func 86
def Ent.caps : Ent → Array Value
  | .accCut bl bn _ => #[pt bl, pt bn]
  | .accPut bo bl bi _ _ => #[pt bo, pt bl, pt bi]
  | .kepCut bl bn _ => #[pt bl, pt bn]
  | .kepPut bo bl bi _ _ => #[pt bo, pt bl, pt bi]
  | .idDrop bs ba _ => #[pt bs, pt ba]
  | .nmDrop bs bm bk _ _ => #[pt bs, pt bm, pt bk]
  | .enDrop bs bx _ => #[pt bs, pt bx]
  | .enPut bs bx _ => #[pt bs, pt bx]
  | .stDec bs => #[pt bs]
  | .clkSet bw bs _ => #[pt bw, pt bs]
def Ent.val (e : Ent) : Value := .func e.fn #[] e.caps
def boxS (w : World) (b B : Nat) : Prop := w.heap[b]? = some (.cells #[pt B] 35 (0, 0))
def boxN (w : World) (b : Nat) (n : Int) : Prop := w.heap[b]? = some (.cells #[.int .i64 n] 3 (0, 0))
def Ent.at_ (w : World) (d : Dd) : Ent → Prop
  | .accCut bl bn n => w.heap[bl]? = some (.cells #[pt d.A] 91 (0, 0)) ∧ boxN w bn n
  | .accPut bo bl bi i old => w.heap[bo]? = some (.cells old.cells.toArray 26 (0, 0)) ∧ w.heap[bl]? = some (.cells #[pt d.A] 91 (0, 0)) ∧ boxN w bi i
  | .kepCut bl bn n => w.heap[bl]? = some (.cells #[pt d.K] 92 (0, 0)) ∧ boxN w bn n
  | .kepPut bo bl bi i old => w.heap[bo]? = some (.cells old.cells.toArray 63 (0, 0)) ∧ w.heap[bl]? = some (.cells #[pt d.K] 92 (0, 0)) ∧ boxN w bi i
  | .idDrop bs ba a => boxS w bs d.B ∧ w.heap[ba]? = some (.cells a.cells.toArray 26 (0, 0))
  | .nmDrop bs bm bk m k => boxS w bs d.B ∧ w.heap[bm]? = some (.cells m.cells.toArray 40 (0, 0)) ∧ w.heap[bk]? = some (.cells k.cells.toArray 63 (0, 0))
  | .enDrop bs bx x => boxS w bs d.B ∧ w.heap[bx]? = some (.cells x.cells.toArray 113 (0, 0))
  | .enPut bs bx x => boxS w bs d.B ∧ w.heap[bx]? = some (.cells x.cells.toArray 113 (0, 0))
  | .stDec bs => boxS w bs d.B
  | .clkSet bw bs was => boxN w bw was ∧ boxS w bs d.B
def Ent.has : Ent → Nat → Prop
  | .accCut bl bn _, k => k = bl ∨ k = bn
  | .accPut bo bl bi _ _, k => k = bo ∨ k = bl ∨ k = bi
  | .kepCut bl bn _, k => k = bl ∨ k = bn
  | .kepPut bo bl bi _ _, k => k = bo ∨ k = bl ∨ k = bi
  | .idDrop bs ba _, k => k = bs ∨ k = ba
  | .nmDrop bs bm bk _ _, k => k = bs ∨ k = bm ∨ k = bk
  | .enDrop bs bx _, k => k = bs ∨ k = bx
  | .enPut bs bx _, k => k = bs ∨ k = bx
  | .stDec bs, k => k = bs
  | .clkSet bw bs _, k => k = bw ∨ k = bs
theorem ent_fr {w w' : World} {d : Dd} {S2 : Nat → Prop} {e : Ent} (h : e.at_ w d) (hf : Fr S2 w w') (hn : ∀ k, e.has k → ¬ S2 k) : e.at_ w' d := by
  cases e with
  | accCut bl bn n => exact ⟨hf.blk h.1 (hn _ (.inl rfl)), hf.blk h.2 (hn _ (.inr rfl))⟩
  | accPut bo bl bi i old => exact ⟨hf.blk h.1 (hn _ (.inl rfl)), hf.blk h.2.1 (hn _ (.inr (.inl rfl))), hf.blk h.2.2 (hn _ (.inr (.inr rfl)))⟩
  | kepCut bl bn n => exact ⟨hf.blk h.1 (hn _ (.inl rfl)), hf.blk h.2 (hn _ (.inr rfl))⟩
  | kepPut bo bl bi i old => exact ⟨hf.blk h.1 (hn _ (.inl rfl)), hf.blk h.2.1 (hn _ (.inr (.inl rfl))), hf.blk h.2.2 (hn _ (.inr (.inr rfl)))⟩
  | idDrop bs ba a => exact ⟨hf.blk h.1 (hn _ (.inl rfl)), hf.blk h.2 (hn _ (.inr rfl))⟩
  | nmDrop bs bm bk m k => exact ⟨hf.blk h.1 (hn _ (.inl rfl)), hf.blk h.2.1 (hn _ (.inr (.inl rfl))), hf.blk h.2.2 (hn _ (.inr (.inr rfl)))⟩
  | enDrop bs bx x => exact ⟨hf.blk h.1 (hn _ (.inl rfl)), hf.blk h.2 (hn _ (.inr rfl))⟩
  | enPut bs bx x => exact ⟨hf.blk h.1 (hn _ (.inl rfl)), hf.blk h.2 (hn _ (.inr rfl))⟩
  | stDec bs => exact hf.blk h (hn _ rfl)
  | clkSet bw bs was => exact ⟨hf.blk h.1 (hn _ (.inl rfl)), hf.blk h.2 (hn _ (.inr rfl))⟩
/-- A table of names that is what a function tells. -/
def TabS (w : World) (S : Nat → Prop) (T : Nat) (f : Nm → Option Int) (big : Nat) : Prop := ∃ cs, IsT w S T cs ∧ (∀ y a, Has cs y a ↔ f y = some a) ∧ cnt 1 cs ≤ big
abbrev KepL (w : World) (S : Nat → Prop) (L B : Nat) (xs : List Kp) : Prop := Rw w S L 139 63 33 [.pointer (some ⟨B, 0, none⟩)] xs.length (xs.flatMap Kp.cells)
/-- The state's block, and the rows that it holds. -/
structure SB (w : World) (lab : Nat → Nat) (d : Dd) (r : Raw) (es : List Ent) (big : Nat) (lv sv qv : Value) (ps : List Pr) (hp : List Itm) : Prop where
  blk : w.heap[d.B]? = some (.cells #[lv, .pointer (some ⟨d.A, 0, none⟩), .pointer (some ⟨d.K, 0, none⟩), .pointer (some ⟨d.I, 0, none⟩), .pointer (some ⟨d.N, 0, none⟩), sv, qv, .int .i64 r.clock, .int .i64 r.stamp] 100 (0, 0))
  log : w.ownsRow 0 1 1 lv es.length (es.reverse.map Ent.val)
  logl : ∀ k, lv.ownBlock = some k → lab k = 1
  sts : w.ownsRow 0 121 2 sv ps.length (prs ps)
  stsl : ∀ k, sv.ownBlock = some k → lab k = 6
  orel : ORel ps r.sts
  ens : w.ownsRow 0 113 4 qv hp.length (its hp)
  ensl : ∀ k, qv.ownBlock = some k → lab k = 7
  qrel : QRel hp r.ends
  psb : ps.length ≤ big
  hpb : hp.length + es.length ≤ big
structure Sta (w : World) (lab : Nat → Nat) (d : Dd) (r : Raw) (es : List Ent) (big : Nat) : Prop where
  bb : ∃ lv sv qv ps hp, SB w lab d r es big lv sv qv ps hp
  labB : lab d.B = 8
  acc : AccL w (fun k => lab k = 2) d.A d.B r.accs
  kep : KepL w (fun k => lab k = 3) d.K d.B r.kept
  ids : TabS w (fun k => lab k = 4) d.I r.ids big
  nms : TabS w (fun k => lab k = 5) d.N r.nms big
  lt : ∀ k, lab k ≠ 0 → k < w.heap.size
  ents : ∀ e ∈ es, e.at_ w d ∧ ∀ k, e.has k → lab k = 9
/-- What a step leaves as it was: all that is nobody's, or the log's entries'; labels below n. -/
structure Stp (n : Nat) (w : World) (lab : Nat → Nat) (w' : World) (lab' : Nat → Nat) : Prop where
  fr : Fr (fun k => lab k ≠ 0 ∧ lab k ≠ 9) w w'
  le : n ≤ w.heap.size
  lx : ∀ k, k < n → lab' k = lab k
  nz : ∀ k, k < w.heap.size → lab k ≠ 0 → lab' k = lab k
  own : ∀ k, k < w.heap.size → lab k = 0 → lab' k = 0 ∨ lab' k = 9
theorem Stp.refl {n : Nat} {w : World} {lab : Nat → Nat} (h : n ≤ w.heap.size) : Stp n w lab w lab := ⟨Fr.refl _ _, h, fun _ _ => rfl, fun _ _ _ => rfl, fun _ _ h => .inl h⟩
theorem Stp.plain {n : Nat} {w w' : World} {lab : Nat → Nat} (h : n ≤ w.heap.size) (f : Fr (fun k => lab k = 0 ∧ n ≤ k ∧ False) w w') : Stp n w lab w' lab := ⟨f.mono (fun _ h => h.2.2.elim), h, fun _ _ => rfl, fun _ _ _ => rfl, fun _ _ h => .inl h⟩
theorem Stp.then_ {n m : Nat} {w w1 w2 : World} {l l1 l2 : Nat → Nat} (h : Stp n w l w1 l1) (k : Stp m w1 l1 w2 l2) (hm : n ≤ m) (hl : ∀ k, l1 k ≠ 0 → k < w1.heap.size) : Stp n w l w2 l2 := by
  have hs := h.fr.size
  refine ⟨h.fr.then_ k.fr (fun j hj => ?_), h.le, fun j hj => ?_, fun j hj hz => ?_, fun j hj hz => ?_⟩
  · by_cases hj2 : j < w.heap.size
    · left
      by_cases h0 : l j = 0
      · rcases h.own j hj2 h0 with h1 | h1
        · exact absurd h1 hj.1
        · exact absurd h1 hj.2
      · have := h.nz j hj2 h0
        rw [this] at hj
        exact hj
    · exact .inr (by omega)
  · rw [k.lx j (by omega), h.lx j hj]
  · have e := h.nz j hj hz
    rw [k.nz j (by omega) (by rw [e]; exact hz), e]
  · rcases h.own j hj hz with h1 | h1
    · exact k.own j (by omega) h1
    · exact .inr (by rw [k.nz j (by omega) (by rw [h1]; decide), h1])
/-- A block of one's own, read. -/
theorem Stp.blk {n : Nat} {w w' : World} {lab lab' : Nat → Nat} {b : Nat} {o : Obj} (h : Stp n w lab w' lab') (hb : w.heap[b]? = some o) (hl : lab b = 0 ∨ lab b = 9) : w'.heap[b]? = some o ∧ (lab' b = 0 ∨ lab' b = 9) :=
  ⟨h.fr.blk hb (fun k => hl.elim k.1 k.2), by
    rcases hl with hl | hl
    · exact h.own b (blk_lt hb) hl
    · exact .inr (by rw [h.nz b (blk_lt hb) (by rw [hl]; decide), hl])⟩
section
variable {w w' : World} {lab lab' : Nat → Nat} {d : Dd} {r : Raw} {es : List Ent} {big : Nat}
/-- Nothing of the state's is written. -/
theorem Sta.fr {S2 : Nat → Prop} (h : Sta w lab d r es big) (hf : Fr S2 w w') (hn : ∀ k, S2 k → lab k = 0) : Sta w' lab d r es big where
  bb := by
    obtain ⟨lv, sv, qv, ps, hp, b⟩ := h.bb
    have hz : ∀ k n, n ≠ 0 → lab k = n → ¬ S2 k := fun k n h0 hl hs => h0 (by rw [← hl]; exact hn k hs)
    exact ⟨lv, sv, qv, ps, hp, ⟨hf.blk b.blk (hz _ 8 (by decide) h.labB), own_fr b.log hf (fun k hk => hz _ 1 (by decide) (b.logl k hk)), b.logl, own_fr b.sts hf (fun k hk => hz _ 6 (by decide) (b.stsl k hk)), b.stsl, b.orel, own_fr b.ens hf (fun k hk => hz _ 7 (by decide) (b.ensl k hk)), b.ensl, b.qrel, b.psb, b.hpb⟩⟩
  labB := h.labB
  acc := h.acc.fr hf (fun k hk hs => by have := hn k hs; rw [hk] at this; cases this)
  kep := h.kep.fr hf (fun k hk hs => by have := hn k hs; rw [hk] at this; cases this)
  ids := by obtain ⟨cs, h1, h2⟩ := h.ids; exact ⟨cs, h1.fr hf (fun k hk hs => by have := hn k hs; rw [hk] at this; cases this), h2⟩
  nms := by obtain ⟨cs, h1, h2⟩ := h.nms; exact ⟨cs, h1.fr hf (fun k hk hs => by have := hn k hs; rw [hk] at this; cases this), h2⟩
  lt := fun k hk => Nat.lt_of_lt_of_le (h.lt k hk) hf.size
  ents := fun e he => ⟨ent_fr (h.ents e he).1 hf (fun k hk hs => by have := hn k hs; rw [(h.ents e he).2 k hk] at this; cases this), (h.ents e he).2⟩
theorem Sta.alloc (h : Sta w lab d r es big) (o : Obj) : Sta (w.alloc o) lab d r es big := h.fr ((Fr.refl (fun _ => False) w).alloc o) (fun _ h => h.elim)
theorem Sta.drew (h : Sta w lab d r es big) : Sta w.drew lab d r es big := h.fr ((Fr.refl (fun _ => False) w).drew) (fun _ h => h.elim)
/-- What lies behind is nobody's. -/
theorem Sta.free (h : Sta w lab d r es big) {k : Nat} (hk : w.heap.size ≤ k) : lab k = 0 := by
  by_cases h0 : lab k = 0
  · exact h0
  · have := h.lt k h0; omega
theorem SB.more {big' : Nat} {lv sv qv : Value} {ps : List Pr} {hp : List Itm} (b : SB w lab d r es big lv sv qv ps hp) (hb : big ≤ big') : SB w lab d r es big' lv sv qv ps hp := ⟨b.blk, b.log, b.logl, b.sts, b.stsl, b.orel, b.ens, b.ensl, b.qrel, Nat.le_trans b.psb hb, Nat.le_trans b.hpb hb⟩
theorem tab_more {S : Nat → Prop} {T big' : Nat} {f : Nm → Option Int} (h : TabS w S T f big) (hb : big ≤ big') : TabS w S T f big' := by
  obtain ⟨cs, h1, h2, h3⟩ := h
  exact ⟨cs, h1, h2, Nat.le_trans h3 hb⟩
theorem Sta.more {big' : Nat} (h : Sta w lab d r es big) (hb : big ≤ big') : Sta w lab d r es big' where
  bb := by obtain ⟨lv, sv, qv, ps, hp, b⟩ := h.bb; exact ⟨lv, sv, qv, ps, hp, b.more hb⟩
  labB := h.labB
  acc := h.acc
  kep := h.kep
  ids := tab_more h.ids hb
  nms := tab_more h.nms hb
  lt := h.lt
  ents := h.ents
end
/-! What a step of one part does to the others. -/
section
variable {w w' : World} {lab lab' : Nat → Nat} {S2 : Nat → Prop}
/-- Labels that were told stay, all that is told lies below. -/
structure Rel (w : World) (lab : Nat → Nat) (w' : World) (lab' : Nat → Nat) : Prop where
  nz : ∀ k, lab k ≠ 0 → lab' k = lab k
  lt : ∀ k, lab' k ≠ 0 → k < w'.heap.size
theorem Rw.rel {c b : Nat} {T et : TypeId} {sz n : Nat} {rest vs : List Value} (h : Rw w (fun k => lab k = c) b T et sz rest n vs) (hc : c ≠ 0) (hf : Fr S2 w w') (hn : ∀ k, S2 k → lab k ≠ c) (hr : Rel w lab w' lab') : Rw w' (fun k => lab' k = c) b T et sz rest n vs :=
  (h.fr hf (fun k hk hs => hn k hs hk)).mono (fun k hk => by show lab' k = c; rw [hr.nz k (by rw [hk]; exact hc)]; exact hk) (fun k hk => hr.lt k (by rw [hk]; exact hc))
theorem TabS.rel {c T : Nat} {f : Nm → Option Int} {big : Nat} (h : TabS w (fun k => lab k = c) T f big) (hc : c ≠ 0) (hf : Fr S2 w w') (hn : ∀ k, S2 k → lab k ≠ c) (hr : Rel w lab w' lab') : TabS w' (fun k => lab' k = c) T f big := by
  obtain ⟨cs, h1, h2⟩ := h
  exact ⟨cs, (h1.fr hf (fun k hk hs => hn k hs hk)).mono (fun k hk => by show lab' k = c; rw [hr.nz k (by rw [hk]; exact hc)]; exact hk) (fun k hk => hr.lt k (by rw [hk]; exact hc)), h2⟩
theorem SB.rel {d : Dd} {r : Raw} {es : List Ent} {big : Nat} {lv sv qv : Value} {ps : List Pr} {hp : List Itm} (b : SB w lab d r es big lv sv qv ps hp) (hB : lab d.B = 8) (hf : Fr S2 w w') (hn : ∀ k, S2 k → lab k ≠ 1 ∧ lab k ≠ 6 ∧ lab k ≠ 7 ∧ lab k ≠ 8) (hr : Rel w lab w' lab') {r' : Raw} (e1 : r'.sts = r.sts) (e2 : r'.ends = r.ends) (e3 : r'.clock = r.clock) (e4 : r'.stamp = r.stamp) : SB w' lab' d r' es big lv sv qv ps hp := by
  have hk : ∀ k c, c ≠ 0 → lab k = c → lab' k = c := fun k c h0 h1 => by rw [hr.nz k (by rw [h1]; exact h0), h1]
  exact ⟨by rw [e3, e4]; exact hf.blk b.blk (fun hs => (hn _ hs).2.2.2 hB), own_fr b.log hf (fun k hk hs => (hn k hs).1 (b.logl k hk)), fun k h => hk k 1 (by decide) (b.logl k h), own_fr b.sts hf (fun k hk hs => (hn k hs).2.1 (b.stsl k hk)), fun k h => hk k 6 (by decide) (b.stsl k h), e1 ▸ b.orel, own_fr b.ens hf (fun k hk hs => (hn k hs).2.2.1 (b.ensl k hk)), fun k h => hk k 7 (by decide) (b.ensl k h), e2 ▸ b.qrel, b.psb, b.hpb⟩
theorem ents_rel {d : Dd} {es : List Ent} (h : ∀ e ∈ es, e.at_ w d ∧ ∀ k, e.has k → lab k = 9) (hf : Fr S2 w w') (hn : ∀ k, S2 k → lab k ≠ 9) (hr : Rel w lab w' lab') : ∀ e ∈ es, e.at_ w' d ∧ ∀ k, e.has k → lab' k = 9 :=
  fun e he => ⟨ent_fr (h e he).1 hf (fun k hk hs => hn k hs ((h e he).2 k hk)), fun k hk => by rw [hr.nz k (by rw [(h e he).2 k hk]; decide), (h e he).2 k hk]⟩
end
end Go.Proofs.YtjchjpmgbmeohaaDoor

/- Books: a part of a state goes on; the others stay. -/
set_option linter.unusedSimpArgs false
set_option linter.unusedVariables false
namespace Go.Proofs.YtjchjpmgbmeohaaDoor
open Go.RowKit

open Classical in
/-- A function, told anew at a place. -/
noncomputable def upd {α β : Type} (f : α → Option β) (x : α) (v : Option β) : α → Option β := fun y => if y = x then v else f y
theorem upd_self {α β : Type} (f : α → Option β) (x : α) (v : Option β) : upd f x v x = v := by simp [upd]
theorem upd_ne {α β : Type} (f : α → Option β) {x y : α} (v : Option β) (h : y ≠ x) : upd f x v y = f y := by simp [upd, h]
theorem upd_back {α β : Type} (f : α → Option β) (x : α) (v : Option β) (h : f x = none) : upd (upd f x v) x none = f := by
  funext y
  by_cases e : y = x
  · rw [e, upd_self, h]
  · rw [upd_ne _ _ e, upd_ne _ _ e]
theorem upd_again {α β : Type} (f : α → Option β) (x : α) (v : Option β) (h : f x = v) : upd (upd f x none) x v = f := by
  funext y
  by_cases e : y = x
  · rw [e, upd_self, h]
  · rw [upd_ne _ _ e, upd_ne _ _ e]
/-- What is new has a label. -/
def ext (lab : Nat → Nat) (n m c : Nat) : Nat → Nat := fun k => if k < n then lab k else if k < m then c else 0
section
variable {w w' : World} {lab : Nat → Nat} {d : Dd} {r : Raw} {es : List Ent} {big c : Nat}
theorem ext_rel (h : Sta w lab d r es big) (hs : w.heap.size ≤ w'.heap.size) : Rel w lab w' (ext lab w.heap.size w'.heap.size c) := by
  refine ⟨fun k hk => by rw [ext, if_pos (h.lt k hk)], fun k hk => ?_⟩
  rw [ext] at hk
  split at hk
  · omega
  · split at hk
    · assumption
    · exact absurd rfl hk
theorem ext_stp {n c : Nat} (hn : n ≤ w.heap.size) (hc : Fr (fun k => lab k ≠ 0 ∧ lab k ≠ 9) w w') : Stp n w lab w' (ext lab w.heap.size w'.heap.size c) :=
  ⟨hc, hn, fun k hk => by rw [ext, if_pos (by omega)], fun k hk _ => by rw [ext, if_pos hk], fun k hk h => .inl (by rw [ext, if_pos hk, h])⟩
theorem ext_gro (h : Sta w lab d r es big) (hc : c ≠ 0) {k : Nat} (hk : Gro (fun k => lab k = c) w w' k) : ext lab w.heap.size w'.heap.size c k = c := by
  rcases hk with hk | hk
  · rw [ext, if_pos (h.lt k (by rw [hk]; exact hc)), hk]
  · rw [ext, if_neg (by omega), if_pos hk.2]
theorem ext_lt (h : Sta w lab d r es big) (hs : w.heap.size ≤ w'.heap.size) {k : Nat} (hk : ext lab w.heap.size w'.heap.size c k ≠ 0) : k < w'.heap.size := (ext_rel h hs).lt k hk
theorem ext_in (h : Sta w lab d r es big) (hc : c ≠ 0) (hs : w.heap.size ≤ w'.heap.size) {k : Nat} (hk : ext lab w.heap.size w'.heap.size c k = c) : k < w'.heap.size := ext_lt h hs (by rw [hk]; exact hc)

/-! The log. -/
theorem Sta.logAt (h : Sta w lab d r es big) {lv sv qv : Value} {ps : List Pr} {hp : List Itm} (b : SB w lab d r es big lv sv qv ps hp) :
    LogAt w (fun k => lab k = 1 ∨ k = d.B) d.B [.pointer (some ⟨d.A, 0, none⟩), .pointer (some ⟨d.K, 0, none⟩), .pointer (some ⟨d.I, 0, none⟩), .pointer (some ⟨d.N, 0, none⟩), sv, qv, .int .i64 r.clock, .int .i64 r.stamp] es.length (es.reverse.map Ent.val) := by
  refine ⟨lv, b.blk, b.log, .inr rfl, fun k hk => ⟨.inl (b.logl k hk), fun e => ?_⟩, fun k hk => ?_⟩
  · have h1 := b.logl k hk
    have h8 := h.labB
    rw [← e, h1] at h8
    cases h8
  · rcases hk with hk | rfl
    · exact h.lt k (by rw [hk]; decide)
    · exact h.lt _ (by rw [h.labB]; decide)
theorem Sta.len (h : Sta w lab d r es big) : es.length ≤ big := by
  obtain ⟨lv, sv, qv, ps, hp, b⟩ := h.bb
  have := b.hpb
  omega
/-- Rows that a step of the log leaves: the others of the state's. -/
theorem Sta.relog (h : Sta w lab d r es big) {lv sv qv : Value} {ps : List Pr} {hp : List Itm} (b : SB w lab d r es big lv sv qv ps hp) {lab' : Nat → Nat} {es' : List Ent} {big' : Nat} (hf : Fr (fun k => lab k = 1 ∨ k = d.B) w w') (hr : Rel w lab w' lab')
    (hg : LogAt w' (fun k => lab' k = 1 ∨ k = d.B) d.B [.pointer (some ⟨d.A, 0, none⟩), .pointer (some ⟨d.K, 0, none⟩), .pointer (some ⟨d.I, 0, none⟩), .pointer (some ⟨d.N, 0, none⟩), sv, qv, .int .i64 r.clock, .int .i64 r.stamp] es'.length (es'.reverse.map Ent.val))
    (he : ∀ e ∈ es', e.at_ w' d ∧ ∀ k, e.has k → lab' k = 9) (hb : big ≤ big') (hb2 : hp.length + es'.length ≤ big') : Sta w' lab' d r es' big' := by
  have hn : ∀ k, (lab k = 1 ∨ k = d.B) → lab k = 1 ∨ lab k = 8 := fun k hk => hk.elim .inl (fun e => .inr (by rw [e]; exact h.labB))
  have hk : ∀ k c, c ≠ 0 → lab k = c → lab' k = c := fun k c h0 h1 => by rw [hr.nz k (by rw [h1]; exact h0), h1]
  have hne : ∀ c, c ≠ 1 → c ≠ 8 → ∀ k, (lab k = 1 ∨ k = d.B) → lab k ≠ c := fun c h1 h8 k hs e => by
    rcases hn k hs with h | h
    · rw [h] at e; exact h1 e.symm
    · rw [h] at e; exact h8 e.symm
  obtain ⟨lv', hb', ho', _, hl', _⟩ := hg
  refine ⟨⟨lv', sv, qv, ps, hp, ⟨hb', ho', fun k hk => ?_, own_fr b.sts hf (fun k hk hs => hne 6 (by decide) (by decide) k hs (b.stsl k hk)), fun k h => hk k 6 (by decide) (b.stsl k h), b.orel, own_fr b.ens hf (fun k hk hs => hne 7 (by decide) (by decide) k hs (b.ensl k hk)), fun k h => hk k 7 (by decide) (b.ensl k h), b.qrel, Nat.le_trans b.psb hb, hb2⟩⟩, hk _ 8 (by decide) h.labB, h.acc.rel (by decide) hf (hne 2 (by decide) (by decide)) hr, h.kep.rel (by decide) hf (hne 3 (by decide) (by decide)) hr, tab_more (h.ids.rel (by decide) hf (hne 4 (by decide) (by decide)) hr) hb, tab_more (h.nms.rel (by decide) hf (hne 5 (by decide) (by decide)) hr) hb, hr.lt, he⟩
  rcases (hl' k hk).1 with h | h
  · exact h
  · exact absurd h (hl' k hk).2
/-- What one more entry leaves. -/
def KeepPost (n : Nat) (w : World) (lab : Nat → Nat) (d : Dd) (r : Raw) (es : List Ent) (big : Nat) (e : Ent) (q : Ending) (w' : World) : Prop := q = .returned (.tuple #[]) ∧ ∃ lab', Sta w' lab' d r (e :: es) (big + 1) ∧ Stp n w lab w' lab'
open Classical in
/-- One more entry: its blocks are the entries' now. -/
theorem keepS (w : World) (lab : Nat → Nat) (d : Dd) (r : Raw) (es : List Ent) (big n : Nat) (e : Ent) (h : Sta w lab d r es big) (he : e.at_ w d) (hh : ∀ k, e.has k → n ≤ k ∧ k < w.heap.size ∧ (lab k = 0 ∨ lab k = 9)) (hn : n ≤ w.heap.size) (hb : big ≤ 1000000) :
    Calls Tryd.prog 58 #[.pointer (some ⟨d.B, 0, none⟩), .func e.fn #[] e.caps] w (KeepPost n w lab d r es big e) := by
  obtain ⟨lv, sv, qv, ps, hp, b⟩ := h.bb
  have hlen := h.len
  refine (keepB w _ d.B _ es.length _ e.fn #[] e.caps (h.logAt b) (by omega)).mono ?_
  rintro q w' ⟨rfl, hg, hf⟩
  refine ⟨rfl, fun k => if e.has k then 9 else ext lab w.heap.size w'.heap.size 1 k, ?_, ?_⟩
  · have hr : Rel w lab w' (fun k => if e.has k then 9 else ext lab w.heap.size w'.heap.size 1 k) := by
      refine ⟨fun k hk => ?_, fun k hk => ?_⟩
      · show (if e.has k then 9 else _) = _
        split
        · rename_i h9
          rcases (hh k h9).2.2 with h | h
          · exact absurd h hk
          · exact h.symm
        · exact (ext_rel h hf.size).nz k hk
      · split at hk
        · rename_i h9
          exact Nat.lt_of_lt_of_le (hh k h9).2.1 hf.size
        · exact ext_lt h hf.size hk
    have hd : ∀ k, e.has k → ¬ (lab k = 1 ∨ k = d.B) := fun k hk hs => by
      have h9 := (hh k hk).2.2
      rcases hs with hs | rfl
      · rw [hs] at h9; rcases h9 with h9 | h9 <;> cases h9
      · rw [h.labB] at h9; rcases h9 with h9 | h9 <;> cases h9
    refine h.relog b hf hr ?_ (fun e' he' => ?_) (Nat.le_succ _) (by have := b.hpb; simp only [List.length_cons]; omega)
    · rw [show (e :: es).reverse.map Ent.val = es.reverse.map Ent.val ++ [.func e.fn #[] e.caps] from by simp [Ent.val], List.length_cons]
      obtain ⟨v, hb', ho', hS', hv', hl'⟩ := hg
      refine ⟨v, hb', ho', .inr rfl, fun k hk => ⟨?_, (hv' k hk).2⟩, fun k hk => ?_⟩
      · left
        show (if e.has k then 9 else _) = 1
        have h1 := (hv' k hk).1
        rcases h1 with (h1 | h1) | h1
        · rw [if_neg (fun h9 => hd k h9 (.inl h1))]
          exact ext_gro (c := 1) h (by decide) (.inl h1)
        · exact absurd h1 (hv' k hk).2
        · rw [if_neg (fun h9 => by have := (hh k h9).2.1; omega)]
          exact ext_gro (c := 1) h (by decide) (.inr h1)
      · rcases hk with hk | rfl
        · exact hr.lt k (by rw [hk]; decide)
        · exact Nat.lt_of_lt_of_le (h.lt _ (by rw [h.labB]; decide)) hf.size
    · rcases List.mem_cons.1 he' with rfl | he'
      · exact ⟨ent_fr he hf hd, fun k hk => if_pos hk⟩
      · refine ents_rel h.ents hf (fun k hk h9 => ?_) hr e' he'
        rcases hk with hk | rfl
        · rw [hk] at h9; cases h9
        · rw [h.labB] at h9; cases h9
  · refine ⟨hf.mono (fun k hk => ?_), hn, fun k hk => ?_, fun k hk h0 => ?_, fun k hk h0 => ?_⟩
    · rcases hk with hk | rfl
      · rw [hk]; decide
      · rw [h.labB]; decide
    · show (if e.has k then 9 else _) = _
      rw [if_neg (fun h9 => by have := (hh k h9).1; omega), ext, if_pos (by omega)]
    · show (if e.has k then 9 else _) = _
      split
      · rename_i h9
        rcases (hh k h9).2.2 with h | h
        · exact absurd h h0
        · exact h.symm
      · rw [ext, if_pos hk]
    · show (if e.has k then 9 else _) = 0 ∨ (if e.has k then 9 else _) = 9
      split
      · exact .inr rfl
      · rw [ext, if_pos hk]; exact .inl h0

/-! The table of accounts' names. -/
theorem Sta.reids (h : Sta w lab d r es big) {f : Nm → Option Int} {big' : Nat} (hf : Fr (fun k => lab k = 4) w w') (ht : TabS w' (Gro (fun k => lab k = 4) w w') d.I f big') (hb : big ≤ big') : Sta w' (ext lab w.heap.size w'.heap.size 4) d { r with ids := f } es big' := by
  have hr := ext_rel (c := 4) h hf.size
  have hn : ∀ c, c ≠ 4 → ∀ k, lab k = 4 → lab k ≠ c := fun c hc k hk e => hc (by rw [← e, hk])
  obtain ⟨lv, sv, qv, ps, hp, b⟩ := h.bb
  obtain ⟨cs, t1, t2⟩ := ht
  exact ⟨⟨lv, sv, qv, ps, hp, (b.rel h.labB hf (fun k hk => ⟨hn 1 (by decide) k hk, hn 6 (by decide) k hk, hn 7 (by decide) k hk, hn 8 (by decide) k hk⟩) hr (r' := { r with ids := f }) rfl rfl rfl rfl).more hb⟩, by rw [hr.nz _ (by rw [h.labB]; decide), h.labB], h.acc.rel (by decide) hf (hn 2 (by decide)) hr, h.kep.rel (by decide) hf (hn 3 (by decide)) hr,
    ⟨cs, t1.mono (fun k hk => ext_gro h (by decide) hk) (fun k hk => ext_in h (by decide) hf.size hk), t2⟩, tab_more (h.nms.rel (by decide) hf (hn 5 (by decide)) hr) hb, hr.lt, ents_rel h.ents hf (hn 9 (by decide)) hr⟩
theorem idGetS (w : World) (lab : Nat → Nat) (d : Dd) (r : Raw) (es : List Ent) (big : Nat) (x : Nm) (h : Sta w lab d r es big) :
    Calls Tryd.prog 55 #[.pointer (some ⟨d.I, 0, none⟩), .agg #[.int .u64 x.hi, .int .u64 x.lo]] w fun e w' => e = .returned (.tuple #[.int .i64 ((r.ids x).getD 0), .bool (r.ids x).isSome]) ∧ Fr (fun _ => False) w w' := by
  obtain ⟨cs, h1, h2, h3⟩ := h.ids
  refine (get_any w _ d.I cs x h1).mono ?_
  rintro e w' ⟨a, b, rfl, hab, hf⟩
  refine ⟨?_, hf⟩
  rcases hab with ⟨rfl, hh⟩ | ⟨rfl, rfl, hh⟩
  · rw [(h2 x a).1 hh]; rfl
  · have : r.ids x = none := by
      cases hx : r.ids x with
      | none => rfl
      | some a => exact (hh (has_in ((h2 x a).2 hx))).elim
    rw [this]; rfl
theorem isin_iff {cs : List PC} {f : Nm → Option Int} (h : ∀ y a, Has cs y a ↔ f y = some a) (x : Nm) : IsIn cs x ↔ (f x).isSome = true := by
  constructor
  · rintro ⟨p, c, h1, h2, h3⟩
    rw [(h x c.at_).1 ⟨p, c, h1, h2, h3, rfl⟩]; rfl
  · intro hs
    obtain ⟨a, ha⟩ := Option.isSome_iff_exists.1 hs
    exact has_in ((h x a).2 ha)
theorem tab_put {w w' : World} {S : Nat → Prop} {T : Nat} {cs : List PC} {f : Nm → Option Int} {x : Nm} {a : Int} {e : Ending} {big : Nat} (h2 : ∀ y a, Has cs y a ↔ f y = some a) (h3 : cnt 1 cs ≤ big) (hp : PutPost S T cs x a w e w') : e = .returned (.bool (f x).isNone) ∧ TabS w' (Gro S w w') T (upd f x (some a)) (big + 1) ∧ Fr S w w' := by
  obtain ⟨b, cs', rfl, hb, ht, hh, hc, hf⟩ := hp
  refine ⟨?_, ⟨cs', ht, fun y c => ?_, ?_⟩, hf⟩
  · rw [isin_iff h2] at hb
    cases hx : (f x) with
    | none => rw [hx] at hb; simp at hb; rw [hb]; rfl
    | some v => rw [hx] at hb; simp at hb; rw [hb]; rfl
  · rw [hh y c, h2]
    by_cases e : y = x
    · subst e; rw [upd_self]; simp [eq_comm]
    · rw [upd_ne _ _ e]; simp [e]
  · rw [hc]; split <;> omega
theorem tab_drop {w w' : World} {S : Nat → Prop} {T : Nat} {cs : List PC} {f : Nm → Option Int} {x : Nm} {e : Ending} {big : Nat} (h2 : ∀ y a, Has cs y a ↔ f y = some a) (h3 : cnt 1 cs ≤ big) (hp : DropPost S T cs x w e w') : e = .returned (.bool (f x).isSome) ∧ TabS w' S T (upd f x none) big ∧ Fr S w w' := by
  obtain ⟨b, cs', rfl, hb, ht, hh, hc, _, hf⟩ := hp
  refine ⟨?_, ⟨cs', ht, fun y c => ?_, ?_⟩, hf⟩
  · rw [isin_iff h2] at hb
    cases hx : (f x) with
    | none => rw [hx] at hb; simp at hb; rw [hb]; rfl
    | some v => rw [hx] at hb; simp at hb; rw [hb]; rfl
  · rw [hh y c, h2]
    by_cases e : y = x
    · subst e; rw [upd_self]; simp
    · rw [upd_ne _ _ e]; simp [e]
  · split at hc <;> omega
theorem idPutS (w : World) (lab : Nat → Nat) (d : Dd) (r : Raw) (es : List Ent) (big : Nat) (x : Nm) (a : Int) (h : Sta w lab d r es big) (hb : big ≤ 100000) :
    Calls Tryd.prog 57 #[.pointer (some ⟨d.I, 0, none⟩), .agg #[.int .u64 x.hi, .int .u64 x.lo], .int .i64 a] w fun e w' => e = .returned (.bool (r.ids x).isNone) ∧ ∃ lab', Sta w' lab' d { r with ids := upd r.ids x (some a) } es (big + 1) ∧ Stp w.heap.size w lab w' lab' := by
  obtain ⟨cs, h1, h2, h3⟩ := h.ids
  refine (put_any w _ d.I cs x a h1 (by omega)).mono ?_
  intro e w' hp
  obtain ⟨rfl, ht, hf⟩ := tab_put h2 h3 hp
  exact ⟨rfl, _, h.reids hf ht (Nat.le_succ _), ext_stp (Nat.le_refl _) (hf.mono (fun k hk => by rw [hk]; decide))⟩
theorem idDropS (w : World) (lab : Nat → Nat) (d : Dd) (r : Raw) (es : List Ent) (big : Nat) (x : Nm) (h : Sta w lab d r es big) :
    Calls Tryd.prog 60 #[.pointer (some ⟨d.I, 0, none⟩), .agg #[.int .u64 x.hi, .int .u64 x.lo]] w fun e w' => e = .returned (.bool (r.ids x).isSome) ∧ ∃ lab', Sta w' lab' d { r with ids := upd r.ids x none } es big ∧ Stp w.heap.size w lab w' lab' := by
  obtain ⟨cs, h1, h2, h3⟩ := h.ids
  refine (drop_any w _ d.I cs x h1).mono ?_
  intro e w' hp
  obtain ⟨rfl, ⟨cs', t1, t2⟩, hf⟩ := tab_drop h2 h3 hp
  exact ⟨rfl, _, h.reids hf ⟨cs', t1.mono (fun k hk => .inl hk) (fun k hk => hk.elim (fun hk => Nat.lt_of_lt_of_le (h.lt k (by rw [hk]; decide)) hf.size) (fun hk => hk.2)), t2⟩ (Nat.le_refl _), ext_stp (Nat.le_refl _) (hf.mono (fun k hk => by rw [hk]; decide))⟩
end
end Go.Proofs.YtjchjpmgbmeohaaDoor

/- Books: one more account, one more stamp. -/
set_option linter.unusedSimpArgs false
set_option linter.unusedVariables false
namespace Go.Proofs.YtjchjpmgbmeohaaDoor
open Go.RowKit

/-- Labels behind a list's Add. -/
def lab3 (lab : Nat → Nat) (n m s c : Nat) : Nat → Nat := fun k => if k < n then lab k else if k = n ∨ k = n + 1 + 1 then 9 else if k < n + 3 then 0 else if k < m then c else if k < s then 1 else 0
section
variable {w w' : World} {lab : Nat → Nat} {d : Dd} {r : Raw} {es : List Ent} {big : Nat}
theorem lab3_old {n m s c k : Nat} (hk : k < n) : lab3 lab n m s c k = lab k := by rw [lab3, if_pos hk]
theorem lab3_ent {n m s c k : Nat} (hk : k = n ∨ k = n + 1 + 1) : lab3 lab n m s c k = 9 := by rw [lab3, if_neg (by omega), if_pos hk]
theorem lab3_row {n m s c k : Nat} (h1 : n + 3 ≤ k) (h2 : k < m) : lab3 lab n m s c k = c := by rw [lab3, if_neg (by omega), if_neg (by omega), if_neg (by omega), if_pos h2]
theorem lab3_log {n m s c k : Nat} (h0 : n + 3 ≤ m) (h1 : m ≤ k) (h2 : k < s) : lab3 lab n m s c k = 1 := by rw [lab3, if_neg (by omega), if_neg (by omega), if_neg (by omega), if_neg (by omega), if_pos h2]
theorem lab3_lt {n : Nat} (hl : ∀ k, lab k ≠ 0 → k < n) {m s c k : Nat} (h0 : n + 3 ≤ m) (h1 : m ≤ s) (hk : lab3 lab n m s c k ≠ 0) : k < s := by
  rw [lab3] at hk
  split at hk
  · omega
  · split at hk
    · omega
    · split at hk
      · exact absurd rfl hk
      · split at hk
        · omega
        · split at hk
          · assumption
          · exact absurd rfl hk
theorem lab3_rel (h : Sta w lab d r es big) {m c : Nat} (h0 : w.heap.size + 3 ≤ m) (h1 : m ≤ w'.heap.size) : Rel w lab w' (lab3 lab w.heap.size m w'.heap.size c) :=
  ⟨fun k hk => lab3_old (h.lt k hk), fun _ hk => lab3_lt h.lt h0 h1 hk⟩
theorem accLenS (w : World) (lab : Nat → Nat) (d : Dd) (r : Raw) (es : List Ent) (big : Nat) (h : Sta w lab d r es big) :
    Calls Tryd.prog 54 #[.pointer (some ⟨d.A, 0, none⟩)] w fun e w' => e = .returned (.int .i64 r.accs.length) ∧ w' = w := accLen w _ d.A d.B r.accs h.acc
theorem accAddS (w : World) (lab : Nat → Nat) (d : Dd) (r : Raw) (es : List Ent) (big : Nat) (a : Acc) (h : Sta w lab d r es big) (hx : r.accs.length ≤ 100000) (hb : big ≤ 100000) :
    Calls Tryd.prog 61 #[.pointer (some ⟨d.A, 0, none⟩), .agg a.cells.toArray] w fun q w' => q = .returned (.int .i64 r.accs.length) ∧ ∃ lab', Sta w' lab' d { r with accs := r.accs ++ [a] } (.accCut w.heap.size (w.heap.size + 1 + 1) r.accs.length :: es) (big + 1) ∧ Stp w.heap.size w lab w' lab' := by
  obtain ⟨lv, sv, qv, ps, hp, b⟩ := h.bb
  have hlen := h.len
  have h8 := h.labB
  refine (accAdd w _ (fun k => lab k = 1 ∨ k = d.B) d.A d.B _ r.accs a es.length _ h.acc (h.logAt b) (fun k hk hg => ?_) hx (by omega)).mono ?_
  · rcases hg with hg | rfl
    · rw [hk] at hg; cases hg
    · rw [hk] at h8; cases h8
  rintro q w' ⟨rfl, m, hm0, hm1, ha, hg, hf, hb0, hb2⟩
  have hr : Rel w lab w' (lab3 lab w.heap.size m w'.heap.size 2) := lab3_rel h hm0 hm1
  have hk : ∀ k c, c ≠ 0 → lab k = c → lab3 lab w.heap.size m w'.heap.size 2 k = c := fun k c h0 h1 => by rw [hr.nz k (by rw [h1]; exact h0), h1]
  have hS : ∀ k, (lab k = 2 ∨ (lab k = 1 ∨ k = d.B)) → lab k = 2 ∨ lab k = 1 ∨ lab k = 8 := fun k hk => hk.imp id (fun hk => hk.imp id (fun e => by rw [e]; exact h8))
  have hne : ∀ c, c ≠ 1 → c ≠ 2 → c ≠ 8 → ∀ k, (lab k = 2 ∨ (lab k = 1 ∨ k = d.B)) → lab k ≠ c := fun c h1 h2 h8 k hs e => by
    rcases hS k hs with h | h | h
    · rw [h] at e; exact h2 e.symm
    · rw [h] at e; exact h1 e.symm
    · rw [h] at e; exact h8 e.symm
  refine ⟨rfl, lab3 lab w.heap.size m w'.heap.size 2, ⟨?_, hk _ 8 (by decide) h8, ?_, h.kep.rel (by decide) hf (hne 3 (by decide) (by decide) (by decide)) hr, tab_more (h.ids.rel (by decide) hf (hne 4 (by decide) (by decide) (by decide)) hr) (Nat.le_succ _), tab_more (h.nms.rel (by decide) hf (hne 5 (by decide) (by decide) (by decide)) hr) (Nat.le_succ _), hr.lt, ?_⟩, ?_⟩
  · obtain ⟨lv', hb', ho', _, hl', _⟩ := hg
    refine ⟨lv', sv, qv, ps, hp, ⟨hb', ?_, fun k hk => ?_, own_fr b.sts hf (fun k hk hs => hne 6 (by decide) (by decide) (by decide) k hs (b.stsl k hk)), fun k h => hk k 6 (by decide) (b.stsl k h), b.orel, own_fr b.ens hf (fun k hk hs => hne 7 (by decide) (by decide) (by decide) k hs (b.ensl k hk)), fun k h => hk k 7 (by decide) (b.ensl k h), b.qrel, Nat.le_succ_of_le b.psb, by have := b.hpb; simp only [List.length_cons]; omega⟩⟩
    · rw [show (Ent.accCut w.heap.size (w.heap.size + 1 + 1) r.accs.length :: es).reverse.map Ent.val = es.reverse.map Ent.val ++ [addFn w.heap.size (w.heap.size + 1 + 1)] from by simp [Ent.val, Ent.fn, Ent.caps, addFn, pt], List.length_cons]
      exact ho'
    · rcases (hl' k hk).1 with (h1 | h1) | h1
      · rw [lab3_old (h.lt k (by rw [h1]; decide)), h1]
      · exact absurd h1 (hl' k hk).2
      · exact lab3_log hm0 h1.1 h1.2
  · refine Rw.mono ha (fun k hk => ?_) (fun k hk => hr.lt k (by rw [hk]; decide))
    rcases hk with hk | hk
    · show lab3 lab _ _ _ _ k = 2
      rw [lab3_old (h.lt k (by rw [hk]; decide)), hk]
    · exact lab3_row hk.1 hk.2
  · intro e he
    rcases List.mem_cons.1 he with rfl | he
    · exact ⟨⟨hb0, hb2⟩, fun k hk => lab3_ent hk⟩
    · exact ents_rel h.ents hf (hne 9 (by decide) (by decide) (by decide)) hr e he
  · refine ⟨hf.mono (fun k hk => ?_), Nat.le_refl _, fun k hk => lab3_old hk, fun k hk _ => lab3_old hk, fun k hk h0 => .inl (by rw [lab3_old hk, h0])⟩
    rcases hS k hk with h | h | h <;> rw [h] <;> decide
end

/-! One more stamp. -/
theorem Sta.restamp {w : World} {lab : Nat → Nat} {d : Dd} {r : Raw} {es : List Ent} {big : Nat} (h : Sta w lab d r es big) (s : Int) : Sta (w.setCell ⟨d.B, 8, none⟩ (.int .i64 s)) lab d { r with stamp := s } es big ∧ Fr (fun k => k = d.B) w (w.setCell ⟨d.B, 8, none⟩ (.int .i64 s)) := by
  have hf : Fr (fun k => k = d.B) w (w.setCell ⟨d.B, 8, none⟩ (.int .i64 s)) := (Fr.refl (fun k => k = d.B) w).setCell (p := ⟨d.B, 8, none⟩) (.inl rfl) _
  have h8 := h.labB
  have hn : ∀ c, c ≠ 8 → ∀ k, k = d.B → lab k ≠ c := fun c hc k hk e => hc (by rw [← e, hk, h8])
  have hr : Rel w lab (w.setCell ⟨d.B, 8, none⟩ (.int .i64 s)) lab := ⟨fun _ _ => rfl, fun k hk => Nat.lt_of_lt_of_le (h.lt k hk) hf.size⟩
  obtain ⟨lv, sv, qv, ps, hp, b⟩ := h.bb
  refine ⟨⟨⟨lv, sv, qv, ps, hp, ⟨?_, own_fr b.log hf (fun k hk hs => hn 1 (by decide) k hs (b.logl k hk)), b.logl, own_fr b.sts hf (fun k hk hs => hn 6 (by decide) k hs (b.stsl k hk)), b.stsl, b.orel, own_fr b.ens hf (fun k hk hs => hn 7 (by decide) k hs (b.ensl k hk)), b.ensl, b.qrel, b.psb, b.hpb⟩⟩, h8, h.acc.rel (by decide) hf (hn 2 (by decide)) hr, h.kep.rel (by decide) hf (hn 3 (by decide)) hr, h.ids.rel (by decide) hf (hn 4 (by decide)) hr, h.nms.rel (by decide) hf (hn 5 (by decide)) hr, hr.lt, ents_rel h.ents hf (hn 9 (by decide)) hr⟩, hf⟩
  have hb := blk_set b.blk 8 (.int .i64 s)
  simpa using hb
theorem Sta.cells {w : World} {lab : Nat → Nat} {d : Dd} {r : Raw} {es : List Ent} {big : Nat} (h : Sta w lab d r es big) : w.cell? ⟨d.B, 1, none⟩ = some (.pointer (some ⟨d.A, 0, none⟩)) ∧ w.cell? ⟨d.B, 2, none⟩ = some (.pointer (some ⟨d.K, 0, none⟩)) ∧ w.cell? ⟨d.B, 3, none⟩ = some (.pointer (some ⟨d.I, 0, none⟩)) ∧ w.cell? ⟨d.B, 4, none⟩ = some (.pointer (some ⟨d.N, 0, none⟩)) ∧ w.cell? ⟨d.B, 7, none⟩ = some (.int .i64 r.clock) ∧ w.cell? ⟨d.B, 8, none⟩ = some (.int .i64 r.stamp) ∧ w.frozen? ⟨d.B, 7, none⟩ = false ∧ w.frozen? ⟨d.B, 8, none⟩ = false := by
  obtain ⟨lv, sv, qv, ps, hp, b⟩ := h.bb
  exact ⟨blk_cell b.blk 1 rfl, blk_cell b.blk 2 rfl, blk_cell b.blk 3 rfl, blk_cell b.blk 4 rfl, blk_cell b.blk 7 rfl, blk_cell b.blk 8 rfl, blk_free b.blk 7, blk_free b.blk 8⟩
def NextPost (w : World) (lab : Nat → Nat) (d : Dd) (r : Raw) (es : List Ent) (big : Nat) (e : Ending) (w' : World) : Prop :=
  e = .returned (.int .i64 (r.stamp + 1)) ∧ ∃ lab' b, Sta w' lab' d { r with stamp := r.stamp + 1 } (.stDec b :: es) (big + 1) ∧ Stp w.heap.size w lab w' lab'
set_option maxHeartbeats 1600000 in
theorem nextS (w : World) (lab : Nat → Nat) (d : Dd) (r : Raw) (es : List Ent) (big : Nat) (h : Sta w lab d r es big) (hb : big ≤ 100000) (h0 : 0 ≤ r.stamp) (h1 : r.stamp ≤ 4611686018427387904) :
    Calls Tryd.prog 56 #[.pointer (some ⟨d.B, 0, none⟩)] w (NextPost w lab d r es big) := by
  obtain ⟨s, hs⟩ : ∃ s, r.stamp = s := ⟨_, rfl⟩
  have HSt := Lib.hid hs
  rw [hs] at h0 h1
  have ws : IntKind.i64.wrap (s + 1) = s + 1 := IntWalk.i64_in _ (by omega)
  obtain ⟨-, -, -, -, -, c8, -, f8⟩ := (h.alloc (.cells #[.pointer (some ⟨d.B, 0, none⟩)] 35)).cells
  rw [hs] at c8
  have h8 := h.labB
  have hBl := h.lt d.B (by rw [h8]; decide)
  have Hbx := Lib.hid (blk_far2 (heap_alloc_new w (.cells #[.pointer (some ⟨d.B, 0, none⟩)] 35)) (b := d.B) (j := 8) (by omega) (.int .i64 (s + 1)))
  have Hlab := Lib.hid (h.free (Nat.le_refl _))
  have H8 := Lib.hid h8
  have cx := blk_cell (heap_alloc_new w (.cells #[.pointer (some ⟨d.B, 0, none⟩)] 35)) 0 rfl
  obtain ⟨S1, f1⟩ := (h.alloc (.cells #[.pointer (some ⟨d.B, 0, none⟩)] 35)).restamp (s + 1)
  have HSt1 := Lib.hid S1
  have HF1 := Lib.hid (((Fr.refl (fun k => k = d.B) w).alloc (.cells #[.pointer (some ⟨d.B, 0, none⟩)] 35)).then_ f1 (fun _ h => .inl h))
  have HLt := Lib.hid h.lt
  have HK := Lib.hid (show Calls Tryd.prog 58 #[.pointer (some ⟨d.B, 0, none⟩), .func (.func 96) #[] #[.pointer (some ⟨w.heap.size, 0, none⟩)]] ((w.alloc (.cells #[.pointer (some ⟨d.B, 0, none⟩)] 35)).setCell ⟨d.B, 8, none⟩ (.int .i64 (s + 1))) (KeepPost w.heap.size _ lab d { r with stamp := s + 1 } es big (.stDec w.heap.size)) from keepS _ lab d _ es big w.heap.size (.stDec w.heap.size) S1 Hbx.out (fun k hk => by have hk : k = w.heap.size := hk; subst hk; exact ⟨Nat.le_refl _, blk_lt Hbx.out, .inl Hlab.out⟩) (Nat.le_of_lt (blk_lt Hbx.out)) (by omega))
  clear f1 S1 hs h h8 hBl
  go_enter Tryd.func56, Tryd.ntmps56
  go_wp2_with fail
  refine HK.out.mono ?_
  rintro e w2 ⟨rfl, lab2, h2, p2⟩
  obtain ⟨-, -, -, -, -, k8, -, -⟩ := h2.cells
  have kx := blk_cell (p2.blk Hbx.out (.inl Hlab.out)).1 0 rfl
  have H2 := Lib.hid h2
  have P2 := Lib.hid p2
  clear h2 p2
  go_wp2_with fail
  go_ret
  rw [← HSt.out] at *
  refine ⟨rfl, lab2, w.heap.size, H2.out, (Stp.mk (HF1.out.mono (fun k hk => by rw [hk, H8.out]; decide)) (Nat.le_refl _) (fun _ _ => rfl) (fun _ _ _ => rfl) (fun _ _ h => .inl h) : Stp w.heap.size w lab _ lab).then_ P2.out (Nat.le_refl _) HSt1.out.lt⟩
end Go.Proofs.YtjchjpmgbmeohaaDoor

/- Books: Open. -/
set_option linter.unusedSimpArgs false
set_option linter.unusedVariables false
namespace Go.Proofs.YtjchjpmgbmeohaaDoor
open Go.RowKit

theorem Stp.fr_ {n : Nat} {w w1 w2 : World} {lab lab' : Nat → Nat} (h : Stp n w lab w1 lab') (f : Fr (fun _ => False) w1 w2) : Stp n w lab w2 lab' := ⟨h.fr.then_ f (fun _ h => h.elim), h.le, h.lx, h.nz, h.own⟩
theorem Stp.set {n b j : Nat} {w w1 : World} {lab lab' : Nat → Nat} (h : Stp n w lab w1 lab') (hb : w.heap.size ≤ b) (u : Value) : Stp n w lab (w1.setCell ⟨b, j, none⟩ u) lab' := ⟨h.fr.setCell (p := ⟨b, j, none⟩) (.inr hb) u, h.le, h.lx, h.nz, h.own⟩
theorem Stp.of {n : Nat} {w w1 : World} {lab : Nat → Nat} (h : n ≤ w.heap.size) (f : Fr (fun _ => False) w w1) : Stp n w lab w1 lab := (Stp.refl h).fr_ f
theorem Sta.set {w : World} {lab : Nat → Nat} {d : Dd} {r : Raw} {es : List Ent} {big b j : Nat} (h : Sta w lab d r es big) (hb : lab b = 0) (u : Value) : Sta (w.setCell ⟨b, j, none⟩ u) lab d r es big := h.fr ((Fr.refl (fun k => k = b) w).setCell (p := ⟨b, j, none⟩) (.inl rfl) u) (fun k hk => by rw [hk]; exact hb)
/-- What Open makes of a state. -/
inductive OpenR (r : Raw) (es : List Ent) (a : Acc) : Int → Raw → List Ent → Prop
  | full (h : 32 ≤ r.accs.length) : OpenR r es a 6 r es
  | there (h : r.accs.length < 32) (h2 : (r.ids a.id).isSome = true) : OpenR r es a 1 r es
  | done (h : r.accs.length < 32) (h2 : r.ids a.id = none) (b1 b2 b3 b4 b5 : Nat) : OpenR r es a 0 { r with accs := r.accs ++ [{ a with stamp := r.stamp + 1 }], ids := upd r.ids a.id (some (r.accs.length : Int)), stamp := r.stamp + 1 } (.accCut b1 b2 r.accs.length :: .idDrop b3 b4 { a with stamp := r.stamp + 1 } :: .stDec b5 :: es)
def OpenPost (w : World) (lab : Nat → Nat) (d : Dd) (r : Raw) (es : List Ent) (big : Nat) (a : Acc) (e : Ending) (w' : World) : Prop :=
  ∃ c lab' r' es', e = .returned (.int .i64 c) ∧ OpenR r es a c r' es' ∧ Sta w' lab' d r' es' (big + 4) ∧ Stp w.heap.size w lab w' lab'
set_option maxRecDepth 4000 in
set_option maxHeartbeats 3200000 in
theorem openS (w : World) (lab : Nat → Nat) (d : Dd) (r : Raw) (es : List Ent) (big : Nat) (a : Acc) (h : Sta w lab d r es big) (hb : big ≤ 10000) (h0 : 0 ≤ r.stamp) (h1 : r.stamp ≤ 4611686018427387904) (hlen : r.accs.length ≤ 10000) :
    Calls Tryd.prog 16 #[.pointer (some ⟨d.B, 0, none⟩), .agg #[.int .u64 a.id.hi, .int .u64 a.id.lo, .int .u64 a.dp.hi, .int .u64 a.dp.lo, .int .u64 a.dq.hi, .int .u64 a.dq.lo, .int .u64 a.cp.hi, .int .u64 a.cp.lo, .int .u64 a.cq.hi, .int .u64 a.cq.lo, .int .i64 a.ledger, .int .i64 a.code, .int .i64 a.flags, .int .i64 a.stamp]] w (OpenPost w lab d r es big a) := by
  have HS := Lib.hid ((h.alloc (.cells #[.pointer (some ⟨d.B, 0, none⟩)] 35)).alloc (.cells #[.int .u64 a.id.hi, .int .u64 a.id.lo, .int .u64 a.dp.hi, .int .u64 a.dp.lo, .int .u64 a.dq.hi, .int .u64 a.dq.lo, .int .u64 a.cp.hi, .int .u64 a.cp.lo, .int .u64 a.cq.hi, .int .u64 a.cq.lo, .int .i64 a.ledger, .int .i64 a.code, .int .i64 a.flags, .int .i64 a.stamp] 26))
  obtain ⟨c1, -, c3, -, -, -, -, -⟩ := HS.out.cells
  have B0 := Lib.hid (blk_alloc (heap_alloc_new w (.cells #[.pointer (some ⟨d.B, 0, none⟩)] 35)) (.cells #[.int .u64 a.id.hi, .int .u64 a.id.lo, .int .u64 a.dp.hi, .int .u64 a.dp.lo, .int .u64 a.dq.hi, .int .u64 a.dq.lo, .int .u64 a.cp.hi, .int .u64 a.cp.lo, .int .u64 a.cq.hi, .int .u64 a.cq.lo, .int .i64 a.ledger, .int .i64 a.code, .int .i64 a.flags, .int .i64 a.stamp] 26))
  have B1 := Lib.hid (blk1 w (.cells #[.pointer (some ⟨d.B, 0, none⟩)] 35) (.cells #[.int .u64 a.id.hi, .int .u64 a.id.lo, .int .u64 a.dp.hi, .int .u64 a.dp.lo, .int .u64 a.dq.hi, .int .u64 a.dq.lo, .int .u64 a.cp.hi, .int .u64 a.cp.lo, .int .u64 a.cq.hi, .int .u64 a.cq.lo, .int .i64 a.ledger, .int .i64 a.code, .int .i64 a.flags, .int .i64 a.stamp] 26))
  have s0 := blk_cell B0.out 0 rfl
  have a0 := blk_cell B1.out 0 rfl
  have a1 := blk_cell B1.out 1 rfl
  have L0 := Lib.hid (h.free (Nat.le_refl _))
  have L1 := Lib.hid (h.free (Nat.le_succ w.heap.size))
  have HF := Lib.hid (((Fr.refl (fun _ => False) w).alloc (.cells #[.pointer (some ⟨d.B, 0, none⟩)] 35)).alloc (.cells #[.int .u64 a.id.hi, .int .u64 a.id.lo, .int .u64 a.dp.hi, .int .u64 a.dp.lo, .int .u64 a.dq.hi, .int .u64 a.dq.lo, .int .u64 a.cp.hi, .int .u64 a.cp.lo, .int .u64 a.cq.hi, .int .u64 a.cq.lo, .int .i64 a.ledger, .int .i64 a.code, .int .i64 a.flags, .int .i64 a.stamp] 26))
  have HZ := Lib.hid (show ((w.alloc (.cells #[.pointer (some ⟨d.B, 0, none⟩)] 35)).alloc (.cells #[.int .u64 a.id.hi, .int .u64 a.id.lo, .int .u64 a.dp.hi, .int .u64 a.dp.lo, .int .u64 a.dq.hi, .int .u64 a.dq.lo, .int .u64 a.cp.hi, .int .u64 a.cp.lo, .int .u64 a.cq.hi, .int .u64 a.cq.lo, .int .i64 a.ledger, .int .i64 a.code, .int .i64 a.flags, .int .i64 a.stamp] 26)).heap.size = w.heap.size + 2 from by simp)
  have HLen := Lib.hid (fun W l (h : Sta W l d r es big) => accLenS W l d r es big h)
  have HGet := Lib.hid (fun W l (h : Sta W l d r es big) => idGetS W l d r es big a.id h)
  have HStm := Lib.hid (And.intro h0 h1)
  have HLen0 := Lib.hid hlen
  obtain ⟨ln, hln⟩ : ∃ n : Nat, r.accs.length = n := ⟨_, rfl⟩
  have HLn := Lib.hid hln
  obtain ⟨gi, hgi⟩ : ∃ z : Int, (r.ids a.id).getD 0 = z := ⟨_, rfl⟩
  obtain ⟨gb, hgb⟩ : ∃ z : Bool, (r.ids a.id).isSome = z := ⟨_, rfl⟩
  have HGb := Lib.hid hgb
  rw [hln] at HLen
  rw [hgi, hgb] at HGet
  clear h h0 h1 hlen hln hgi hgb
  by_cases hfull : 32 ≤ ln
  · have hfull2 : (32 : Int) ≤ ln := by omega
    go_enter Tryd.func16, Tryd.ntmps16
    go_wp2_with fail
    refine (HLen.out _ _ HS.out).mono ?_
    rintro e w1 ⟨rfl, rfl⟩
    go_wp2_with fail
    go_ret
    exact ⟨6, lab, r, es, rfl, .full (by rw [HLn.out]; exact hfull), HS.out.more (by omega), .of (Nat.le_refl _) HF.out⟩
  have hfull2 : ¬ (32 : Int) ≤ ln := by omega
  go_enter Tryd.func16, Tryd.ntmps16
  go_wp2_with fail
  refine (HLen.out _ _ HS.out).mono ?_
  rintro e w1 ⟨rfl, rfl⟩
  go_upto_region 5 with fail
  go_cut [5, 6] from 17 (fun v5 v6 w' => v5 = .int .i64 gi ∧ v6 = .bool gb ∧ Fr (fun _ => False) ((w.alloc (.cells #[.pointer (some ⟨d.B, 0, none⟩)] 35)).alloc (.cells #[.int .u64 a.id.hi, .int .u64 a.id.lo, .int .u64 a.dp.hi, .int .u64 a.dp.lo, .int .u64 a.dq.hi, .int .u64 a.dq.lo, .int .u64 a.cp.hi, .int .u64 a.cp.lo, .int .u64 a.cq.hi, .int .u64 a.cq.lo, .int .i64 a.ledger, .int .i64 a.code, .int .i64 a.flags, .int .i64 a.stamp] 26)) w')
  case first =>
    go_region_held3 (fun w' => w'.cell? ⟨w.heap.size, 0, none⟩ = some (Value.pointer (some ⟨d.B, 0, none⟩)) ∧ w'.cell? ⟨d.B, 3, none⟩ = some (Value.pointer (some ⟨d.I, 0, none⟩)) ∧ w'.cell? ⟨w.heap.size + 1, 0, none⟩ = some (Value.int .u64 a.id.hi) ∧ w'.cell? ⟨w.heap.size + 1, 1, none⟩ = some (Value.int .u64 a.id.lo))
      (first | exact ⟨s0, c3, a0, a1⟩ | exact ⟨q0, q1, q2, q3⟩ | go_keep)
      (first | (go_at_call 55; go_must (with_reducible refine (HGet.out _ _ HS.out.drew).mono ?_); rintro e w2 ⟨rfl, f2⟩; have q0 := blk_cell (f2.blk (blk_drew B0.out) (fun h => h)) 0 rfl; have q1 := f2.cell (p := ⟨d.B, 3, none⟩) c3 (fun h => h); have q2 := blk_cell (f2.blk (blk_drew B1.out) (fun h => h)) 0 rfl; have q3 := blk_cell (f2.blk (blk_drew B1.out) (fun h => h)) 1 rfl; have F2 := Lib.hid f2; clear f2))
    go_wp2_with fail
    go_meet
    exact ⟨rfl, rfl, (Fr.refl _ _).drew.then_ F2.out (fun _ h => h.elim)⟩
  case rest =>
  obtain ⟨rfl, rfl, fc⟩ := hcut
  have HSc := Lib.hid (HS.out.fr fc (fun _ h => h.elim))
  have Bc0 := Lib.hid (fc.blk B0.out (fun h => h))
  have Bc1 := Lib.hid (fc.blk B1.out (fun h => h))
  have Fc := Lib.hid fc
  have s0c := blk_cell Bc0.out 0 rfl
  have HZc := Lib.hid (show w.heap.size + 2 ≤ wc.heap.size from by have := fc.size; have := HZ.out; omega)
  clear fc s0 c1 c3 a0 a1
  by_cases hgt : gb = true
  · subst hgt
    go_wp2_with fail
    go_ret
    exact ⟨1, lab, r, es, rfl, .there (by rw [HLn.out]; omega) HGb.out, HSc.out.more (by omega), .of (Nat.le_refl _) (HF.out.then_ Fc.out (fun _ h => h.elim))⟩
  have HNone := Lib.hid (show r.ids a.id = none from by have := HGb.out; cases hx : r.ids a.id with | none => rfl | some v => rw [hx] at this; exact absurd this.symm hgt)
  obtain rfl : gb = false := by simpa using hgt
  clear hgt
  have HNx := Lib.hid (nextS wc lab d r es big HSc.out (by omega) HStm.out.1 HStm.out.2)
  go_wp2_with fail
  refine HNx.out.mono ?_
  rintro e w2 ⟨rfl, lab2, b5, h2, p2⟩
  have l21 : lab2 (w.heap.size + 1) = 0 := by rw [p2.lx _ (by have := HZc.out; omega)]; exact L1.out
  have l20 : lab2 w.heap.size = 0 := by rw [p2.lx _ (by have := HZc.out; omega)]; exact L0.out
  have b20 := (p2.blk Bc0.out (.inl L0.out)).1
  have b21 := (p2.blk Bc1.out (.inl L1.out)).1
  have H3 := Lib.hid (h2.set l21 (.int .i64 (r.stamp + 1)) (j := 13))
  have P3 := Lib.hid ((((Stp.of (Nat.le_refl _) (HF.out.then_ Fc.out (fun _ h => h.elim))).then_ p2 (by have := HZc.out; omega) HSc.out.lt)).set (b := w.heap.size + 1) (j := 13) (Nat.le_succ _) (.int .i64 (r.stamp + 1)))
  have B30 := Lib.hid (blk_far2 (j := 13) b20 (Nat.ne_of_lt (Nat.lt_succ_self w.heap.size)) (.int .i64 (r.stamp + 1)))
  have B31 := Lib.hid (show (w2.setCell ⟨w.heap.size + 1, 13, none⟩ (.int .i64 (r.stamp + 1))).heap[w.heap.size + 1]? = some (.cells #[.int .u64 a.id.hi, .int .u64 a.id.lo, .int .u64 a.dp.hi, .int .u64 a.dp.lo, .int .u64 a.dq.hi, .int .u64 a.dq.lo, .int .u64 a.cp.hi, .int .u64 a.cp.lo, .int .u64 a.cq.hi, .int .u64 a.cq.lo, .int .i64 a.ledger, .int .i64 a.code, .int .i64 a.flags, .int .i64 (r.stamp + 1)] 26 (0, 0)) from by simpa using blk_set b21 13 (.int .i64 (r.stamp + 1)))
  have L20 := Lib.hid l20
  have L21 := Lib.hid l21
  have z13 := blk_free b21 13
  have a13 := blk_cell b21 13 rfl
  have s02 := blk_cell b20 0 rfl
  clear h2 p2 b20 b21 l20 l21 s0c
  go_upto_region 9 with fail
  go_cut [] from 31 (fun w' => ∃ lab', Sta w' lab' d { r with stamp := r.stamp + 1, ids := upd r.ids a.id (some (ln : Int)) } (.stDec b5 :: es) (big + 1 + 1) ∧ Stp w.heap.size w lab w' lab' ∧ w'.heap[w.heap.size]? = some (.cells #[.pointer (some ⟨d.B, 0, none⟩)] 35 (0, 0)) ∧ w'.heap[w.heap.size + 1]? = some (.cells #[.int .u64 a.id.hi, .int .u64 a.id.lo, .int .u64 a.dp.hi, .int .u64 a.dp.lo, .int .u64 a.dq.hi, .int .u64 a.dq.lo, .int .u64 a.cp.hi, .int .u64 a.cp.lo, .int .u64 a.cq.hi, .int .u64 a.cq.lo, .int .i64 a.ledger, .int .i64 a.code, .int .i64 a.flags, .int .i64 (r.stamp + 1)] 26 (0, 0)) ∧ lab' w.heap.size = 0 ∧ lab' (w.heap.size + 1) = 0)
  case first =>
    have HLen2 := Lib.hid (show Calls Tryd.prog 54 #[.pointer (some ⟨d.A, 0, none⟩)] (w2.setCell ⟨w.heap.size + 1, 13, none⟩ (.int .i64 (r.stamp + 1))).drew fun e w' => e = .returned (.int .i64 ln) ∧ w' = (w2.setCell ⟨w.heap.size + 1, 13, none⟩ (.int .i64 (r.stamp + 1))).drew from by have h := accLenS _ _ d _ _ _ H3.out.drew; rw [show ({ r with stamp := r.stamp + 1 } : Raw).accs.length = ln from HLn.out] at h; exact h)
    have HPut := Lib.hid (idPutS _ _ d _ _ _ a.id ln H3.out.drew (by omega))
    obtain ⟨k1, -, k3, -, -, -, -, -⟩ := H3.out.cells
    have k0 := blk_cell B30.out 0 rfl
    have ka := blk_cell B31.out 0 rfl
    have kb := blk_cell B31.out 1 rfl
    clear s02 a13 z13
    go_region_held3 (fun w' => w'.cell? ⟨w.heap.size, 0, none⟩ = some (Value.pointer (some ⟨d.B, 0, none⟩)) ∧ w'.cell? ⟨d.B, 1, none⟩ = some (Value.pointer (some ⟨d.A, 0, none⟩)) ∧ w'.cell? ⟨d.B, 3, none⟩ = some (Value.pointer (some ⟨d.I, 0, none⟩)) ∧ w'.cell? ⟨w.heap.size + 1, 0, none⟩ = some (Value.int .u64 a.id.hi) ∧ w'.cell? ⟨w.heap.size + 1, 1, none⟩ = some (Value.int .u64 a.id.lo))
      (first | exact ⟨k0, k1, k3, ka, kb⟩ | exact ⟨q0, q1, q3, qa, qb⟩ | go_keep)
      (first
        | (go_at_call 54; go_must (with_reducible refine HLen2.out.mono ?_); rintro e w3 ⟨rfl, rfl⟩)
        | (go_at_call 57; go_must (with_reducible refine HPut.out.mono ?_); rintro e w4 ⟨rfl, lab4, h4, p4⟩; have b40 := p4.blk (blk_drew B30.out) (.inl L20.out); have b41 := p4.blk (blk_drew B31.out) (.inl L21.out); have q0 := blk_cell b40.1 0 rfl; have qa := blk_cell b41.1 0 rfl; have qb := blk_cell b41.1 1 rfl; obtain ⟨q1, -, q3, -, -, -, -, -⟩ := h4.cells; have H4 := Lib.hid h4; have P4 := Lib.hid p4; have B40 := Lib.hid b40.1; have B41 := Lib.hid b41.1; clear h4 p4 b40 b41))
    go_wp2_with fail
    go_meet
    have hz : w.heap.size + 2 ≤ (w2.setCell ⟨w.heap.size + 1, 13, none⟩ (.int .i64 (r.stamp + 1))).drew.heap.size := blk_lt B31.out
    exact ⟨lab4, H4.out, (P3.out.fr_ (Fr.refl _ _).drew).then_ P4.out (by omega) H3.out.lt, B40.out, B41.out, by rw [P4.out.lx _ (by omega)]; exact L20.out, by rw [P4.out.lx _ (by omega)]; exact L21.out⟩
  case rest =>
  obtain ⟨lab4, h4, p4, b40, b41, l40, l41⟩ := hcut
  have H4 := Lib.hid h4
  have P4 := Lib.hid p4
  have HSz := Lib.hid (show w.heap.size ≤ wc.heap.size from p4.fr.size)
  have HK := Lib.hid (show Calls Tryd.prog 58 #[.pointer (some ⟨d.B, 0, none⟩), .func (.func 59) #[] #[.pointer (some ⟨w.heap.size, 0, none⟩), .pointer (some ⟨w.heap.size + 1, 0, none⟩)]] wc (KeepPost w.heap.size wc lab4 d { r with stamp := r.stamp + 1, ids := upd r.ids a.id (some (ln : Int)) } (.stDec b5 :: es) (big + 1 + 1) (.idDrop w.heap.size (w.heap.size + 1) { a with stamp := r.stamp + 1 })) from keepS _ _ d _ _ _ _ (.idDrop w.heap.size (w.heap.size + 1) { a with stamp := r.stamp + 1 }) h4 ⟨b40, b41⟩ (fun k hk => by
    rcases hk with rfl | rfl
    · exact ⟨Nat.le_refl _, blk_lt b40, .inl l40⟩
    · exact ⟨Nat.le_succ _, blk_lt b41, .inl l41⟩) p4.fr.size (by omega))
  have B40 := Lib.hid b40
  have B41 := Lib.hid b41
  have L40 := Lib.hid l40
  have L41 := Lib.hid l41
  have s04 := blk_cell b40 0 rfl
  clear h4 p4 b40 b41 l40 l41
  go_wp2_with fail
  refine HK.out.mono ?_
  rintro e w5 ⟨rfl, lab5, h5, p5⟩
  have b50 := p5.blk B40.out (.inl L40.out)
  have b51 := p5.blk B41.out (.inl L41.out)
  obtain ⟨k1, -, -, -, -, -, -, -⟩ := h5.cells
  have k0 := blk_cell b50.1 0 rfl
  have ka0 := blk_cell b51.1 0 rfl
  have ka1 := blk_cell b51.1 1 rfl
  have ka2 := blk_cell b51.1 2 rfl
  have ka3 := blk_cell b51.1 3 rfl
  have ka4 := blk_cell b51.1 4 rfl
  have ka5 := blk_cell b51.1 5 rfl
  have ka6 := blk_cell b51.1 6 rfl
  have ka7 := blk_cell b51.1 7 rfl
  have ka8 := blk_cell b51.1 8 rfl
  have ka9 := blk_cell b51.1 9 rfl
  have ka10 := blk_cell b51.1 10 rfl
  have ka11 := blk_cell b51.1 11 rfl
  have ka12 := blk_cell b51.1 12 rfl
  have ka13 := blk_cell b51.1 13 rfl
  have H5 := Lib.hid h5
  have B60 := Lib.hid b50.1
  have B61 := Lib.hid b51.1
  have L60 := Lib.hid b50.2
  have L61 := Lib.hid b51.2
  have P5 := Lib.hid (P4.out.then_ p5 (Nat.le_refl _) H4.out.lt)
  have HAdd := Lib.hid (show Calls Tryd.prog 61 #[.pointer (some ⟨d.A, 0, none⟩), .agg #[.int .u64 a.id.hi, .int .u64 a.id.lo, .int .u64 a.dp.hi, .int .u64 a.dp.lo, .int .u64 a.dq.hi, .int .u64 a.dq.lo, .int .u64 a.cp.hi, .int .u64 a.cp.lo, .int .u64 a.cq.hi, .int .u64 a.cq.lo, .int .i64 a.ledger, .int .i64 a.code, .int .i64 a.flags, .int .i64 (r.stamp + 1)]] w5.drew _ from accAddS _ _ d _ _ _ { a with stamp := r.stamp + 1 } h5.drew (by show r.accs.length ≤ _; have := HLen0.out; omega) (by omega))
  clear h5 p5 b50 b51 s04
  go_upto_region 11 with fail
  go_region_held3 (fun w' => w'.cell? ⟨w.heap.size, 0, none⟩ = some (Value.pointer (some ⟨d.B, 0, none⟩)) ∧ w'.cell? ⟨d.B, 1, none⟩ = some (Value.pointer (some ⟨d.A, 0, none⟩)) ∧ w'.cell? ⟨w.heap.size + 1, 0, none⟩ = some (Value.int .u64 a.id.hi) ∧ w'.cell? ⟨w.heap.size + 1, 1, none⟩ = some (Value.int .u64 a.id.lo) ∧ w'.cell? ⟨w.heap.size + 1, 2, none⟩ = some (Value.int .u64 a.dp.hi) ∧ w'.cell? ⟨w.heap.size + 1, 3, none⟩ = some (Value.int .u64 a.dp.lo) ∧ w'.cell? ⟨w.heap.size + 1, 4, none⟩ = some (Value.int .u64 a.dq.hi) ∧ w'.cell? ⟨w.heap.size + 1, 5, none⟩ = some (Value.int .u64 a.dq.lo) ∧ w'.cell? ⟨w.heap.size + 1, 6, none⟩ = some (Value.int .u64 a.cp.hi) ∧ w'.cell? ⟨w.heap.size + 1, 7, none⟩ = some (Value.int .u64 a.cp.lo) ∧ w'.cell? ⟨w.heap.size + 1, 8, none⟩ = some (Value.int .u64 a.cq.hi) ∧ w'.cell? ⟨w.heap.size + 1, 9, none⟩ = some (Value.int .u64 a.cq.lo) ∧ w'.cell? ⟨w.heap.size + 1, 10, none⟩ = some (Value.int .i64 a.ledger) ∧ w'.cell? ⟨w.heap.size + 1, 11, none⟩ = some (Value.int .i64 a.code) ∧ w'.cell? ⟨w.heap.size + 1, 12, none⟩ = some (Value.int .i64 a.flags) ∧ w'.cell? ⟨w.heap.size + 1, 13, none⟩ = some (Value.int .i64 (r.stamp + 1)))
    (first | exact ⟨k0, k1, ka0, ka1, ka2, ka3, ka4, ka5, ka6, ka7, ka8, ka9, ka10, ka11, ka12, ka13⟩ | exact ⟨q0, q1, qa0, qa1, qa2, qa3, qa4, qa5, qa6, qa7, qa8, qa9, qa10, qa11, qa12, qa13⟩ | go_keep)
    (first | (go_at_call 61; go_must (with_reducible refine HAdd.out.mono ?_); rintro e w6 ⟨rfl, lab6, h6, p6⟩; have b60 := (p6.blk (blk_drew B60.out) L60.out).1; have b61 := (p6.blk (blk_drew B61.out) L61.out).1; have q0 := blk_cell b60 0 rfl; have qa0 := blk_cell b61 0 rfl; have qa1 := blk_cell b61 1 rfl; have qa2 := blk_cell b61 2 rfl; have qa3 := blk_cell b61 3 rfl; have qa4 := blk_cell b61 4 rfl; have qa5 := blk_cell b61 5 rfl; have qa6 := blk_cell b61 6 rfl; have qa7 := blk_cell b61 7 rfl; have qa8 := blk_cell b61 8 rfl; have qa9 := blk_cell b61 9 rfl; have qa10 := blk_cell b61 10 rfl; have qa11 := blk_cell b61 11 rfl; have qa12 := blk_cell b61 12 rfl; have qa13 := blk_cell b61 13 rfl; obtain ⟨q1, -, -, -, -, -, -, -⟩ := h6.cells; have H6 := Lib.hid h6; have P6 := Lib.hid p6; clear h6 p6 b60 b61))
  go_wp2_with fail
  go_ret
  have hln := HLn.out
  subst hln
  exact ⟨0, lab6, _, _, rfl, .done (by omega) HNone.out _ _ _ _ _, H6.out, (P5.out.fr_ (Fr.refl _ _).drew).then_ P6.out P5.out.fr.size H5.out.lt⟩
end Go.Proofs.YtjchjpmgbmeohaaDoor

/- Books: the lists' At. -/
set_option linter.unusedSimpArgs false
set_option linter.unusedVariables false
namespace Go.Proofs.YtjchjpmgbmeohaaDoor
open Go.RowKit

/-- What stands at a place, if there is one. -/
def atZ {α : Type} (xs : List α) (i : Int) : Option α := if i < 0 then none else xs[i.toNat]?
theorem kepLen (w : World) (S : Nat → Prop) (L B : Nat) (xs : List Kp) (h : KepL w S L B xs) :
    Calls Tryd.prog 62 #[.pointer (some ⟨L, 0, none⟩)] w fun e w' => e = .returned (.int .i64 xs.length) ∧ w' = w := by
  obtain ⟨v, hb, ho, -, -, -⟩ := h
  obtain ⟨a, cap, rfl, -, -⟩ := own_form ho
  have c0 := blk_cell hb 0 rfl
  clear hb ho
  go_enter Tryd.func62, Tryd.ntmps62
  go_wp2
  go_ret
  exact ⟨rfl, rfl⟩
theorem rw_range {α : Type} {f : α → List Value} {sz : Nat} (hf : ∀ x, (f x).length = sz) {w : World} {g n cap : Nat} {et : TypeId} {xs : List α} (h : w.ownsRow 0 et sz (.slice (some ⟨g, 0, none⟩) n cap) n (xs.flatMap f)) (hn : xs.length = n) {k : Nat} (hk : k < xs.length) : w.rangeAt g (k * sz) (f xs[k]) := fun j v hv => by
  have hj : j < sz := by have := (List.getElem?_eq_some_iff.1 hv).1; rwa [hf] at this
  have hlt : k * sz + j < n * sz := by
    have : (k + 1) * sz ≤ n * sz := Nat.mul_le_mul_right _ (by omega)
    rw [Nat.succ_mul] at this
    omega
  rw [h.cellAt (k * sz + j) hlt, flat_get hf xs k hk j hj, hv]
def Acc.zero : Acc := ⟨⟨0, 0⟩, ⟨0, 0⟩, ⟨0, 0⟩, ⟨0, 0⟩, ⟨0, 0⟩, 0, 0, 0, 0⟩
set_option maxRecDepth 4000 in
set_option maxHeartbeats 3200000 in
theorem accAt (w : World) (S : Nat → Prop) (L B : Nat) (xs : List Acc) (i : Int) (h : AccL w S L B xs) (hn : xs.length ≤ 1000000) :
    Calls Tryd.prog 83 #[.pointer (some ⟨L, 0, none⟩), .int .i64 i] w fun e w' => e = .returned (.tuple #[.agg ((atZ xs i).getD Acc.zero).cells.toArray, .bool (atZ xs i).isSome]) ∧ Fr (fun _ => False) w w' := by
  have HL := Lib.hid (show ∀ W, AccL W S L B xs → Calls Tryd.prog 54 #[.pointer (some ⟨L, 0, none⟩)] W fun e w' => e = .returned (.int .i64 xs.length) ∧ w' = W from fun W h => accLen W S L B xs h)
  have H := Lib.hid h
  have HF := Lib.hid (((Fr.refl (fun _ => False) w).alloc (.cells #[.int .u64 0, .int .u64 0, .int .u64 0, .int .u64 0, .int .u64 0, .int .u64 0, .int .u64 0, .int .u64 0, .int .u64 0, .int .u64 0, .int .i64 0, .int .i64 0, .int .i64 0, .int .i64 0] 26)).alloc (.cells #[.int .u64 0, .int .u64 0, .int .u64 0, .int .u64 0, .int .u64 0, .int .u64 0, .int .u64 0, .int .u64 0, .int .u64 0, .int .u64 0, .int .i64 0, .int .i64 0, .int .i64 0, .int .i64 0] 26))
  have HB0 := Lib.hid (blk_alloc (heap_alloc_new w (.cells #[.int .u64 0, .int .u64 0, .int .u64 0, .int .u64 0, .int .u64 0, .int .u64 0, .int .u64 0, .int .u64 0, .int .u64 0, .int .u64 0, .int .i64 0, .int .i64 0, .int .i64 0, .int .i64 0] 26)) (.cells #[.int .u64 0, .int .u64 0, .int .u64 0, .int .u64 0, .int .u64 0, .int .u64 0, .int .u64 0, .int .u64 0, .int .u64 0, .int .u64 0, .int .i64 0, .int .i64 0, .int .i64 0, .int .i64 0] 26))
  have HB1 := Lib.hid (blk1 w (.cells #[.int .u64 0, .int .u64 0, .int .u64 0, .int .u64 0, .int .u64 0, .int .u64 0, .int .u64 0, .int .u64 0, .int .u64 0, .int .u64 0, .int .i64 0, .int .i64 0, .int .i64 0, .int .i64 0] 26) (.cells #[.int .u64 0, .int .u64 0, .int .u64 0, .int .u64 0, .int .u64 0, .int .u64 0, .int .u64 0, .int .u64 0, .int .u64 0, .int .u64 0, .int .i64 0, .int .i64 0, .int .i64 0, .int .i64 0] 26))
  obtain ⟨v, hb, ho, -, -, -⟩ := h
  by_cases h0 : i < 0
  · have hv := Lib.hid (show atZ xs i = none from by rw [atZ, if_pos h0])
    clear hb ho
    go_enter Tryd.func83, Tryd.ntmps83
    (go_wp2_with (first | ((with_reducible refine wpList_load_row_w ?lw 26 _ rfl (w.heap.size + 1) rfl 26 _ _ _ HB1.out Tryd.underlying26 rfl rfl ?_); (case lw => rfl)) | ((refine wpList_store_row rfl 26 (.tmp 4) (.tmp 15) rfl w.heap.size #[.int .u64 0, .int .u64 0, .int .u64 0, .int .u64 0, .int .u64 0, .int .u64 0, .int .u64 0, .int .u64 0, .int .u64 0, .int .u64 0, .int .i64 0, .int .i64 0, .int .i64 0, .int .i64 0] rfl rfl HB0.out rfl rfl (by simp [Acc.cells, Acc.zero, Value.oneCell']) ?_); intro w9 hb9 f9; have HB9 := Lib.hid hb9; have F9 := Lib.hid f9; clear hb9 f9) | fail))
    refine bodyPost_ret (results_cell2 (p := 4) (q := 5) rfl _ _ w.heap.size 26 _ (0, 0) _ rfl HB9.out Tryd.underlying26 rfl rfl) rfl ?_
    exact ⟨by rw [hv.out]; rfl, HF.out.then_ F9.out (fun k hk => .inr (by omega))⟩
  obtain ⟨k, rfl⟩ : ∃ k : Nat, i = k := ⟨i.toNat, by omega⟩
  by_cases h1 : k < xs.length
  · have hv := Lib.hid (show atZ xs (k : Int) = some xs[k] from by rw [atZ, if_neg h0, Int.toNat_natCast, List.getElem?_eq_getElem h1])
    obtain ⟨g, cap, rfl⟩ := own_some ho (by omega)
    have h2 : ¬ (xs.length : Int) ≤ k := by omega
    have c0 := blk_cell (blk_alloc (blk_alloc hb (.cells #[.int .u64 0, .int .u64 0, .int .u64 0, .int .u64 0, .int .u64 0, .int .u64 0, .int .u64 0, .int .u64 0, .int .u64 0, .int .u64 0, .int .i64 0, .int .i64 0, .int .i64 0, .int .i64 0] 26)) (.cells #[.int .u64 0, .int .u64 0, .int .u64 0, .int .u64 0, .int .u64 0, .int .u64 0, .int .u64 0, .int .u64 0, .int .u64 0, .int .u64 0, .int .i64 0, .int .i64 0, .int .i64 0, .int .i64 0] 26)) 0 rfl
    have HR := Lib.hid (World.rangeAt_alloc (World.rangeAt_alloc (rw_range (f := Acc.cells) (sz := 14) (fun _ => rfl) ho rfl h1) (.cells #[.int .u64 0, .int .u64 0, .int .u64 0, .int .u64 0, .int .u64 0, .int .u64 0, .int .u64 0, .int .u64 0, .int .u64 0, .int .u64 0, .int .i64 0, .int .i64 0, .int .i64 0, .int .i64 0] 26)) (.cells #[.int .u64 0, .int .u64 0, .int .u64 0, .int .u64 0, .int .u64 0, .int .u64 0, .int .u64 0, .int .u64 0, .int .u64 0, .int .u64 0, .int .i64 0, .int .i64 0, .int .i64 0, .int .i64 0] 26))
    clear hb ho
    go_enter Tryd.func83, Tryd.ntmps83
    (go_wp2_with (first | (go_at_call 54; refine (HL.out _ (H.out.fr HF.out (fun _ _ h => h))).mono ?_; rintro e w2 ⟨rfl, rfl⟩) | ((refine wpList_load_mid rfl 26 (.tmp 21) rfl g (k * 14) rfl _ _ HR.out Tryd.underlying26 rfl rfl ?_)) | ((refine wpList_store_row rfl 26 (.tmp 4) (.tmp 22) rfl w.heap.size xs[k].cells.toArray rfl rfl HB0.out rfl rfl (by simp [Acc.cells, Acc.zero, Value.oneCell']) ?_); intro w9 hb9 f9; have HB9 := Lib.hid hb9; have F9 := Lib.hid f9; clear hb9 f9) | fail))
    refine bodyPost_ret (results_cell2 (p := 4) (q := 5) rfl _ _ w.heap.size 26 _ (0, 0) _ rfl HB9.out Tryd.underlying26 rfl rfl) rfl ?_
    exact ⟨by rw [hv.out]; rfl, HF.out.then_ F9.out (fun k hk => .inr (by omega))⟩
  · have hv := Lib.hid (show atZ xs (k : Int) = none from by rw [atZ, if_neg h0, Int.toNat_natCast, List.getElem?_eq_none_iff]; omega)
    have h2 : (xs.length : Int) ≤ k := by omega
    clear hb ho
    go_enter Tryd.func83, Tryd.ntmps83
    (go_wp2_with (first | ((with_reducible refine wpList_load_row_w ?lw 26 _ rfl (w.heap.size + 1) rfl 26 _ _ _ HB1.out Tryd.underlying26 rfl rfl ?_); (case lw => rfl)) | ((refine wpList_store_row rfl 26 (.tmp 4) (.tmp 15) rfl w.heap.size #[.int .u64 0, .int .u64 0, .int .u64 0, .int .u64 0, .int .u64 0, .int .u64 0, .int .u64 0, .int .u64 0, .int .u64 0, .int .u64 0, .int .i64 0, .int .i64 0, .int .i64 0, .int .i64 0] rfl rfl HB0.out rfl rfl (by simp [Acc.cells, Acc.zero, Value.oneCell']) ?_); intro w9 hb9 f9; have HB9 := Lib.hid hb9; have F9 := Lib.hid f9; clear hb9 f9) | (go_at_call 54; refine (HL.out _ (H.out.fr HF.out (fun _ _ h => h))).mono ?_; rintro e w2 ⟨rfl, rfl⟩) | fail))
    refine bodyPost_ret (results_cell2 (p := 4) (q := 5) rfl _ _ w.heap.size 26 _ (0, 0) _ rfl HB9.out Tryd.underlying26 rfl rfl) rfl ?_
    exact ⟨by rw [hv.out]; rfl, HF.out.then_ F9.out (fun k hk => .inr (by omega))⟩
def Kp.zero : Kp := ⟨⟨⟨0, 0⟩, ⟨0, 0⟩, ⟨0, 0⟩, ⟨0, 0⟩, ⟨0, 0⟩, 0, 0, 0, 0, 0, 0⟩, ⟨⟨0, 0⟩, ⟨0, 0⟩, ⟨0, 0⟩, ⟨0, 0⟩, ⟨0, 0⟩, 0, 0, 0, 0, 0, 0⟩, 0⟩
set_option maxRecDepth 4000 in
set_option maxHeartbeats 3200000 in
theorem kepAt (w : World) (S : Nat → Prop) (L B : Nat) (xs : List Kp) (i : Int) (h : KepL w S L B xs) (hn : xs.length ≤ 1000000) :
    Calls Tryd.prog 79 #[.pointer (some ⟨L, 0, none⟩), .int .i64 i] w fun e w' => e = .returned (.tuple #[.agg ((atZ xs i).getD Kp.zero).cells.toArray, .bool (atZ xs i).isSome]) ∧ Fr (fun _ => False) w w' := by
  have HL := Lib.hid (show ∀ W, KepL W S L B xs → Calls Tryd.prog 62 #[.pointer (some ⟨L, 0, none⟩)] W fun e w' => e = .returned (.int .i64 xs.length) ∧ w' = W from fun W h => kepLen W S L B xs h)
  have H := Lib.hid h
  have HF := Lib.hid (((Fr.refl (fun _ => False) w).alloc (.cells #[.int .u64 0, .int .u64 0, .int .u64 0, .int .u64 0, .int .u64 0, .int .u64 0, .int .u64 0, .int .u64 0, .int .u64 0, .int .u64 0, .int .i64 0, .int .i64 0, .int .i64 0, .int .i64 0, .int .i64 0, .int .i64 0, .int .u64 0, .int .u64 0, .int .u64 0, .int .u64 0, .int .u64 0, .int .u64 0, .int .u64 0, .int .u64 0, .int .u64 0, .int .u64 0, .int .i64 0, .int .i64 0, .int .i64 0, .int .i64 0, .int .i64 0, .int .i64 0, .int .i64 0] 63)).alloc (.cells #[.int .u64 0, .int .u64 0, .int .u64 0, .int .u64 0, .int .u64 0, .int .u64 0, .int .u64 0, .int .u64 0, .int .u64 0, .int .u64 0, .int .i64 0, .int .i64 0, .int .i64 0, .int .i64 0, .int .i64 0, .int .i64 0, .int .u64 0, .int .u64 0, .int .u64 0, .int .u64 0, .int .u64 0, .int .u64 0, .int .u64 0, .int .u64 0, .int .u64 0, .int .u64 0, .int .i64 0, .int .i64 0, .int .i64 0, .int .i64 0, .int .i64 0, .int .i64 0, .int .i64 0] 63))
  have HB0 := Lib.hid (blk_alloc (heap_alloc_new w (.cells #[.int .u64 0, .int .u64 0, .int .u64 0, .int .u64 0, .int .u64 0, .int .u64 0, .int .u64 0, .int .u64 0, .int .u64 0, .int .u64 0, .int .i64 0, .int .i64 0, .int .i64 0, .int .i64 0, .int .i64 0, .int .i64 0, .int .u64 0, .int .u64 0, .int .u64 0, .int .u64 0, .int .u64 0, .int .u64 0, .int .u64 0, .int .u64 0, .int .u64 0, .int .u64 0, .int .i64 0, .int .i64 0, .int .i64 0, .int .i64 0, .int .i64 0, .int .i64 0, .int .i64 0] 63)) (.cells #[.int .u64 0, .int .u64 0, .int .u64 0, .int .u64 0, .int .u64 0, .int .u64 0, .int .u64 0, .int .u64 0, .int .u64 0, .int .u64 0, .int .i64 0, .int .i64 0, .int .i64 0, .int .i64 0, .int .i64 0, .int .i64 0, .int .u64 0, .int .u64 0, .int .u64 0, .int .u64 0, .int .u64 0, .int .u64 0, .int .u64 0, .int .u64 0, .int .u64 0, .int .u64 0, .int .i64 0, .int .i64 0, .int .i64 0, .int .i64 0, .int .i64 0, .int .i64 0, .int .i64 0] 63))
  have HB1 := Lib.hid (blk1 w (.cells #[.int .u64 0, .int .u64 0, .int .u64 0, .int .u64 0, .int .u64 0, .int .u64 0, .int .u64 0, .int .u64 0, .int .u64 0, .int .u64 0, .int .i64 0, .int .i64 0, .int .i64 0, .int .i64 0, .int .i64 0, .int .i64 0, .int .u64 0, .int .u64 0, .int .u64 0, .int .u64 0, .int .u64 0, .int .u64 0, .int .u64 0, .int .u64 0, .int .u64 0, .int .u64 0, .int .i64 0, .int .i64 0, .int .i64 0, .int .i64 0, .int .i64 0, .int .i64 0, .int .i64 0] 63) (.cells #[.int .u64 0, .int .u64 0, .int .u64 0, .int .u64 0, .int .u64 0, .int .u64 0, .int .u64 0, .int .u64 0, .int .u64 0, .int .u64 0, .int .i64 0, .int .i64 0, .int .i64 0, .int .i64 0, .int .i64 0, .int .i64 0, .int .u64 0, .int .u64 0, .int .u64 0, .int .u64 0, .int .u64 0, .int .u64 0, .int .u64 0, .int .u64 0, .int .u64 0, .int .u64 0, .int .i64 0, .int .i64 0, .int .i64 0, .int .i64 0, .int .i64 0, .int .i64 0, .int .i64 0] 63))
  obtain ⟨v, hb, ho, -, -, -⟩ := h
  by_cases h0 : i < 0
  · have hv := Lib.hid (show atZ xs i = none from by rw [atZ, if_pos h0])
    clear hb ho
    go_enter Tryd.func79, Tryd.ntmps79
    (go_wp2_with (first | ((with_reducible refine wpList_load_row_w ?lw 63 _ rfl (w.heap.size + 1) rfl 63 _ _ _ HB1.out Tryd.underlying63 rfl rfl ?_); (case lw => rfl)) | ((refine wpList_store_row rfl 63 (.tmp 4) (.tmp 15) rfl w.heap.size #[.int .u64 0, .int .u64 0, .int .u64 0, .int .u64 0, .int .u64 0, .int .u64 0, .int .u64 0, .int .u64 0, .int .u64 0, .int .u64 0, .int .i64 0, .int .i64 0, .int .i64 0, .int .i64 0, .int .i64 0, .int .i64 0, .int .u64 0, .int .u64 0, .int .u64 0, .int .u64 0, .int .u64 0, .int .u64 0, .int .u64 0, .int .u64 0, .int .u64 0, .int .u64 0, .int .i64 0, .int .i64 0, .int .i64 0, .int .i64 0, .int .i64 0, .int .i64 0, .int .i64 0] rfl rfl HB0.out rfl rfl (by simp [Kp.cells, Tx.cells, Kp.zero, Value.oneCell']) ?_); intro w9 hb9 f9; have HB9 := Lib.hid hb9; have F9 := Lib.hid f9; clear hb9 f9) | fail))
    refine bodyPost_ret (results_cell2 (p := 4) (q := 5) rfl _ _ w.heap.size 63 _ (0, 0) _ rfl HB9.out Tryd.underlying63 rfl rfl) rfl ?_
    exact ⟨by rw [hv.out]; rfl, HF.out.then_ F9.out (fun k hk => .inr (by omega))⟩
  obtain ⟨k, rfl⟩ : ∃ k : Nat, i = k := ⟨i.toNat, by omega⟩
  by_cases h1 : k < xs.length
  · have hv := Lib.hid (show atZ xs (k : Int) = some xs[k] from by rw [atZ, if_neg h0, Int.toNat_natCast, List.getElem?_eq_getElem h1])
    obtain ⟨g, cap, rfl⟩ := own_some ho (by omega)
    have h2 : ¬ (xs.length : Int) ≤ k := by omega
    have c0 := blk_cell (blk_alloc (blk_alloc hb (.cells #[.int .u64 0, .int .u64 0, .int .u64 0, .int .u64 0, .int .u64 0, .int .u64 0, .int .u64 0, .int .u64 0, .int .u64 0, .int .u64 0, .int .i64 0, .int .i64 0, .int .i64 0, .int .i64 0, .int .i64 0, .int .i64 0, .int .u64 0, .int .u64 0, .int .u64 0, .int .u64 0, .int .u64 0, .int .u64 0, .int .u64 0, .int .u64 0, .int .u64 0, .int .u64 0, .int .i64 0, .int .i64 0, .int .i64 0, .int .i64 0, .int .i64 0, .int .i64 0, .int .i64 0] 63)) (.cells #[.int .u64 0, .int .u64 0, .int .u64 0, .int .u64 0, .int .u64 0, .int .u64 0, .int .u64 0, .int .u64 0, .int .u64 0, .int .u64 0, .int .i64 0, .int .i64 0, .int .i64 0, .int .i64 0, .int .i64 0, .int .i64 0, .int .u64 0, .int .u64 0, .int .u64 0, .int .u64 0, .int .u64 0, .int .u64 0, .int .u64 0, .int .u64 0, .int .u64 0, .int .u64 0, .int .i64 0, .int .i64 0, .int .i64 0, .int .i64 0, .int .i64 0, .int .i64 0, .int .i64 0] 63)) 0 rfl
    have HR := Lib.hid (World.rangeAt_alloc (World.rangeAt_alloc (rw_range (f := Kp.cells) (sz := 33) (fun _ => rfl) ho rfl h1) (.cells #[.int .u64 0, .int .u64 0, .int .u64 0, .int .u64 0, .int .u64 0, .int .u64 0, .int .u64 0, .int .u64 0, .int .u64 0, .int .u64 0, .int .i64 0, .int .i64 0, .int .i64 0, .int .i64 0, .int .i64 0, .int .i64 0, .int .u64 0, .int .u64 0, .int .u64 0, .int .u64 0, .int .u64 0, .int .u64 0, .int .u64 0, .int .u64 0, .int .u64 0, .int .u64 0, .int .i64 0, .int .i64 0, .int .i64 0, .int .i64 0, .int .i64 0, .int .i64 0, .int .i64 0] 63)) (.cells #[.int .u64 0, .int .u64 0, .int .u64 0, .int .u64 0, .int .u64 0, .int .u64 0, .int .u64 0, .int .u64 0, .int .u64 0, .int .u64 0, .int .i64 0, .int .i64 0, .int .i64 0, .int .i64 0, .int .i64 0, .int .i64 0, .int .u64 0, .int .u64 0, .int .u64 0, .int .u64 0, .int .u64 0, .int .u64 0, .int .u64 0, .int .u64 0, .int .u64 0, .int .u64 0, .int .i64 0, .int .i64 0, .int .i64 0, .int .i64 0, .int .i64 0, .int .i64 0, .int .i64 0] 63))
    clear hb ho
    go_enter Tryd.func79, Tryd.ntmps79
    (go_wp2_with (first | (go_at_call 62; refine (HL.out _ (H.out.fr HF.out (fun _ _ h => h))).mono ?_; rintro e w2 ⟨rfl, rfl⟩) | ((refine wpList_load_mid rfl 63 (.tmp 21) rfl g (k * 33) rfl _ _ HR.out Tryd.underlying63 rfl rfl ?_)) | ((refine wpList_store_row rfl 63 (.tmp 4) (.tmp 22) rfl w.heap.size xs[k].cells.toArray rfl rfl HB0.out rfl rfl (by simp [Kp.cells, Tx.cells, Kp.zero, Value.oneCell']) ?_); intro w9 hb9 f9; have HB9 := Lib.hid hb9; have F9 := Lib.hid f9; clear hb9 f9) | fail))
    refine bodyPost_ret (results_cell2 (p := 4) (q := 5) rfl _ _ w.heap.size 63 _ (0, 0) _ rfl HB9.out Tryd.underlying63 rfl rfl) rfl ?_
    exact ⟨by rw [hv.out]; rfl, HF.out.then_ F9.out (fun k hk => .inr (by omega))⟩
  · have hv := Lib.hid (show atZ xs (k : Int) = none from by rw [atZ, if_neg h0, Int.toNat_natCast, List.getElem?_eq_none_iff]; omega)
    have h2 : (xs.length : Int) ≤ k := by omega
    clear hb ho
    go_enter Tryd.func79, Tryd.ntmps79
    (go_wp2_with (first | ((with_reducible refine wpList_load_row_w ?lw 63 _ rfl (w.heap.size + 1) rfl 63 _ _ _ HB1.out Tryd.underlying63 rfl rfl ?_); (case lw => rfl)) | ((refine wpList_store_row rfl 63 (.tmp 4) (.tmp 15) rfl w.heap.size #[.int .u64 0, .int .u64 0, .int .u64 0, .int .u64 0, .int .u64 0, .int .u64 0, .int .u64 0, .int .u64 0, .int .u64 0, .int .u64 0, .int .i64 0, .int .i64 0, .int .i64 0, .int .i64 0, .int .i64 0, .int .i64 0, .int .u64 0, .int .u64 0, .int .u64 0, .int .u64 0, .int .u64 0, .int .u64 0, .int .u64 0, .int .u64 0, .int .u64 0, .int .u64 0, .int .i64 0, .int .i64 0, .int .i64 0, .int .i64 0, .int .i64 0, .int .i64 0, .int .i64 0] rfl rfl HB0.out rfl rfl (by simp [Kp.cells, Tx.cells, Kp.zero, Value.oneCell']) ?_); intro w9 hb9 f9; have HB9 := Lib.hid hb9; have F9 := Lib.hid f9; clear hb9 f9) | (go_at_call 62; refine (HL.out _ (H.out.fr HF.out (fun _ _ h => h))).mono ?_; rintro e w2 ⟨rfl, rfl⟩) | fail))
    refine bodyPost_ret (results_cell2 (p := 4) (q := 5) rfl _ _ w.heap.size 63 _ (0, 0) _ rfl HB9.out Tryd.underlying63 rfl rfl) rfl ?_
    exact ⟨by rw [hv.out]; rfl, HF.out.then_ F9.out (fun k hk => .inr (by omega))⟩
end Go.Proofs.YtjchjpmgbmeohaaDoor

/- Books: the transfers' names; Account, Kept. -/
set_option linter.unusedSimpArgs false
set_option linter.unusedVariables false
namespace Go.Proofs.YtjchjpmgbmeohaaDoor
open Go.RowKit

section
variable {w w' : World} {lab : Nat → Nat} {d : Dd} {r : Raw} {es : List Ent} {big c : Nat}
theorem Sta.renms (h : Sta w lab d r es big) {f : Nm → Option Int} {big' : Nat} (hf : Fr (fun k => lab k = 5) w w') (ht : TabS w' (Gro (fun k => lab k = 5) w w') d.N f big') (hb : big ≤ big') : Sta w' (ext lab w.heap.size w'.heap.size 5) d { r with nms := f } es big' := by
  have hr := ext_rel (c := 5) h hf.size
  have hn : ∀ c, c ≠ 5 → ∀ k, lab k = 5 → lab k ≠ c := fun c hc k hk e => hc (by rw [← e, hk])
  obtain ⟨lv, sv, qv, ps, hp, b⟩ := h.bb
  obtain ⟨cs, t1, t2⟩ := ht
  exact ⟨⟨lv, sv, qv, ps, hp, (b.rel h.labB hf (fun k hk => ⟨hn 1 (by decide) k hk, hn 6 (by decide) k hk, hn 7 (by decide) k hk, hn 8 (by decide) k hk⟩) hr (r' := { r with nms := f }) rfl rfl rfl rfl).more hb⟩, by rw [hr.nz _ (by rw [h.labB]; decide), h.labB], h.acc.rel (by decide) hf (hn 2 (by decide)) hr, h.kep.rel (by decide) hf (hn 3 (by decide)) hr,
    tab_more (h.ids.rel (by decide) hf (hn 4 (by decide)) hr) hb, ⟨cs, t1.mono (fun k hk => ext_gro h (by decide) hk) (fun k hk => ext_in h (by decide) hf.size hk), t2⟩, hr.lt, ents_rel h.ents hf (hn 9 (by decide)) hr⟩
theorem nmGetS (w : World) (lab : Nat → Nat) (d : Dd) (r : Raw) (es : List Ent) (big : Nat) (x : Nm) (h : Sta w lab d r es big) :
    Calls Tryd.prog 55 #[.pointer (some ⟨d.N, 0, none⟩), .agg #[.int .u64 x.hi, .int .u64 x.lo]] w fun e w' => e = .returned (.tuple #[.int .i64 ((r.nms x).getD 0), .bool (r.nms x).isSome]) ∧ Fr (fun _ => False) w w' := by
  obtain ⟨cs, h1, h2, h3⟩ := h.nms
  refine (get_any w _ d.N cs x h1).mono ?_
  rintro e w' ⟨a, b, rfl, hab, hf⟩
  refine ⟨?_, hf⟩
  rcases hab with ⟨rfl, hh⟩ | ⟨rfl, rfl, hh⟩
  · rw [(h2 x a).1 hh]; rfl
  · have : r.nms x = none := by
      cases hx : r.nms x with
      | none => rfl
      | some a => exact (hh (has_in ((h2 x a).2 hx))).elim
    rw [this]; rfl
theorem nmPutS (w : World) (lab : Nat → Nat) (d : Dd) (r : Raw) (es : List Ent) (big : Nat) (x : Nm) (a : Int) (h : Sta w lab d r es big) (hb : big ≤ 100000) :
    Calls Tryd.prog 57 #[.pointer (some ⟨d.N, 0, none⟩), .agg #[.int .u64 x.hi, .int .u64 x.lo], .int .i64 a] w fun e w' => e = .returned (.bool (r.nms x).isNone) ∧ ∃ lab', Sta w' lab' d { r with nms := upd r.nms x (some a) } es (big + 1) ∧ Stp w.heap.size w lab w' lab' := by
  obtain ⟨cs, h1, h2, h3⟩ := h.nms
  refine (put_any w _ d.N cs x a h1 (by omega)).mono ?_
  intro e w' hp
  obtain ⟨rfl, ht, hf⟩ := tab_put h2 h3 hp
  exact ⟨rfl, _, h.renms hf ht (Nat.le_succ _), ext_stp (Nat.le_refl _) (hf.mono (fun k hk => by rw [hk]; decide))⟩
theorem nmDropS (w : World) (lab : Nat → Nat) (d : Dd) (r : Raw) (es : List Ent) (big : Nat) (x : Nm) (h : Sta w lab d r es big) :
    Calls Tryd.prog 60 #[.pointer (some ⟨d.N, 0, none⟩), .agg #[.int .u64 x.hi, .int .u64 x.lo]] w fun e w' => e = .returned (.bool (r.nms x).isSome) ∧ ∃ lab', Sta w' lab' d { r with nms := upd r.nms x none } es big ∧ Stp w.heap.size w lab w' lab' := by
  obtain ⟨cs, h1, h2, h3⟩ := h.nms
  refine (drop_any w _ d.N cs x h1).mono ?_
  intro e w' hp
  obtain ⟨rfl, ⟨cs', t1, t2⟩, hf⟩ := tab_drop h2 h3 hp
  exact ⟨rfl, _, h.renms hf ⟨cs', t1.mono (fun k hk => .inl hk) (fun k hk => hk.elim (fun hk => Nat.lt_of_lt_of_le (h.lt k (by rw [hk]; decide)) hf.size) (fun hk => hk.2)), t2⟩ (Nat.le_refl _), ext_stp (Nat.le_refl _) (hf.mono (fun k hk => by rw [hk]; decide))⟩
end

/-- What Account finds. -/
def acctR (r : Raw) (id : Nm) : Option Acc := (r.ids id).bind (atZ r.accs)
set_option maxRecDepth 4000 in
set_option maxHeartbeats 3200000 in
theorem acctS (w : World) (lab : Nat → Nat) (d : Dd) (r : Raw) (es : List Ent) (big : Nat) (id : Nm) (h : Sta w lab d r es big) (hl : r.accs.length ≤ 1000000) :
    Calls Tryd.prog 32 #[.pointer (some ⟨d.B, 0, none⟩), .agg #[.int .u64 id.hi, .int .u64 id.lo]] w fun e w' => e = .returned (.tuple #[.agg ((acctR r id).getD Acc.zero).cells.toArray, .bool (acctR r id).isSome]) ∧ Fr (fun _ => False) w w' := by
  have HS := Lib.hid ((h.alloc (.cells #[.int .u64 id.hi, .int .u64 id.lo] 24)).alloc (.cells #[.int .u64 0, .int .u64 0, .int .u64 0, .int .u64 0, .int .u64 0, .int .u64 0, .int .u64 0, .int .u64 0, .int .u64 0, .int .u64 0, .int .i64 0, .int .i64 0, .int .i64 0, .int .i64 0] 26))
  obtain ⟨k1, -, k3, -, -, -, -, -⟩ := HS.out.cells
  have B0 := Lib.hid (blk_alloc (heap_alloc_new w (.cells #[.int .u64 id.hi, .int .u64 id.lo] 24)) (.cells #[.int .u64 0, .int .u64 0, .int .u64 0, .int .u64 0, .int .u64 0, .int .u64 0, .int .u64 0, .int .u64 0, .int .u64 0, .int .u64 0, .int .i64 0, .int .i64 0, .int .i64 0, .int .i64 0] 26))
  have B1 := Lib.hid (blk1 w (.cells #[.int .u64 id.hi, .int .u64 id.lo] 24) (.cells #[.int .u64 0, .int .u64 0, .int .u64 0, .int .u64 0, .int .u64 0, .int .u64 0, .int .u64 0, .int .u64 0, .int .u64 0, .int .u64 0, .int .i64 0, .int .i64 0, .int .i64 0, .int .i64 0] 26))
  have s0 := blk_cell B0.out 0 rfl
  have s1 := blk_cell B0.out 1 rfl
  have HF := Lib.hid (((Fr.refl (fun _ => False) w).alloc (.cells #[.int .u64 id.hi, .int .u64 id.lo] 24)).alloc (.cells #[.int .u64 0, .int .u64 0, .int .u64 0, .int .u64 0, .int .u64 0, .int .u64 0, .int .u64 0, .int .u64 0, .int .u64 0, .int .u64 0, .int .i64 0, .int .i64 0, .int .i64 0, .int .i64 0] 26))
  have HGet := Lib.hid (fun W (h : Sta W lab d r es big) => idGetS W lab d r es big id h)
  have HL := Lib.hid hl
  obtain ⟨gi, hgi⟩ : ∃ z : Int, (r.ids id).getD 0 = z := ⟨_, rfl⟩
  obtain ⟨gb, hgb⟩ : ∃ z : Bool, (r.ids id).isSome = z := ⟨_, rfl⟩
  have HGb := Lib.hid hgb
  have HGi := Lib.hid hgi
  rw [hgi, hgb] at HGet
  clear h hl hgi hgb
  go_enter Tryd.func32, Tryd.ntmps32
  go_upto_region 3 with fail
  go_cut [6, 7] from 11 (fun v6 v7 w' => v6 = .int .i64 gi ∧ v7 = .bool gb ∧ Fr (fun _ => False) ((w.alloc (.cells #[.int .u64 id.hi, .int .u64 id.lo] 24)).alloc (.cells #[.int .u64 0, .int .u64 0, .int .u64 0, .int .u64 0, .int .u64 0, .int .u64 0, .int .u64 0, .int .u64 0, .int .u64 0, .int .u64 0, .int .i64 0, .int .i64 0, .int .i64 0, .int .i64 0] 26)) w')
  case first =>
    go_region_held3 (fun w' => w'.cell? ⟨d.B, 3, none⟩ = some (Value.pointer (some ⟨d.I, 0, none⟩)) ∧ w'.cell? ⟨w.heap.size, 0, none⟩ = some (Value.int .u64 id.hi) ∧ w'.cell? ⟨w.heap.size, 1, none⟩ = some (Value.int .u64 id.lo))
      (first | exact ⟨k3, s0, s1⟩ | exact ⟨q3, q0, q1⟩ | go_keep)
      (first | (go_at_call 55; go_must (with_reducible refine (HGet.out _ HS.out.drew).mono ?_); rintro e w2 ⟨rfl, f2⟩; have q3 := f2.cell (p := ⟨d.B, 3, none⟩) k3 (fun h => h); have q0 := blk_cell (f2.blk (blk_drew B0.out) (fun h => h)) 0 rfl; have q1 := blk_cell (f2.blk (blk_drew B0.out) (fun h => h)) 1 rfl; have F2 := Lib.hid f2; clear f2))
    go_wp2_with fail
    go_meet
    exact ⟨rfl, rfl, (Fr.refl _ _).drew.then_ F2.out (fun _ h => h.elim)⟩
  case rest =>
  obtain ⟨rfl, rfl, fc⟩ := hcut
  have Fc := Lib.hid (HF.out.then_ fc (fun _ h => h.elim))
  have HSc := Lib.hid (HS.out.fr fc (fun _ h => h.elim))
  have Bc1 := Lib.hid (fc.blk B1.out (fun h => h))
  have m1 := fc.cell (p := ⟨d.B, 1, none⟩) k1 (fun h => h)
  clear fc k1 k3 s0 s1
  cases gb with
  | false =>
    have hv := Lib.hid (show acctR r id = none from by have := HGb.out; rw [acctR]; cases hx : r.ids id with | none => rfl | some v => rw [hx] at this; cases this)
    go_wp2_with (first | ((refine wpList_store_row rfl 26 (.tmp 4) (.tmp 22) rfl (w.heap.size + 1) #[.int .u64 0, .int .u64 0, .int .u64 0, .int .u64 0, .int .u64 0, .int .u64 0, .int .u64 0, .int .u64 0, .int .u64 0, .int .u64 0, .int .i64 0, .int .i64 0, .int .i64 0, .int .i64 0] rfl rfl Bc1.out rfl rfl (by simp [Acc.cells, Acc.zero, Value.oneCell']) ?_); intro w9 hb9 f9; have HB9 := Lib.hid hb9; have F9 := Lib.hid f9; clear hb9 f9) | fail)
    refine bodyPost_ret (results_cell2 (p := 4) (q := 5) rfl _ _ (w.heap.size + 1) 26 _ (0, 0) _ rfl HB9.out Tryd.underlying26 rfl rfl) rfl ?_
    exact ⟨by rw [hv.out]; rfl, Fc.out.then_ F9.out (fun k hk => .inr (by omega))⟩
  | true =>
    have hv := Lib.hid (show acctR r id = atZ r.accs gi from by have := HGb.out; have hg := HGi.out; rw [acctR]; cases hx : r.ids id with | none => rw [hx] at this; cases this | some v => rw [hx] at hg; rw [← hg]; rfl)
    have HAt := Lib.hid (accAt wc _ d.A d.B r.accs gi HSc.out.acc HL.out)
    obtain ⟨V, hV⟩ : ∃ V, ((atZ r.accs gi).getD Acc.zero).cells.toArray = V := ⟨_, rfl⟩
    obtain ⟨Vb, hVb⟩ : ∃ V, (atZ r.accs gi).isSome = V := ⟨_, rfl⟩
    have HVs := Lib.hid (show V.size = 14 from by rw [← hV]; rfl)
    have HVo := Lib.hid (show V.all (·.oneCell') = true from by rw [← hV]; simp [Acc.cells, Value.oneCell'])
    rw [hV, hVb] at HAt
    have HV := Lib.hid (And.intro hV hVb)
    clear hV hVb
    go_wp2_with fail
    refine HAt.out.mono ?_
    rintro e w7 ⟨rfl, f7⟩
    have B7 := Lib.hid (f7.blk Bc1.out (fun h => h))
    have F7 := Lib.hid (Fc.out.then_ f7 (fun _ h => h.elim))
    clear f7
    go_wp2_with (first | ((refine wpList_store_row rfl 26 (.tmp 4) (.tmp 29) rfl (w.heap.size + 1) V rfl rfl B7.out HVs.out (by rw [HVs.out]; rfl) HVo.out ?_); intro w9 hb9 f9; have HB9 := Lib.hid hb9; have F9 := Lib.hid f9; clear hb9 f9) | fail)
    refine bodyPost_ret (results_cell2 (p := 4) (q := 5) rfl _ _ (w.heap.size + 1) 26 _ (0, 0) _ rfl HB9.out Tryd.underlying26 rfl (by rw [HVs.out]; rfl)) rfl ?_
    exact ⟨by rw [hv.out, HV.out.1, HV.out.2]; rfl, F7.out.then_ F9.out (fun k hk => .inr (by omega))⟩
/-- What Kept finds. -/
def keptR (r : Raw) (id : Nm) : Option Kp := (r.nms id).bind (atZ r.kept)
set_option maxRecDepth 4000 in
set_option maxHeartbeats 3200000 in
theorem keptS (w : World) (lab : Nat → Nat) (d : Dd) (r : Raw) (es : List Ent) (big : Nat) (id : Nm) (h : Sta w lab d r es big) (hl : r.kept.length ≤ 1000000) :
    Calls Tryd.prog 30 #[.pointer (some ⟨d.B, 0, none⟩), .agg #[.int .u64 id.hi, .int .u64 id.lo]] w fun e w' => e = .returned (.tuple #[.agg ((keptR r id).getD Kp.zero).cells.toArray, .bool (keptR r id).isSome]) ∧ Fr (fun _ => False) w w' := by
  have HS := Lib.hid ((h.alloc (.cells #[.int .u64 id.hi, .int .u64 id.lo] 24)).alloc (.cells #[.int .u64 0, .int .u64 0, .int .u64 0, .int .u64 0, .int .u64 0, .int .u64 0, .int .u64 0, .int .u64 0, .int .u64 0, .int .u64 0, .int .i64 0, .int .i64 0, .int .i64 0, .int .i64 0, .int .i64 0, .int .i64 0, .int .u64 0, .int .u64 0, .int .u64 0, .int .u64 0, .int .u64 0, .int .u64 0, .int .u64 0, .int .u64 0, .int .u64 0, .int .u64 0, .int .i64 0, .int .i64 0, .int .i64 0, .int .i64 0, .int .i64 0, .int .i64 0, .int .i64 0] 63))
  obtain ⟨-, k1, -, k3, -, -, -, -⟩ := HS.out.cells
  have B0 := Lib.hid (blk_alloc (heap_alloc_new w (.cells #[.int .u64 id.hi, .int .u64 id.lo] 24)) (.cells #[.int .u64 0, .int .u64 0, .int .u64 0, .int .u64 0, .int .u64 0, .int .u64 0, .int .u64 0, .int .u64 0, .int .u64 0, .int .u64 0, .int .i64 0, .int .i64 0, .int .i64 0, .int .i64 0, .int .i64 0, .int .i64 0, .int .u64 0, .int .u64 0, .int .u64 0, .int .u64 0, .int .u64 0, .int .u64 0, .int .u64 0, .int .u64 0, .int .u64 0, .int .u64 0, .int .i64 0, .int .i64 0, .int .i64 0, .int .i64 0, .int .i64 0, .int .i64 0, .int .i64 0] 63))
  have B1 := Lib.hid (blk1 w (.cells #[.int .u64 id.hi, .int .u64 id.lo] 24) (.cells #[.int .u64 0, .int .u64 0, .int .u64 0, .int .u64 0, .int .u64 0, .int .u64 0, .int .u64 0, .int .u64 0, .int .u64 0, .int .u64 0, .int .i64 0, .int .i64 0, .int .i64 0, .int .i64 0, .int .i64 0, .int .i64 0, .int .u64 0, .int .u64 0, .int .u64 0, .int .u64 0, .int .u64 0, .int .u64 0, .int .u64 0, .int .u64 0, .int .u64 0, .int .u64 0, .int .i64 0, .int .i64 0, .int .i64 0, .int .i64 0, .int .i64 0, .int .i64 0, .int .i64 0] 63))
  have s0 := blk_cell B0.out 0 rfl
  have s1 := blk_cell B0.out 1 rfl
  have HF := Lib.hid (((Fr.refl (fun _ => False) w).alloc (.cells #[.int .u64 id.hi, .int .u64 id.lo] 24)).alloc (.cells #[.int .u64 0, .int .u64 0, .int .u64 0, .int .u64 0, .int .u64 0, .int .u64 0, .int .u64 0, .int .u64 0, .int .u64 0, .int .u64 0, .int .i64 0, .int .i64 0, .int .i64 0, .int .i64 0, .int .i64 0, .int .i64 0, .int .u64 0, .int .u64 0, .int .u64 0, .int .u64 0, .int .u64 0, .int .u64 0, .int .u64 0, .int .u64 0, .int .u64 0, .int .u64 0, .int .i64 0, .int .i64 0, .int .i64 0, .int .i64 0, .int .i64 0, .int .i64 0, .int .i64 0] 63))
  have HGet := Lib.hid (fun W (h : Sta W lab d r es big) => nmGetS W lab d r es big id h)
  have HL := Lib.hid hl
  obtain ⟨gi, hgi⟩ : ∃ z : Int, (r.nms id).getD 0 = z := ⟨_, rfl⟩
  obtain ⟨gb, hgb⟩ : ∃ z : Bool, (r.nms id).isSome = z := ⟨_, rfl⟩
  have HGb := Lib.hid hgb
  have HGi := Lib.hid hgi
  rw [hgi, hgb] at HGet
  clear h hl hgi hgb
  go_enter Tryd.func30, Tryd.ntmps30
  go_upto_region 3 with fail
  go_cut [6, 7] from 11 (fun v6 v7 w' => v6 = .int .i64 gi ∧ v7 = .bool gb ∧ Fr (fun _ => False) ((w.alloc (.cells #[.int .u64 id.hi, .int .u64 id.lo] 24)).alloc (.cells #[.int .u64 0, .int .u64 0, .int .u64 0, .int .u64 0, .int .u64 0, .int .u64 0, .int .u64 0, .int .u64 0, .int .u64 0, .int .u64 0, .int .i64 0, .int .i64 0, .int .i64 0, .int .i64 0, .int .i64 0, .int .i64 0, .int .u64 0, .int .u64 0, .int .u64 0, .int .u64 0, .int .u64 0, .int .u64 0, .int .u64 0, .int .u64 0, .int .u64 0, .int .u64 0, .int .i64 0, .int .i64 0, .int .i64 0, .int .i64 0, .int .i64 0, .int .i64 0, .int .i64 0] 63)) w')
  case first =>
    go_region_held3 (fun w' => w'.cell? ⟨d.B, 4, none⟩ = some (Value.pointer (some ⟨d.N, 0, none⟩)) ∧ w'.cell? ⟨w.heap.size, 0, none⟩ = some (Value.int .u64 id.hi) ∧ w'.cell? ⟨w.heap.size, 1, none⟩ = some (Value.int .u64 id.lo))
      (first | exact ⟨k3, s0, s1⟩ | exact ⟨q3, q0, q1⟩ | go_keep)
      (first | (go_at_call 55; go_must (with_reducible refine (HGet.out _ HS.out.drew).mono ?_); rintro e w2 ⟨rfl, f2⟩; have q3 := f2.cell (p := ⟨d.B, 4, none⟩) k3 (fun h => h); have q0 := blk_cell (f2.blk (blk_drew B0.out) (fun h => h)) 0 rfl; have q1 := blk_cell (f2.blk (blk_drew B0.out) (fun h => h)) 1 rfl; have F2 := Lib.hid f2; clear f2))
    go_wp2_with fail
    go_meet
    exact ⟨rfl, rfl, (Fr.refl _ _).drew.then_ F2.out (fun _ h => h.elim)⟩
  case rest =>
  obtain ⟨rfl, rfl, fc⟩ := hcut
  have Fc := Lib.hid (HF.out.then_ fc (fun _ h => h.elim))
  have HSc := Lib.hid (HS.out.fr fc (fun _ h => h.elim))
  have Bc1 := Lib.hid (fc.blk B1.out (fun h => h))
  have m1 := fc.cell (p := ⟨d.B, 2, none⟩) k1 (fun h => h)
  clear fc k1 k3 s0 s1
  cases gb with
  | false =>
    have hv := Lib.hid (show keptR r id = none from by have := HGb.out; rw [keptR]; cases hx : r.nms id with | none => rfl | some v => rw [hx] at this; cases this)
    go_wp2_with (first | ((refine wpList_store_row rfl 63 (.tmp 4) (.tmp 22) rfl (w.heap.size + 1) #[.int .u64 0, .int .u64 0, .int .u64 0, .int .u64 0, .int .u64 0, .int .u64 0, .int .u64 0, .int .u64 0, .int .u64 0, .int .u64 0, .int .i64 0, .int .i64 0, .int .i64 0, .int .i64 0, .int .i64 0, .int .i64 0, .int .u64 0, .int .u64 0, .int .u64 0, .int .u64 0, .int .u64 0, .int .u64 0, .int .u64 0, .int .u64 0, .int .u64 0, .int .u64 0, .int .i64 0, .int .i64 0, .int .i64 0, .int .i64 0, .int .i64 0, .int .i64 0, .int .i64 0] rfl rfl Bc1.out rfl rfl (by simp [Kp.cells, Tx.cells, Kp.zero, Value.oneCell']) ?_); intro w9 hb9 f9; have HB9 := Lib.hid hb9; have F9 := Lib.hid f9; clear hb9 f9) | fail)
    refine bodyPost_ret (results_cell2 (p := 4) (q := 5) rfl _ _ (w.heap.size + 1) 63 _ (0, 0) _ rfl HB9.out Tryd.underlying63 rfl rfl) rfl ?_
    exact ⟨by rw [hv.out]; rfl, Fc.out.then_ F9.out (fun k hk => .inr (by omega))⟩
  | true =>
    have hv := Lib.hid (show keptR r id = atZ r.kept gi from by have := HGb.out; have hg := HGi.out; rw [keptR]; cases hx : r.nms id with | none => rw [hx] at this; cases this | some v => rw [hx] at hg; rw [← hg]; rfl)
    have HAt := Lib.hid (kepAt wc _ d.K d.B r.kept gi HSc.out.kep HL.out)
    obtain ⟨V, hV⟩ : ∃ V, ((atZ r.kept gi).getD Kp.zero).cells.toArray = V := ⟨_, rfl⟩
    obtain ⟨Vb, hVb⟩ : ∃ V, (atZ r.kept gi).isSome = V := ⟨_, rfl⟩
    have HVs := Lib.hid (show V.size = 33 from by rw [← hV]; rfl)
    have HVo := Lib.hid (show V.all (·.oneCell') = true from by rw [← hV]; simp [Kp.cells, Tx.cells, Value.oneCell'])
    rw [hV, hVb] at HAt
    have HV := Lib.hid (And.intro hV hVb)
    clear hV hVb
    go_wp2_with fail
    refine HAt.out.mono ?_
    rintro e w7 ⟨rfl, f7⟩
    have B7 := Lib.hid (f7.blk Bc1.out (fun h => h))
    have F7 := Lib.hid (Fc.out.then_ f7 (fun _ h => h.elim))
    clear f7
    go_wp2_with (first | ((refine wpList_store_row rfl 63 (.tmp 4) (.tmp 29) rfl (w.heap.size + 1) V rfl rfl B7.out HVs.out (by rw [HVs.out]; rfl) HVo.out ?_); intro w9 hb9 f9; have HB9 := Lib.hid hb9; have F9 := Lib.hid f9; clear hb9 f9) | fail)
    refine bodyPost_ret (results_cell2 (p := 4) (q := 5) rfl _ _ (w.heap.size + 1) 63 _ (0, 0) _ rfl HB9.out Tryd.underlying63 rfl (by rw [HVs.out]; rfl)) rfl ?_
    exact ⟨by rw [hv.out, HV.out.1, HV.out.2]; rfl, F7.out.then_ F9.out (fun k hk => .inr (by omega))⟩
end Go.Proofs.YtjchjpmgbmeohaaDoor
