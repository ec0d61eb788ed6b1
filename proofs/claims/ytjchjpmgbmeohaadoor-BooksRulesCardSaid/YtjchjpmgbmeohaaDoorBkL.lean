/- Books: what a state is. -/
import Derived.Test.YtjchjpmgbmeohaaDoorBkK
import Derived.Test.YtjchjpmgbmeohaaDoorPrJ
import Derived.Test.YtjchjpmgbmeohaaDoorXfer
set_option linter.unusedSimpArgs false
set_option linter.unusedVariables false
namespace Go.Proofs.YtjchjpmgbmeohaaDoor
open Go.RowKit

structure Kp where
  asked : Tx
  move : Tx
  fate : Int
def Tx.cells (a : Tx) : List Value := [.int .u64 a.id.hi, .int .u64 a.id.lo, .int .u64 a.debit.hi, .int .u64 a.debit.lo, .int .u64 a.credit.hi, .int .u64 a.credit.lo, .int .u64 a.amount.hi, .int .u64 a.amount.lo, .int .u64 a.pending.hi, .int .u64 a.pending.lo, .int .i64 a.timeout, .int .i64 a.ledger, .int .i64 a.code, .int .i64 a.flags, .int .i64 a.stamp, .int .i64 a.born]
def Kp.cells (k : Kp) : List Value := k.asked.cells ++ k.move.cells ++ [.int .i64 k.fate]
structure Itm where
  due : Int
  stamp : Int
  id : Nm
def Itm.cells (x : Itm) : List Value := [.int .i64 x.due, .int .i64 x.stamp, .int .u64 x.id.hi, .int .u64 x.id.lo]
def Itm.before (a b : Itm) : Prop := a.due < b.due ∨ (a.due = b.due ∧ a.stamp < b.stamp)
abbrev Pr := Int × Int
def Pr.cells (p : Pr) : List Value := [.int .i64 p.1, .int .i64 p.2]
def prs (ps : List Pr) : List Value := ps.flatMap Pr.cells
def its (xs : List Itm) : List Value := xs.flatMap Itm.cells
/-- Pairs, rising, are what a function tells. -/
structure ORel (ps : List Pr) (f : Int → Option Int) : Prop where
  up : ps.Pairwise (fun a b => a.1 < b.1)
  iff : ∀ s a, (s, a) ∈ ps ↔ f s = some a
/-- A heap's items are what a function tells. -/
structure QRel (hp : List Itm) (f : Int → Option Itm) : Prop where
  heap : ∀ (i : Nat) (x y : Itm), 0 < i → hp[i]? = some x → hp[(i - 1) / 2]? = some y → ¬ x.before y
  nd : (hp.map (·.stamp)).Nodup
  iff : ∀ s x, f s = some x ↔ x ∈ hp ∧ x.stamp = s
/-- A state's parts, whatever they have to do with one another. -/
structure Raw where
  accs : List Acc
  kept : List Kp
  ids : Nm → Option Int
  nms : Nm → Option Int
  sts : Int → Option Int
  ends : Int → Option Itm
  clock : Int
  stamp : Int
/-- Where the parts lie. -/
structure Dd where
  B : Nat
  A : Nat
  K : Nat
  I : Nat
  N : Nat
/-- What the log holds. -/
inductive Ent where
  | accCut (bl bn n : Nat)
  | accPut (bo bl bi i : Nat) (old : Acc)
  | kepCut (bl bn n : Nat)
  | kepPut (bo bl bi i : Nat) (old : Kp)
  | idDrop (bs ba : Nat) (a : Acc)
  | nmDrop (bs bm bk : Nat) (m : Tx) (k : Kp)
  | enDrop (bs bx : Nat) (x : Itm)
  | enPut (bs bx : Nat) (x : Itm)
  | stDec (bs : Nat)
  | clkSet (bw bs : Nat) (was : Int)
def pt (b : Nat) : Value := .pointer (some ⟨b, 0, none⟩)
def Ent.fn : Ent → Fn
  | .accCut .. => .func 98
  | .accPut .. => .func 104
  | .kepCut .. => .func 99
  | .kepPut .. => .func 105
  | .idDrop .. => .func 59
  | .nmDrop .. => .func 65
  | .enDrop .. => .func 69
  | .enPut .. => .func 88
  | .stDec .. => .func 96
  | .clkSet .. => .func 86
def Ent.caps : Ent → Array Value
  | .accCut bl bn _ => #[pt bl, pt bn]
  | .accPut bo bl bi _ _ => #[pt bo, pt bl, pt bi]
  | .kepCut bl bn _ => #[pt bl, pt bn]
  | .kepPut bo bl bi _ _ => #[pt bo, pt bl, pt bi]
  | .idDrop bs ba _ => #[pt bs, pt ba]
  | .nmDrop bs bm bk _ _ => #[pt bs, pt bm, pt bk]
  | .enDrop bs bx _ => #[pt bs, pt bx]
  | .enPut bs bx _ => #[pt bs, pt bx]
  | .stDec bs => #[pt bs]
  | .clkSet bw bs _ => #[pt bw, pt bs]
def Ent.val (e : Ent) : Value := .func e.fn #[] e.caps
def boxS (w : World) (b B : Nat) : Prop := w.heap[b]? = some (.cells #[pt B] 35 (0, 0))
def boxN (w : World) (b : Nat) (n : Int) : Prop := w.heap[b]? = some (.cells #[.int .i64 n] 3 (0, 0))
def Ent.at_ (w : World) (d : Dd) : Ent → Prop
  | .accCut bl bn n => w.heap[bl]? = some (.cells #[pt d.A] 91 (0, 0)) ∧ boxN w bn n
  | .accPut bo bl bi i old => w.heap[bo]? = some (.cells old.cells.toArray 26 (0, 0)) ∧ w.heap[bl]? = some (.cells #[pt d.A] 91 (0, 0)) ∧ boxN w bi i
  | .kepCut bl bn n => w.heap[bl]? = some (.cells #[pt d.K] 92 (0, 0)) ∧ boxN w bn n
  | .kepPut bo bl bi i old => w.heap[bo]? = some (.cells old.cells.toArray 63 (0, 0)) ∧ w.heap[bl]? = some (.cells #[pt d.K] 92 (0, 0)) ∧ boxN w bi i
  | .idDrop bs ba a => boxS w bs d.B ∧ w.heap[ba]? = some (.cells a.cells.toArray 26 (0, 0))
  | .nmDrop bs bm bk m k => boxS w bs d.B ∧ w.heap[bm]? = some (.cells m.cells.toArray 40 (0, 0)) ∧ w.heap[bk]? = some (.cells k.cells.toArray 63 (0, 0))
  | .enDrop bs bx x => boxS w bs d.B ∧ w.heap[bx]? = some (.cells x.cells.toArray 113 (0, 0))
  | .enPut bs bx x => boxS w bs d.B ∧ w.heap[bx]? = some (.cells x.cells.toArray 113 (0, 0))
  | .stDec bs => boxS w bs d.B
  | .clkSet bw bs was => boxN w bw was ∧ boxS w bs d.B
def Ent.has : Ent → Nat → Prop
  | .accCut bl bn _, k => k = bl ∨ k = bn
  | .accPut bo bl bi _ _, k => k = bo ∨ k = bl ∨ k = bi
  | .kepCut bl bn _, k => k = bl ∨ k = bn
  | .kepPut bo bl bi _ _, k => k = bo ∨ k = bl ∨ k = bi
  | .idDrop bs ba _, k => k = bs ∨ k = ba
  | .nmDrop bs bm bk _ _, k => k = bs ∨ k = bm ∨ k = bk
  | .enDrop bs bx _, k => k = bs ∨ k = bx
  | .enPut bs bx _, k => k = bs ∨ k = bx
  | .stDec bs, k => k = bs
  | .clkSet bw bs _, k => k = bw ∨ k = bs
theorem ent_fr {w w' : World} {d : Dd} {S2 : Nat → Prop} {e : Ent} (h : e.at_ w d) (hf : Fr S2 w w') (hn : ∀ k, e.has k → ¬ S2 k) : e.at_ w' d := by
  cases e with
  | accCut bl bn n => exact ⟨hf.blk h.1 (hn _ (.inl rfl)), hf.blk h.2 (hn _ (.inr rfl))⟩
  | accPut bo bl bi i old => exact ⟨hf.blk h.1 (hn _ (.inl rfl)), hf.blk h.2.1 (hn _ (.inr (.inl rfl))), hf.blk h.2.2 (hn _ (.inr (.inr rfl)))⟩
  | kepCut bl bn n => exact ⟨hf.blk h.1 (hn _ (.inl rfl)), hf.blk h.2 (hn _ (.inr rfl))⟩
  | kepPut bo bl bi i old => exact ⟨hf.blk h.1 (hn _ (.inl rfl)), hf.blk h.2.1 (hn _ (.inr (.inl rfl))), hf.blk h.2.2 (hn _ (.inr (.inr rfl)))⟩
  | idDrop bs ba a => exact ⟨hf.blk h.1 (hn _ (.inl rfl)), hf.blk h.2 (hn _ (.inr rfl))⟩
  | nmDrop bs bm bk m k => exact ⟨hf.blk h.1 (hn _ (.inl rfl)), hf.blk h.2.1 (hn _ (.inr (.inl rfl))), hf.blk h.2.2 (hn _ (.inr (.inr rfl)))⟩
  | enDrop bs bx x => exact ⟨hf.blk h.1 (hn _ (.inl rfl)), hf.blk h.2 (hn _ (.inr rfl))⟩
  | enPut bs bx x => exact ⟨hf.blk h.1 (hn _ (.inl rfl)), hf.blk h.2 (hn _ (.inr rfl))⟩
  | stDec bs => exact hf.blk h (hn _ rfl)
  | clkSet bw bs was => exact ⟨hf.blk h.1 (hn _ (.inl rfl)), hf.blk h.2 (hn _ (.inr rfl))⟩
/-- A table of names that is what a function tells. -/
def TabS (w : World) (S : Nat → Prop) (T : Nat) (f : Nm → Option Int) (big : Nat) : Prop := ∃ cs, IsT w S T cs ∧ (∀ y a, Has cs y a ↔ f y = some a) ∧ cnt 1 cs ≤ big
abbrev KepL (w : World) (S : Nat → Prop) (L B : Nat) (xs : List Kp) : Prop := Rw w S L 139 63 33 [.pointer (some ⟨B, 0, none⟩)] xs.length (xs.flatMap Kp.cells)
/-- The state's block, and the rows that it holds. -/
structure SB (w : World) (lab : Nat → Nat) (d : Dd) (r : Raw) (es : List Ent) (big : Nat) (lv sv qv : Value) (ps : List Pr) (hp : List Itm) : Prop where
  blk : w.heap[d.B]? = some (.cells #[lv, .pointer (some ⟨d.A, 0, none⟩), .pointer (some ⟨d.K, 0, none⟩), .pointer (some ⟨d.I, 0, none⟩), .pointer (some ⟨d.N, 0, none⟩), sv, qv, .int .i64 r.clock, .int .i64 r.stamp] 100 (0, 0))
  log : w.ownsRow 0 1 1 lv es.length (es.reverse.map Ent.val)
  logl : ∀ k, lv.ownBlock = some k → lab k = 1
  sts : w.ownsRow 0 121 2 sv ps.length (prs ps)
  stsl : ∀ k, sv.ownBlock = some k → lab k = 6
  orel : ORel ps r.sts
  ens : w.ownsRow 0 113 4 qv hp.length (its hp)
  ensl : ∀ k, qv.ownBlock = some k → lab k = 7
  qrel : QRel hp r.ends
  psb : ps.length ≤ big
  hpb : hp.length + es.length ≤ big
structure Sta (w : World) (lab : Nat → Nat) (d : Dd) (r : Raw) (es : List Ent) (big : Nat) : Prop where
  bb : ∃ lv sv qv ps hp, SB w lab d r es big lv sv qv ps hp
  labB : lab d.B = 8
  acc : AccL w (fun k => lab k = 2) d.A d.B r.accs
  kep : KepL w (fun k => lab k = 3) d.K d.B r.kept
  ids : TabS w (fun k => lab k = 4) d.I r.ids big
  nms : TabS w (fun k => lab k = 5) d.N r.nms big
  lt : ∀ k, lab k ≠ 0 → k < w.heap.size
  ents : ∀ e ∈ es, e.at_ w d ∧ ∀ k, e.has k → lab k = 9
/-- What a step leaves as it was: all that is nobody's, or the log's entries'; labels below n. -/
structure Stp (n : Nat) (w : World) (lab : Nat → Nat) (w' : World) (lab' : Nat → Nat) : Prop where
  fr : Fr (fun k => lab k ≠ 0 ∧ lab k ≠ 9) w w'
  le : n ≤ w.heap.size
  lx : ∀ k, k < n → lab' k = lab k
  nz : ∀ k, k < w.heap.size → lab k ≠ 0 → lab' k = lab k
  own : ∀ k, k < w.heap.size → lab k = 0 → lab' k = 0 ∨ lab' k = 9
theorem Stp.refl {n : Nat} {w : World} {lab : Nat → Nat} (h : n ≤ w.heap.size) : Stp n w lab w lab := ⟨Fr.refl _ _, h, fun _ _ => rfl, fun _ _ _ => rfl, fun _ _ h => .inl h⟩
theorem Stp.plain {n : Nat} {w w' : World} {lab : Nat → Nat} (h : n ≤ w.heap.size) (f : Fr (fun k => lab k = 0 ∧ n ≤ k ∧ False) w w') : Stp n w lab w' lab := ⟨f.mono (fun _ h => h.2.2.elim), h, fun _ _ => rfl, fun _ _ _ => rfl, fun _ _ h => .inl h⟩
theorem Stp.then_ {n m : Nat} {w w1 w2 : World} {l l1 l2 : Nat → Nat} (h : Stp n w l w1 l1) (k : Stp m w1 l1 w2 l2) (hm : n ≤ m) (hl : ∀ k, l1 k ≠ 0 → k < w1.heap.size) : Stp n w l w2 l2 := by
  have hs := h.fr.size
  refine ⟨h.fr.then_ k.fr (fun j hj => ?_), h.le, fun j hj => ?_, fun j hj hz => ?_, fun j hj hz => ?_⟩
  · by_cases hj2 : j < w.heap.size
    · left
      by_cases h0 : l j = 0
      · rcases h.own j hj2 h0 with h1 | h1
        · exact absurd h1 hj.1
        · exact absurd h1 hj.2
      · have := h.nz j hj2 h0
        rw [this] at hj
        exact hj
    · exact .inr (by omega)
  · rw [k.lx j (by omega), h.lx j hj]
  · have e := h.nz j hj hz
    rw [k.nz j (by omega) (by rw [e]; exact hz), e]
  · rcases h.own j hj hz with h1 | h1
    · exact k.own j (by omega) h1
    · exact .inr (by rw [k.nz j (by omega) (by rw [h1]; decide), h1])
/-- A block of one's own, read. -/
theorem Stp.blk {n : Nat} {w w' : World} {lab lab' : Nat → Nat} {b : Nat} {o : Obj} (h : Stp n w lab w' lab') (hb : w.heap[b]? = some o) (hl : lab b = 0 ∨ lab b = 9) : w'.heap[b]? = some o ∧ (lab' b = 0 ∨ lab' b = 9) :=
  ⟨h.fr.blk hb (fun k => hl.elim k.1 k.2), by
    rcases hl with hl | hl
    · exact h.own b (blk_lt hb) hl
    · exact .inr (by rw [h.nz b (blk_lt hb) (by rw [hl]; decide), hl])⟩
section
variable {w w' : World} {lab lab' : Nat → Nat} {d : Dd} {r : Raw} {es : List Ent} {big : Nat}
/-- Nothing of the state's is written. -/
theorem Sta.fr {S2 : Nat → Prop} (h : Sta w lab d r es big) (hf : Fr S2 w w') (hn : ∀ k, S2 k → lab k = 0) : Sta w' lab d r es big where
  bb := by
    obtain ⟨lv, sv, qv, ps, hp, b⟩ := h.bb
    have hz : ∀ k n, n ≠ 0 → lab k = n → ¬ S2 k := fun k n h0 hl hs => h0 (by rw [← hl]; exact hn k hs)
    exact ⟨lv, sv, qv, ps, hp, ⟨hf.blk b.blk (hz _ 8 (by decide) h.labB), own_fr b.log hf (fun k hk => hz _ 1 (by decide) (b.logl k hk)), b.logl, own_fr b.sts hf (fun k hk => hz _ 6 (by decide) (b.stsl k hk)), b.stsl, b.orel, own_fr b.ens hf (fun k hk => hz _ 7 (by decide) (b.ensl k hk)), b.ensl, b.qrel, b.psb, b.hpb⟩⟩
  labB := h.labB
  acc := h.acc.fr hf (fun k hk hs => by have := hn k hs; rw [hk] at this; cases this)
  kep := h.kep.fr hf (fun k hk hs => by have := hn k hs; rw [hk] at this; cases this)
  ids := by obtain ⟨cs, h1, h2⟩ := h.ids; exact ⟨cs, h1.fr hf (fun k hk hs => by have := hn k hs; rw [hk] at this; cases this), h2⟩
  nms := by obtain ⟨cs, h1, h2⟩ := h.nms; exact ⟨cs, h1.fr hf (fun k hk hs => by have := hn k hs; rw [hk] at this; cases this), h2⟩
  lt := fun k hk => Nat.lt_of_lt_of_le (h.lt k hk) hf.size
  ents := fun e he => ⟨ent_fr (h.ents e he).1 hf (fun k hk hs => by have := hn k hs; rw [(h.ents e he).2 k hk] at this; cases this), (h.ents e he).2⟩
theorem Sta.alloc (h : Sta w lab d r es big) (o : Obj) : Sta (w.alloc o) lab d r es big := h.fr ((Fr.refl (fun _ => False) w).alloc o) (fun _ h => h.elim)
theorem Sta.drew (h : Sta w lab d r es big) : Sta w.drew lab d r es big := h.fr ((Fr.refl (fun _ => False) w).drew) (fun _ h => h.elim)
/-- What lies behind is nobody's. -/
theorem Sta.free (h : Sta w lab d r es big) {k : Nat} (hk : w.heap.size ≤ k) : lab k = 0 := by
  by_cases h0 : lab k = 0
  · exact h0
  · have := h.lt k h0; omega
theorem SB.more {big' : Nat} {lv sv qv : Value} {ps : List Pr} {hp : List Itm} (b : SB w lab d r es big lv sv qv ps hp) (hb : big ≤ big') : SB w lab d r es big' lv sv qv ps hp := ⟨b.blk, b.log, b.logl, b.sts, b.stsl, b.orel, b.ens, b.ensl, b.qrel, Nat.le_trans b.psb hb, Nat.le_trans b.hpb hb⟩
theorem tab_more {S : Nat → Prop} {T big' : Nat} {f : Nm → Option Int} (h : TabS w S T f big) (hb : big ≤ big') : TabS w S T f big' := by
  obtain ⟨cs, h1, h2, h3⟩ := h
  exact ⟨cs, h1, h2, Nat.le_trans h3 hb⟩
theorem Sta.more {big' : Nat} (h : Sta w lab d r es big) (hb : big ≤ big') : Sta w lab d r es big' where
  bb := by obtain ⟨lv, sv, qv, ps, hp, b⟩ := h.bb; exact ⟨lv, sv, qv, ps, hp, b.more hb⟩
  labB := h.labB
  acc := h.acc
  kep := h.kep
  ids := tab_more h.ids hb
  nms := tab_more h.nms hb
  lt := h.lt
  ents := h.ents
end
/-! What a step of one part does to the others. -/
section
variable {w w' : World} {lab lab' : Nat → Nat} {S2 : Nat → Prop}
/-- Labels that were told stay, all that is told lies below. -/
structure Rel (w : World) (lab : Nat → Nat) (w' : World) (lab' : Nat → Nat) : Prop where
  nz : ∀ k, lab k ≠ 0 → lab' k = lab k
  lt : ∀ k, lab' k ≠ 0 → k < w'.heap.size
theorem Rw.rel {c b : Nat} {T et : TypeId} {sz n : Nat} {rest vs : List Value} (h : Rw w (fun k => lab k = c) b T et sz rest n vs) (hc : c ≠ 0) (hf : Fr S2 w w') (hn : ∀ k, S2 k → lab k ≠ c) (hr : Rel w lab w' lab') : Rw w' (fun k => lab' k = c) b T et sz rest n vs :=
  (h.fr hf (fun k hk hs => hn k hs hk)).mono (fun k hk => by show lab' k = c; rw [hr.nz k (by rw [hk]; exact hc)]; exact hk) (fun k hk => hr.lt k (by rw [hk]; exact hc))
theorem TabS.rel {c T : Nat} {f : Nm → Option Int} {big : Nat} (h : TabS w (fun k => lab k = c) T f big) (hc : c ≠ 0) (hf : Fr S2 w w') (hn : ∀ k, S2 k → lab k ≠ c) (hr : Rel w lab w' lab') : TabS w' (fun k => lab' k = c) T f big := by
  obtain ⟨cs, h1, h2⟩ := h
  exact ⟨cs, (h1.fr hf (fun k hk hs => hn k hs hk)).mono (fun k hk => by show lab' k = c; rw [hr.nz k (by rw [hk]; exact hc)]; exact hk) (fun k hk => hr.lt k (by rw [hk]; exact hc)), h2⟩
theorem SB.rel {d : Dd} {r : Raw} {es : List Ent} {big : Nat} {lv sv qv : Value} {ps : List Pr} {hp : List Itm} (b : SB w lab d r es big lv sv qv ps hp) (hB : lab d.B = 8) (hf : Fr S2 w w') (hn : ∀ k, S2 k → lab k ≠ 1 ∧ lab k ≠ 6 ∧ lab k ≠ 7 ∧ lab k ≠ 8) (hr : Rel w lab w' lab') {r' : Raw} (e1 : r'.sts = r.sts) (e2 : r'.ends = r.ends) (e3 : r'.clock = r.clock) (e4 : r'.stamp = r.stamp) : SB w' lab' d r' es big lv sv qv ps hp := by
  have hk : ∀ k c, c ≠ 0 → lab k = c → lab' k = c := fun k c h0 h1 => by rw [hr.nz k (by rw [h1]; exact h0), h1]
  exact ⟨by rw [e3, e4]; exact hf.blk b.blk (fun hs => (hn _ hs).2.2.2 hB), own_fr b.log hf (fun k hk hs => (hn k hs).1 (b.logl k hk)), fun k h => hk k 1 (by decide) (b.logl k h), own_fr b.sts hf (fun k hk hs => (hn k hs).2.1 (b.stsl k hk)), fun k h => hk k 6 (by decide) (b.stsl k h), e1 ▸ b.orel, own_fr b.ens hf (fun k hk hs => (hn k hs).2.2.1 (b.ensl k hk)), fun k h => hk k 7 (by decide) (b.ensl k h), e2 ▸ b.qrel, b.psb, b.hpb⟩
theorem ents_rel {d : Dd} {es : List Ent} (h : ∀ e ∈ es, e.at_ w d ∧ ∀ k, e.has k → lab k = 9) (hf : Fr S2 w w') (hn : ∀ k, S2 k → lab k ≠ 9) (hr : Rel w lab w' lab') : ∀ e ∈ es, e.at_ w' d ∧ ∀ k, e.has k → lab' k = 9 :=
  fun e he => ⟨ent_fr (h e he).1 hf (fun k hk hs => hn k hs ((h e he).2 k hk)), fun k hk => by rw [hr.nz k (by rw [(h e he).2 k hk]; decide), (h e he).2 k hk]⟩
end
end Go.Proofs.YtjchjpmgbmeohaaDoor
