/- Several texts in one, for the law BooksFull: Keep, BkX, Alv, BkS, BkZ, Open, AcctO. Each says what it shows; conditions: what each theorem names. -/
import Derived.Test.YtjchjpmgbmeohaaDoorMf6
import Derived.Test.YtjchjpmgbmeohaaDoorMf7
import Derived.Test.YtjchjpmgbmeohaaDoorMf2
import Derived.Deep.RegionHeld3
import Derived.Test.YtjchjpmgbmeohaaDoorMf5
import Derived.Test.YtjchjpmgbmeohaaDoorMf3
import Derived.Test.YtjchjpmgbmeohaaDoorMf1
import Derived.ProofKit
import Derived.OpenShut
import Derived.SizedLaws
import Derived.Deep.Slices
import Derived.ChangeArms
import Derived.Test.YtjchjpmgbmeohaaDoorRows
import Derived.LaidMore
import Derived.Stop.Joined
/- Books: Keep. -/
set_option linter.unusedSimpArgs false
set_option linter.unusedVariables false
namespace Go.Proofs.YtjchjpmgbmeohaaDoor
open Go.RowKit

theorem fun3_blk (w : World) (a b c : Obj) : (((w.alloc a).alloc b).alloc c).heap[w.heap.size + 1]? = some b := blk_alloc (blk1 w a b) c
theorem ld_nm {P : Program} {W : World} {g o : Nat} {x y : Value} (hx : W.cell? ⟨g, o, none⟩ = some x) (hy : W.cell? ⟨g, o + 1, none⟩ = some y) : (loadCells ⟨g, o, none⟩ 2).run P W = .ok #[x, y] W := by
  have h := run_loadCells_list (P := P) W ⟨g, o, none⟩ [x, y] (fun j v hv => by
    have hadd : (⟨g, o, none⟩ : Addr).add j = ⟨g, o + j, none⟩ := by unfold Addr.add; split <;> simp_all
    rw [hadd]
    match j, hv with
    | 0, hv => cases hv; exact hx
    | 1, hv => cases hv; exact hy
    | j + 2, hv => simp at hv)
  simpa using h
/-- The transfer that is kept. -/
def kept1 (a m : Tx) (wt : Bool) (s c : Int) : Kp := ⟨a, { m with stamp := s, born := c }, if wt then 1 else 0⟩
/-- What Keep makes of a state. -/
inductive KeepR (r : Raw) (es : List Ent) (a m : Tx) (wt : Bool) : Int → Raw → List Ent → Prop
  | full (h : 96 ≤ r.kept.length) : KeepR r es a m wt 6 r es
  | there (h : r.kept.length < 96) (h2 : (r.nms m.id).isSome = true) : KeepR r es a m wt 1 r es
  | rests (h : r.kept.length < 96) (h2 : r.nms m.id = none) (hd : dueB (kept1 a m wt (r.stamp + 1) r.clock) = false) (b1 b2 b3 b4 b5 b6 : Nat) : KeepR r es a m wt 0 { r with kept := r.kept ++ [kept1 a m wt (r.stamp + 1) r.clock], nms := upd r.nms m.id (some (r.kept.length : Int)), sts := upd r.sts (r.stamp + 1) (some (r.kept.length : Int)), stamp := r.stamp + 1 } (.nmDrop b1 b2 b3 m (kept1 a m wt (r.stamp + 1) r.clock) :: .kepCut b4 b5 r.kept.length :: .stDec b6 :: es)
  | waits (h : r.kept.length < 96) (h2 : r.nms m.id = none) (hd : dueB (kept1 a m wt (r.stamp + 1) r.clock) = true) (b1 b2 b3 b4 b5 b6 b7 b8 : Nat) : KeepR r es a m wt 0 { r with kept := r.kept ++ [kept1 a m wt (r.stamp + 1) r.clock], nms := upd r.nms m.id (some (r.kept.length : Int)), sts := upd r.sts (r.stamp + 1) (some (r.kept.length : Int)), ends := upd r.ends (r.stamp + 1) (some (kept1 a m wt (r.stamp + 1) r.clock).itm), stamp := r.stamp + 1 } (.enDrop b7 b8 (kept1 a m wt (r.stamp + 1) r.clock).itm :: .nmDrop b1 b2 b3 m (kept1 a m wt (r.stamp + 1) r.clock) :: .kepCut b4 b5 r.kept.length :: .stDec b6 :: es)
def KeepFPost (w : World) (lab : Nat → Nat) (d : Dd) (r : Raw) (es : List Ent) (big : Nat) (a m : Tx) (wt : Bool) (e : Ending) (w' : World) : Prop :=
  ∃ c lab' r' es', e = .returned (.int .i64 c) ∧ KeepR r es a m wt c r' es' ∧ Sta w' lab' d r' es' (big + 7) ∧ Stp w.heap.size w lab w' lab'
/-- Keep's own blocks: the state's box, the transfer's, the kept one. -/
structure KOwn (w : World) (lab : Nat → Nat) (d : Dd) (m : Tx) (k : Kp) (s0 sm sk : Nat) : Prop where
  b0 : w.heap[s0]? = some (.cells #[.pointer (some ⟨d.B, 0, none⟩)] 35 (0, 0))
  bm : w.heap[sm]? = some (.cells m.cells.toArray 40 (0, 0))
  bk : w.heap[sk]? = some (.cells k.cells.toArray 63 (0, 0))
  l0 : lab s0 = 0 ∨ lab s0 = 9
  lm : lab sm = 0 ∨ lab sm = 9
  lk : lab sk = 0 ∨ lab sk = 9
theorem KOwn.stp {n : Nat} {w w' : World} {lab lab' : Nat → Nat} {d : Dd} {m : Tx} {k : Kp} {s0 sm sk : Nat} (o : KOwn w lab d m k s0 sm sk) (p : Stp n w lab w' lab') : KOwn w' lab' d m k s0 sm sk :=
  ⟨(p.blk o.b0 o.l0).1, (p.blk o.bm o.lm).1, (p.blk o.bk o.lk).1, (p.blk o.b0 o.l0).2, (p.blk o.bm o.lm).2, (p.blk o.bk o.lk).2⟩
theorem KOwn.fr {w w' : World} {lab : Nat → Nat} {d : Dd} {m : Tx} {k : Kp} {s0 sm sk : Nat} (o : KOwn w lab d m k s0 sm sk) (f : Fr (fun _ => False) w w') : KOwn w' lab d m k s0 sm sk :=
  ⟨f.blk o.b0 (fun h => h), f.blk o.bm (fun h => h), f.blk o.bk (fun h => h), o.l0, o.lm, o.lk⟩
theorem KOwn.stamped {w : World} {lab : Nat → Nat} {d : Dd} {a m : Tx} {F : Int} {s0 sm sk : Nat} (o : KOwn w lab d m ⟨a, m, F⟩ s0 sm sk) (h0 : s0 ≠ sk) (hm : sm ≠ sk) (s c : Int) : KOwn ((w.setCell ⟨sk, 30, none⟩ (.int .i64 s)).setCell ⟨sk, 31, none⟩ (.int .i64 c)) lab d m ⟨a, { m with stamp := s, born := c }, F⟩ s0 sm sk :=
  ⟨blk_far2 (blk_far2 o.b0 h0 _) h0 _, blk_far2 (blk_far2 o.bm hm _) hm _, blk_set (blk_set o.bk 30 (.int .i64 s)) 31 (.int .i64 c), o.l0, o.lm, o.lk⟩
theorem Stp.frs {n : Nat} {w w1 w2 : World} {lab lab' : Nat → Nat} {S2 : Nat → Prop} (h : Stp n w lab w1 lab') (f : Fr S2 w1 w2) (hs : ∀ k, S2 k → w.heap.size ≤ k) : Stp n w lab w2 lab' := ⟨h.fr.then_ f (fun k hk => .inr (hs k hk)), h.le, h.lx, h.nz, h.own⟩
attribute [-go_sem] loadCells
set_option maxRecDepth 4000 in
set_option maxHeartbeats 6400000 in
theorem keepFS (w : World) (lab : Nat → Nat) (d : Dd) (r : Raw) (es : List Ent) (big : Nat) (a m : Tx) (wt : Bool) (h : Sta w lab d r es big) (hb : big ≤ 80000) (h0 : 0 ≤ r.stamp) (h1 : r.stamp ≤ 4611686018427387904) (hlen : r.kept.length ≤ 10000) (hfr : r.ends (r.stamp + 1) = none) :
    Calls Tryd.prog 18 #[.pointer (some ⟨d.B, 0, none⟩), .agg #[.int .u64 a.id.hi, .int .u64 a.id.lo, .int .u64 a.debit.hi, .int .u64 a.debit.lo, .int .u64 a.credit.hi, .int .u64 a.credit.lo, .int .u64 a.amount.hi, .int .u64 a.amount.lo, .int .u64 a.pending.hi, .int .u64 a.pending.lo, .int .i64 a.timeout, .int .i64 a.ledger, .int .i64 a.code, .int .i64 a.flags, .int .i64 a.stamp, .int .i64 a.born], .agg #[.int .u64 m.id.hi, .int .u64 m.id.lo, .int .u64 m.debit.hi, .int .u64 m.debit.lo, .int .u64 m.credit.hi, .int .u64 m.credit.lo, .int .u64 m.amount.hi, .int .u64 m.amount.lo, .int .u64 m.pending.hi, .int .u64 m.pending.lo, .int .i64 m.timeout, .int .i64 m.ledger, .int .i64 m.code, .int .i64 m.flags, .int .i64 m.stamp, .int .i64 m.born], .bool wt] w (KeepFPost w lab d r es big a m wt) := by
  have HS := Lib.hid (((h.alloc (.cells #[.pointer (some ⟨d.B, 0, none⟩)] 35)).alloc (.cells #[.int .u64 a.id.hi, .int .u64 a.id.lo, .int .u64 a.debit.hi, .int .u64 a.debit.lo, .int .u64 a.credit.hi, .int .u64 a.credit.lo, .int .u64 a.amount.hi, .int .u64 a.amount.lo, .int .u64 a.pending.hi, .int .u64 a.pending.lo, .int .i64 a.timeout, .int .i64 a.ledger, .int .i64 a.code, .int .i64 a.flags, .int .i64 a.stamp, .int .i64 a.born] 40)).alloc (.cells #[.int .u64 m.id.hi, .int .u64 m.id.lo, .int .u64 m.debit.hi, .int .u64 m.debit.lo, .int .u64 m.credit.hi, .int .u64 m.credit.lo, .int .u64 m.amount.hi, .int .u64 m.amount.lo, .int .u64 m.pending.hi, .int .u64 m.pending.lo, .int .i64 m.timeout, .int .i64 m.ledger, .int .i64 m.code, .int .i64 m.flags, .int .i64 m.stamp, .int .i64 m.born] 40))
  obtain ⟨-, c2, -, c4, -, -, -, -⟩ := HS.out.cells
  have B0 := Lib.hid (blk_alloc (blk_alloc (heap_alloc_new w (.cells #[.pointer (some ⟨d.B, 0, none⟩)] 35)) (.cells #[.int .u64 a.id.hi, .int .u64 a.id.lo, .int .u64 a.debit.hi, .int .u64 a.debit.lo, .int .u64 a.credit.hi, .int .u64 a.credit.lo, .int .u64 a.amount.hi, .int .u64 a.amount.lo, .int .u64 a.pending.hi, .int .u64 a.pending.lo, .int .i64 a.timeout, .int .i64 a.ledger, .int .i64 a.code, .int .i64 a.flags, .int .i64 a.stamp, .int .i64 a.born] 40)) (.cells #[.int .u64 m.id.hi, .int .u64 m.id.lo, .int .u64 m.debit.hi, .int .u64 m.debit.lo, .int .u64 m.credit.hi, .int .u64 m.credit.lo, .int .u64 m.amount.hi, .int .u64 m.amount.lo, .int .u64 m.pending.hi, .int .u64 m.pending.lo, .int .i64 m.timeout, .int .i64 m.ledger, .int .i64 m.code, .int .i64 m.flags, .int .i64 m.stamp, .int .i64 m.born] 40))
  have B1 := Lib.hid (fun3_blk w (.cells #[.pointer (some ⟨d.B, 0, none⟩)] 35) (.cells #[.int .u64 a.id.hi, .int .u64 a.id.lo, .int .u64 a.debit.hi, .int .u64 a.debit.lo, .int .u64 a.credit.hi, .int .u64 a.credit.lo, .int .u64 a.amount.hi, .int .u64 a.amount.lo, .int .u64 a.pending.hi, .int .u64 a.pending.lo, .int .i64 a.timeout, .int .i64 a.ledger, .int .i64 a.code, .int .i64 a.flags, .int .i64 a.stamp, .int .i64 a.born] 40) (.cells #[.int .u64 m.id.hi, .int .u64 m.id.lo, .int .u64 m.debit.hi, .int .u64 m.debit.lo, .int .u64 m.credit.hi, .int .u64 m.credit.lo, .int .u64 m.amount.hi, .int .u64 m.amount.lo, .int .u64 m.pending.hi, .int .u64 m.pending.lo, .int .i64 m.timeout, .int .i64 m.ledger, .int .i64 m.code, .int .i64 m.flags, .int .i64 m.stamp, .int .i64 m.born] 40))
  have B2 := Lib.hid (blk2 w (.cells #[.pointer (some ⟨d.B, 0, none⟩)] 35) (.cells #[.int .u64 a.id.hi, .int .u64 a.id.lo, .int .u64 a.debit.hi, .int .u64 a.debit.lo, .int .u64 a.credit.hi, .int .u64 a.credit.lo, .int .u64 a.amount.hi, .int .u64 a.amount.lo, .int .u64 a.pending.hi, .int .u64 a.pending.lo, .int .i64 a.timeout, .int .i64 a.ledger, .int .i64 a.code, .int .i64 a.flags, .int .i64 a.stamp, .int .i64 a.born] 40) (.cells #[.int .u64 m.id.hi, .int .u64 m.id.lo, .int .u64 m.debit.hi, .int .u64 m.debit.lo, .int .u64 m.credit.hi, .int .u64 m.credit.lo, .int .u64 m.amount.hi, .int .u64 m.amount.lo, .int .u64 m.pending.hi, .int .u64 m.pending.lo, .int .i64 m.timeout, .int .i64 m.ledger, .int .i64 m.code, .int .i64 m.flags, .int .i64 m.stamp, .int .i64 m.born] 40))
  have s0 := blk_cell B0.out 0 rfl
  have m0 := blk_cell B2.out 0 rfl
  have m1 := blk_cell B2.out 1 rfl
  have L0 := Lib.hid (h.free (Nat.le_refl _))
  have L1 := Lib.hid (h.free (Nat.le_succ w.heap.size))
  have L2 := Lib.hid (h.free (Nat.le_succ_of_le (Nat.le_succ w.heap.size)))
  have HF := Lib.hid ((((Fr.refl (fun _ => False) w).alloc (.cells #[.pointer (some ⟨d.B, 0, none⟩)] 35)).alloc (.cells #[.int .u64 a.id.hi, .int .u64 a.id.lo, .int .u64 a.debit.hi, .int .u64 a.debit.lo, .int .u64 a.credit.hi, .int .u64 a.credit.lo, .int .u64 a.amount.hi, .int .u64 a.amount.lo, .int .u64 a.pending.hi, .int .u64 a.pending.lo, .int .i64 a.timeout, .int .i64 a.ledger, .int .i64 a.code, .int .i64 a.flags, .int .i64 a.stamp, .int .i64 a.born] 40)).alloc (.cells #[.int .u64 m.id.hi, .int .u64 m.id.lo, .int .u64 m.debit.hi, .int .u64 m.debit.lo, .int .u64 m.credit.hi, .int .u64 m.credit.lo, .int .u64 m.amount.hi, .int .u64 m.amount.lo, .int .u64 m.pending.hi, .int .u64 m.pending.lo, .int .i64 m.timeout, .int .i64 m.ledger, .int .i64 m.code, .int .i64 m.flags, .int .i64 m.stamp, .int .i64 m.born] 40))
  have HZ := Lib.hid (show (((w.alloc (.cells #[.pointer (some ⟨d.B, 0, none⟩)] 35)).alloc (.cells #[.int .u64 a.id.hi, .int .u64 a.id.lo, .int .u64 a.debit.hi, .int .u64 a.debit.lo, .int .u64 a.credit.hi, .int .u64 a.credit.lo, .int .u64 a.amount.hi, .int .u64 a.amount.lo, .int .u64 a.pending.hi, .int .u64 a.pending.lo, .int .i64 a.timeout, .int .i64 a.ledger, .int .i64 a.code, .int .i64 a.flags, .int .i64 a.stamp, .int .i64 a.born] 40)).alloc (.cells #[.int .u64 m.id.hi, .int .u64 m.id.lo, .int .u64 m.debit.hi, .int .u64 m.debit.lo, .int .u64 m.credit.hi, .int .u64 m.credit.lo, .int .u64 m.amount.hi, .int .u64 m.amount.lo, .int .u64 m.pending.hi, .int .u64 m.pending.lo, .int .i64 m.timeout, .int .i64 m.ledger, .int .i64 m.code, .int .i64 m.flags, .int .i64 m.stamp, .int .i64 m.born] 40)).heap.size = w.heap.size + 3 from by simp)
  have HLen := Lib.hid (fun W l (h : Sta W l d r es big) => kepLenS W l d r es big h)
  have HGet := Lib.hid (fun W l (h : Sta W l d r es big) => nmGetS W l d r es big m.id h)
  have HStm := Lib.hid (And.intro h0 h1)
  have HLen0 := Lib.hid hlen
  have HFr := Lib.hid hfr
  obtain ⟨ln, hln⟩ : ∃ n : Nat, r.kept.length = n := ⟨_, rfl⟩
  have HLn := Lib.hid hln
  obtain ⟨gi, hgi⟩ : ∃ z : Int, (r.nms m.id).getD 0 = z := ⟨_, rfl⟩
  obtain ⟨gb, hgb⟩ : ∃ z : Bool, (r.nms m.id).isSome = z := ⟨_, rfl⟩
  have HGb := Lib.hid hgb
  rw [hln] at HLen
  rw [hgi, hgb] at HGet
  clear h h0 h1 hlen hln hgi hgb hfr
  by_cases hfull : 96 ≤ ln
  · have hfull2 : (96 : Int) ≤ ln := by omega
    go_enter Tryd.func18, Tryd.ntmps18
    go_wp2_with fail
    refine (HLen.out _ _ HS.out).mono ?_
    rintro e w1 ⟨rfl, rfl⟩
    go_wp2_with fail
    go_ret
    exact ⟨6, lab, r, es, rfl, .full (by rw [HLn.out]; exact hfull), HS.out.more (by omega), .of (Nat.le_refl _) HF.out⟩
  have hfull2 : ¬ (96 : Int) ≤ ln := by omega
  go_enter Tryd.func18, Tryd.ntmps18
  go_wp2_with fail
  refine (HLen.out _ _ HS.out).mono ?_
  rintro e w1 ⟨rfl, rfl⟩
  go_upto_region 5 with fail
  go_cut [9, 10] from 25 (fun v5 v6 w' => v5 = .int .i64 gi ∧ v6 = .bool gb ∧ Fr (fun _ => False) (((w.alloc (.cells #[.pointer (some ⟨d.B, 0, none⟩)] 35)).alloc (.cells #[.int .u64 a.id.hi, .int .u64 a.id.lo, .int .u64 a.debit.hi, .int .u64 a.debit.lo, .int .u64 a.credit.hi, .int .u64 a.credit.lo, .int .u64 a.amount.hi, .int .u64 a.amount.lo, .int .u64 a.pending.hi, .int .u64 a.pending.lo, .int .i64 a.timeout, .int .i64 a.ledger, .int .i64 a.code, .int .i64 a.flags, .int .i64 a.stamp, .int .i64 a.born] 40)).alloc (.cells #[.int .u64 m.id.hi, .int .u64 m.id.lo, .int .u64 m.debit.hi, .int .u64 m.debit.lo, .int .u64 m.credit.hi, .int .u64 m.credit.lo, .int .u64 m.amount.hi, .int .u64 m.amount.lo, .int .u64 m.pending.hi, .int .u64 m.pending.lo, .int .i64 m.timeout, .int .i64 m.ledger, .int .i64 m.code, .int .i64 m.flags, .int .i64 m.stamp, .int .i64 m.born] 40)) w')
  case first =>
    have lm := ld_nm (P := Tryd.prog) (W := (((w.alloc (.cells #[.pointer (some ⟨d.B, 0, none⟩)] 35)).alloc (.cells #[.int .u64 a.id.hi, .int .u64 a.id.lo, .int .u64 a.debit.hi, .int .u64 a.debit.lo, .int .u64 a.credit.hi, .int .u64 a.credit.lo, .int .u64 a.amount.hi, .int .u64 a.amount.lo, .int .u64 a.pending.hi, .int .u64 a.pending.lo, .int .i64 a.timeout, .int .i64 a.ledger, .int .i64 a.code, .int .i64 a.flags, .int .i64 a.stamp, .int .i64 a.born] 40)).alloc (.cells #[.int .u64 m.id.hi, .int .u64 m.id.lo, .int .u64 m.debit.hi, .int .u64 m.debit.lo, .int .u64 m.credit.hi, .int .u64 m.credit.lo, .int .u64 m.amount.hi, .int .u64 m.amount.lo, .int .u64 m.pending.hi, .int .u64 m.pending.lo, .int .i64 m.timeout, .int .i64 m.ledger, .int .i64 m.code, .int .i64 m.flags, .int .i64 m.stamp, .int .i64 m.born] 40)).drew) m0 m1
    go_region_held3 (fun w' => w'.cell? ⟨w.heap.size, 0, none⟩ = some (Value.pointer (some ⟨d.B, 0, none⟩)) ∧ w'.cell? ⟨d.B, 4, none⟩ = some (Value.pointer (some ⟨d.N, 0, none⟩)) ∧ (loadCells ⟨w.heap.size + 1 + 1, 0, none⟩ 2).run Tryd.prog w' = .ok #[.int .u64 m.id.hi, .int .u64 m.id.lo] w')
      (first | exact ⟨s0, c4, lm⟩ | exact ⟨q0, q1, q2⟩ | go_keep)
      (first | (go_at_call 55; go_must (with_reducible refine (HGet.out _ _ HS.out.drew).mono ?_); rintro e w2 ⟨rfl, f2⟩; have q0 := blk_cell (f2.blk (blk_drew B0.out) (fun h => h)) 0 rfl; have q1 := f2.cell (p := ⟨d.B, 4, none⟩) c4 (fun h => h); have b2 := f2.blk (blk_drew B2.out) (fun h => h); have q2 := ld_nm (P := Tryd.prog) (blk_cell b2 0 rfl) (blk_cell b2 1 rfl); have F2 := Lib.hid f2; clear f2 b2))
    go_wp2_with fail
    go_meet
    exact ⟨rfl, rfl, (Fr.refl _ _).drew.then_ F2.out (fun _ h => h.elim)⟩
  case rest =>
  obtain ⟨rfl, rfl, fc⟩ := hcut
  have HSc := Lib.hid (HS.out.fr fc (fun _ h => h.elim))
  have Bc0 := Lib.hid (fc.blk B0.out (fun h => h))
  have Bc1 := Lib.hid (fc.blk B1.out (fun h => h))
  have Bc2 := Lib.hid (fc.blk B2.out (fun h => h))
  have Fc := Lib.hid fc
  have HZc := Lib.hid (show w.heap.size + 3 ≤ wc.heap.size from by have := fc.size; have := HZ.out; omega)
  clear fc s0 c2 c4 m0 m1
  by_cases hgt : gb = true
  · subst hgt
    go_wp2_with fail
    go_ret
    exact ⟨1, lab, r, es, rfl, .there (by rw [HLn.out]; omega) HGb.out, HSc.out.more (by omega), .of (Nat.le_refl _) (HF.out.then_ Fc.out (fun _ h => h.elim))⟩
  have HNone := Lib.hid (show r.nms m.id = none from by have := HGb.out; cases hx : r.nms m.id with | none => rfl | some v => rw [hx] at this; exact absurd this.symm hgt)
  obtain rfl : gb = false := by simpa using hgt
  clear hgt
  go_upto_region 8 with fail
  obtain ⟨w1, hw1⟩ : ∃ W, W = wc := ⟨_, rfl⟩
  subst hw1
  go_cut [11] from 25 (fun v11 w' => v11 = .pointer (some ⟨w1.heap.size, 0, none⟩) ∧ w'.heap[w1.heap.size]? = some (.cells #[.int .u64 a.id.hi, .int .u64 a.id.lo, .int .u64 a.debit.hi, .int .u64 a.debit.lo, .int .u64 a.credit.hi, .int .u64 a.credit.lo, .int .u64 a.amount.hi, .int .u64 a.amount.lo, .int .u64 a.pending.hi, .int .u64 a.pending.lo, .int .i64 a.timeout, .int .i64 a.ledger, .int .i64 a.code, .int .i64 a.flags, .int .i64 a.stamp, .int .i64 a.born, .int .u64 m.id.hi, .int .u64 m.id.lo, .int .u64 m.debit.hi, .int .u64 m.debit.lo, .int .u64 m.credit.hi, .int .u64 m.credit.lo, .int .u64 m.amount.hi, .int .u64 m.amount.lo, .int .u64 m.pending.hi, .int .u64 m.pending.lo, .int .i64 m.timeout, .int .i64 m.ledger, .int .i64 m.code, .int .i64 m.flags, .int .i64 m.stamp, .int .i64 m.born, .int .i64 0] 63 (0, 0)) ∧ Fr (fun _ => False) w1 w')
  case first =>
    have la := ld_row (P := Tryd.prog) (w.heap.size + 1) #[.int .u64 a.id.hi, .int .u64 a.id.lo, .int .u64 a.debit.hi, .int .u64 a.debit.lo, .int .u64 a.credit.hi, .int .u64 a.credit.lo, .int .u64 a.amount.hi, .int .u64 a.amount.lo, .int .u64 a.pending.hi, .int .u64 a.pending.lo, .int .i64 a.timeout, .int .i64 a.ledger, .int .i64 a.code, .int .i64 a.flags, .int .i64 a.stamp, .int .i64 a.born] (n := 16) rfl Bc1.out
    have lm := ld_row (P := Tryd.prog) (w.heap.size + 1 + 1) #[.int .u64 m.id.hi, .int .u64 m.id.lo, .int .u64 m.debit.hi, .int .u64 m.debit.lo, .int .u64 m.credit.hi, .int .u64 m.credit.lo, .int .u64 m.amount.hi, .int .u64 m.amount.lo, .int .u64 m.pending.hi, .int .u64 m.pending.lo, .int .i64 m.timeout, .int .i64 m.ledger, .int .i64 m.code, .int .i64 m.flags, .int .i64 m.stamp, .int .i64 m.born] (n := 16) rfl Bc2.out
    have HN := Lib.hid (heap_alloc_new w1 (.cells #[.int .u64 0, .int .u64 0, .int .u64 0, .int .u64 0, .int .u64 0, .int .u64 0, .int .u64 0, .int .u64 0, .int .u64 0, .int .u64 0, .int .i64 0, .int .i64 0, .int .i64 0, .int .i64 0, .int .i64 0, .int .i64 0, .int .u64 0, .int .u64 0, .int .u64 0, .int .u64 0, .int .u64 0, .int .u64 0, .int .u64 0, .int .u64 0, .int .u64 0, .int .u64 0, .int .i64 0, .int .i64 0, .int .i64 0, .int .i64 0, .int .i64 0, .int .i64 0, .int .i64 0] 63))
    go_wp2_with (first | ((refine wpList_store_row rfl 63 (.tmp 11) (.tmp 38) rfl w1.heap.size #[.int .u64 a.id.hi, .int .u64 a.id.lo, .int .u64 a.debit.hi, .int .u64 a.debit.lo, .int .u64 a.credit.hi, .int .u64 a.credit.lo, .int .u64 a.amount.hi, .int .u64 a.amount.lo, .int .u64 a.pending.hi, .int .u64 a.pending.lo, .int .i64 a.timeout, .int .i64 a.ledger, .int .i64 a.code, .int .i64 a.flags, .int .i64 a.stamp, .int .i64 a.born, .int .u64 m.id.hi, .int .u64 m.id.lo, .int .u64 m.debit.hi, .int .u64 m.debit.lo, .int .u64 m.credit.hi, .int .u64 m.credit.lo, .int .u64 m.amount.hi, .int .u64 m.amount.lo, .int .u64 m.pending.hi, .int .u64 m.pending.lo, .int .i64 m.timeout, .int .i64 m.ledger, .int .i64 m.code, .int .i64 m.flags, .int .i64 m.stamp, .int .i64 m.born, .int .i64 0] rfl rfl HN.out rfl rfl (by simp [Value.oneCell']) ?_); intro w9 hb9 f9; have HB9 := Lib.hid hb9; have F9 := Lib.hid f9; clear hb9 f9) | fail)
    go_meet
    exact ⟨rfl, HB9.out, ((Fr.refl _ _).alloc _).then_ F9.out (fun k hk => .inr (by omega))⟩
  case rest =>
  obtain ⟨rfl, bk, f2⟩ := hcut
  obtain ⟨F, hF⟩ : ∃ F : Int, (if wt then 1 else 0) = F := ⟨_, rfl⟩
  have HFt := Lib.hid hF
  obtain ⟨w2, hw2⟩ : ∃ W, W = wc := ⟨_, rfl⟩
  subst hw2
  have HSd := Lib.hid (HSc.out.fr f2 (fun _ h => h.elim))
  have Bd0 := Lib.hid (f2.blk Bc0.out (fun h => h))
  have Bd2 := Lib.hid (f2.blk Bc2.out (fun h => h))
  have Bk := Lib.hid bk
  have LK := Lib.hid (show lab w1.heap.size = 0 from HSc.out.free (Nat.le_refl _))
  have F2 := Lib.hid (HF.out.then_ (Fc.out.then_ f2 (fun _ h => h.elim)) (fun _ h => h.elim))
  have HZd := Lib.hid (show w1.heap.size < w2.heap.size from blk_lt bk)
  clear f2 bk hF
  go_upto_if 39 with fail
  go_cut [] from 39 (fun w' => w'.heap[w1.heap.size]? = some (.cells #[.int .u64 a.id.hi, .int .u64 a.id.lo, .int .u64 a.debit.hi, .int .u64 a.debit.lo, .int .u64 a.credit.hi, .int .u64 a.credit.lo, .int .u64 a.amount.hi, .int .u64 a.amount.lo, .int .u64 a.pending.hi, .int .u64 a.pending.lo, .int .i64 a.timeout, .int .i64 a.ledger, .int .i64 a.code, .int .i64 a.flags, .int .i64 a.stamp, .int .i64 a.born, .int .u64 m.id.hi, .int .u64 m.id.lo, .int .u64 m.debit.hi, .int .u64 m.debit.lo, .int .u64 m.credit.hi, .int .u64 m.credit.lo, .int .u64 m.amount.hi, .int .u64 m.amount.lo, .int .u64 m.pending.hi, .int .u64 m.pending.lo, .int .i64 m.timeout, .int .i64 m.ledger, .int .i64 m.code, .int .i64 m.flags, .int .i64 m.stamp, .int .i64 m.born, .int .i64 F] 63 (0, 0)) ∧ Fr (fun k => k = w1.heap.size) w2 w')
  case first =>
    have z32 := blk_free Bk.out 32
    have k32 := blk_cell Bk.out 32 rfl
    cases wt
    · go_wp2_with fail
      go_meet
      exact ⟨by rw [← HFt.out]; exact Bk.out, Fr.refl _ _⟩
    · go_wp2_with fail
      go_meet
      exact ⟨by rw [← HFt.out]; exact blk_set Bk.out 32 (.int .i64 1), (Fr.refl (fun k => k = w1.heap.size) w2).set1 _⟩
  case rest =>
  obtain ⟨bk, f3⟩ := hcut
  obtain ⟨w3, hw3⟩ : ∃ W, W = wc := ⟨_, rfl⟩
  subst hw3
  have HSe := Lib.hid (HSd.out.fr f3 (fun k hk => by rw [hk]; exact LK.out))
  have OE := Lib.hid (show KOwn w3 lab d m ⟨a, m, F⟩ w.heap.size (w.heap.size + 1 + 1) w1.heap.size from ⟨f3.blk Bd0.out (fun e => by have := HZc.out; omega), f3.blk Bd2.out (fun e => by have := HZc.out; omega), bk, .inl L0.out, .inl L2.out, .inl LK.out⟩)
  have PE := Lib.hid ((Stp.of (Nat.le_refl _) F2.out : Stp w.heap.size w lab w2 lab).frs f3 (fun k hk => by have := HZc.out; omega))
  have hdB : d.B < w1.heap.size := HSc.out.lt d.B (by rw [HSc.out.labB]; decide)
  have hw01 : w.heap.size < w1.heap.size := by have := HZc.out; omega
  have HZe := Lib.hid (show w1.heap.size < w3.heap.size from blk_lt bk)
  clear f3 bk
  go_upto_region 11 with fail
  go_cut [] from 39 (fun w' => ∃ lab' b, Sta w' lab' d { r with stamp := r.stamp + 1 } (.stDec b :: es) (big + 1) ∧ Stp w.heap.size w lab w' lab' ∧ KOwn w' lab' d m (kept1 a m wt (r.stamp + 1) r.clock) w.heap.size (w.heap.size + 1 + 1) w1.heap.size)
  case first =>
    have HNx := Lib.hid (nextS w3.drew lab d r es big HSe.out.drew (by omega) HStm.out.1 HStm.out.2)
    have s0 := blk_cell OE.out.b0 0 rfl
    have c7 := HSe.out.cells.2.2.2.2.1
    go_region_held3 (fun w' => w'.cell? ⟨w.heap.size, 0, none⟩ = some (Value.pointer (some ⟨d.B, 0, none⟩)) ∧ w'.cell? ⟨d.B, 7, none⟩ = some (Value.int .i64 r.clock))
      (first | exact ⟨s0, c7⟩ | exact ⟨q0, q7⟩ | exact ⟨q0x, q7x⟩ | exact ⟨q0y, q7y⟩ | go_keep)
      (first | (go_at_call 56; go_must (with_reducible refine HNx.out.mono ?_); rintro e w4 ⟨rfl, lab4, b6, h4, p4⟩; have o4 := OE.out.fr (Fr.refl _ w3).drew |>.stp p4; have q0 := blk_cell o4.b0 0 rfl; have q7 : w4.cell? ⟨d.B, 7, none⟩ = some (Value.int .i64 r.clock) := h4.cells.2.2.2.2.1; have k30 := blk_cell o4.bk 30 rfl; have k31 := blk_cell o4.bk 31 rfl; have z30 := blk_free o4.bk 30; have z31 := blk_free o4.bk 31; have l4 : lab4 w1.heap.size = 0 := (by rw [p4.lx _ HZe.out]; exact LK.out); have hst := o4.stamped (Nat.ne_of_lt hw01) (by have := HZc.out; omega) (r.stamp + 1) r.clock; have h41 := h4.set l4 (.int .i64 (r.stamp + 1)) (j := 30); have q0x := blk_cell (blk_far2 o4.b0 (j := 30) (Nat.ne_of_lt hw01) (.int .i64 (r.stamp + 1))) 0 rfl; have q7x : (w4.setCell ⟨w1.heap.size, 30, none⟩ (.int .i64 (r.stamp + 1))).cell? ⟨d.B, 7, none⟩ = some (Value.int .i64 r.clock) := h41.cells.2.2.2.2.1; have q0y := blk_cell hst.b0 0 rfl; have q7y : ((w4.setCell ⟨w1.heap.size, 30, none⟩ (.int .i64 (r.stamp + 1))).setCell ⟨w1.heap.size, 31, none⟩ (.int .i64 r.clock)).cell? ⟨d.B, 7, none⟩ = some (Value.int .i64 r.clock) := (h41.set l4 (.int .i64 r.clock) (j := 31)).cells.2.2.2.2.1; have HSt4 := Lib.hid hst; have HL4 := Lib.hid l4; clear hst h41 l4; have H4 := Lib.hid h4; have P4 := Lib.hid p4; have O4 := Lib.hid o4; clear h4 p4 o4))
    all_goals
      go_wp2_with fail
      go_meet
      have l4 := HL4.out
      refine ⟨lab4, b6, (H4.out.set l4 _).set l4 _, ((((PE.out.fr_ (Fr.refl _ _).drew).then_ P4.out PE.out.fr.size HSe.out.lt).set (by omega) _).set (by omega) _), ?_⟩
      unfold kept1
      rw [HFt.out]
      exact HSt4.out
  case rest =>
  obtain ⟨lab4, b6, h4, p4, o4⟩ := hcut
  obtain ⟨kp, hkp⟩ : ∃ k, kept1 a m wt (r.stamp + 1) r.clock = k := ⟨_, rfl⟩
  rw [hkp] at o4
  have HKs := Lib.hid (show kp.move.stamp = r.stamp + 1 from by rw [← hkp]; rfl)
  have HKp := Lib.hid hkp
  obtain ⟨w4, hw4⟩ : ∃ W, W = wc := ⟨_, rfl⟩
  subst hw4
  have H4 := Lib.hid h4
  have P4 := Lib.hid p4
  have O4 := Lib.hid o4
  clear h4 p4 o4 hkp
  go_upto_region 12 with fail
  go_cut [12] from 39 (fun v12 w' => v12 = .int .i64 ln ∧ ∃ lab' b4 b5, Sta w' lab' d { r with stamp := r.stamp + 1, kept := r.kept ++ [kp] } (.kepCut b4 b5 ln :: .stDec b6 :: es) (big + 1 + 1) ∧ Stp w.heap.size w lab w' lab' ∧ KOwn w' lab' d m kp w.heap.size (w.heap.size + 1 + 1) w1.heap.size)
  case first =>
    have hA := kepAddS w4.drew lab4 d _ _ _ kp H4.out.drew (by show r.kept.length ≤ _; have := HLen0.out; omega) (by omega)
    rw [show ({ r with stamp := r.stamp + 1 } : Raw).kept.length = ln from HLn.out] at hA
    have HAdd := Lib.hid hA
    have s0 := blk_cell O4.out.b0 0 rfl
    have c2 := H4.out.cells.2.1
    have lk := ld_row (P := Tryd.prog) (W := w4.drew) w1.heap.size kp.cells.toArray (n := 33) rfl (blk_drew O4.out.bk)
    clear hA
    go_region_held3 (fun w' => w'.cell? ⟨w.heap.size, 0, none⟩ = some (Value.pointer (some ⟨d.B, 0, none⟩)) ∧ w'.cell? ⟨d.B, 2, none⟩ = some (Value.pointer (some ⟨d.K, 0, none⟩)) ∧ (loadCells ⟨w1.heap.size, 0, none⟩ 33).run Tryd.prog w' = .ok kp.cells.toArray w')
      (first | exact ⟨s0, c2, lk⟩ | exact ⟨q0, q2, qk⟩ | go_keep)
      (first | (go_at_call 63; go_must (with_reducible refine HAdd.out.mono ?_); rintro e w5 ⟨rfl, lab5, h5, p5⟩; have o5 := O4.out.fr (Fr.refl _ w4).drew |>.stp p5; have q0 := blk_cell o5.b0 0 rfl; have q2 := h5.cells.2.1; have qk := ld_row (P := Tryd.prog) (W := w5) w1.heap.size kp.cells.toArray (n := 33) rfl o5.bk; have H5 := Lib.hid h5; have P5 := Lib.hid p5; have O5 := Lib.hid o5; clear h5 p5 o5))
    go_wp2_with fail
    go_meet
    exact ⟨rfl, lab5, _, _, H5.out, (P4.out.fr_ (Fr.refl _ _).drew).then_ P5.out P4.out.fr.size H4.out.lt, O5.out⟩
  case rest =>
  obtain ⟨rfl, lab5, b4, b5, h5, p5, o5⟩ := hcut
  obtain ⟨w5, hw5⟩ : ∃ W, W = wc := ⟨_, rfl⟩
  subst hw5
  have H5 := Lib.hid h5
  have P5 := Lib.hid p5
  have O5 := Lib.hid o5
  clear h5 p5 o5
  go_upto_region 13 with fail
  go_cut [] from 39 (fun w' => ∃ lab', Sta w' lab' d { r with stamp := r.stamp + 1, kept := r.kept ++ [kp], nms := upd r.nms m.id (some (ln : Int)) } (.kepCut b4 b5 ln :: .stDec b6 :: es) (big + 1 + 1 + 1) ∧ Stp w.heap.size w lab w' lab' ∧ KOwn w' lab' d m kp w.heap.size (w.heap.size + 1 + 1) w1.heap.size)
  case first =>
    have HPut := Lib.hid (nmPutS w5.drew lab5 d _ _ _ m.id ln H5.out.drew (by omega))
    have s0 := blk_cell O5.out.b0 0 rfl
    have c4 := H5.out.cells.2.2.2.1
    have lm := ld_nm (P := Tryd.prog) (W := w5.drew) (blk_cell O5.out.bm 0 rfl) (blk_cell O5.out.bm 1 rfl)
    go_region_held3 (fun w' => w'.cell? ⟨w.heap.size, 0, none⟩ = some (Value.pointer (some ⟨d.B, 0, none⟩)) ∧ w'.cell? ⟨d.B, 4, none⟩ = some (Value.pointer (some ⟨d.N, 0, none⟩)) ∧ (loadCells ⟨w.heap.size + 1 + 1, 0, none⟩ 2).run Tryd.prog w' = .ok #[.int .u64 m.id.hi, .int .u64 m.id.lo] w')
      (first | exact ⟨s0, c4, lm⟩ | exact ⟨q0, q4, qm⟩ | go_keep)
      (first | (go_at_call 57; go_must (with_reducible refine HPut.out.mono ?_); rintro e w6 ⟨rfl, lab6, h6, p6⟩; have o6 := O5.out.fr (Fr.refl _ w5).drew |>.stp p6; have q0 := blk_cell o6.b0 0 rfl; have q4 := h6.cells.2.2.2.1; have qm := ld_nm (P := Tryd.prog) (W := w6) (blk_cell o6.bm 0 rfl) (blk_cell o6.bm 1 rfl); have H6 := Lib.hid h6; have P6 := Lib.hid p6; have O6 := Lib.hid o6; clear h6 p6 o6))
    go_wp2_with fail
    go_meet
    exact ⟨lab6, H6.out, (P5.out.fr_ (Fr.refl _ _).drew).then_ P6.out P5.out.fr.size H5.out.lt, O6.out⟩
  case rest =>
  obtain ⟨lab6, h6, p6, o6⟩ := hcut
  obtain ⟨w6, hw6⟩ : ∃ W, W = wc := ⟨_, rfl⟩
  subst hw6
  have H6 := Lib.hid h6
  have P6 := Lib.hid p6
  have O6 := Lib.hid o6
  clear h6 p6 o6
  go_upto_region 14 with fail
  go_cut [] from 39 (fun w' => ∃ lab', Sta w' lab' d { r with stamp := r.stamp + 1, kept := r.kept ++ [kp], nms := upd r.nms m.id (some (ln : Int)), sts := upd r.sts (r.stamp + 1) (some (ln : Int)) } (.kepCut b4 b5 ln :: .stDec b6 :: es) (big + 1 + 1 + 1 + 1) ∧ Stp w.heap.size w lab w' lab' ∧ KOwn w' lab' d m kp w.heap.size (w.heap.size + 1 + 1) w1.heap.size)
  case first =>
    have HPut := Lib.hid (stsPutS w6.drew lab6 d _ _ _ (r.stamp + 1) ln H6.out.drew (by omega))
    have s0 := blk_cell O6.out.b0 0 rfl
    have k30 : w6.cell? ⟨w1.heap.size, 30, none⟩ = some (Value.int .i64 (r.stamp + 1)) := by rw [← HKs.out]; exact blk_cell O6.out.bk 30 rfl
    go_region_held3 (fun w' => w'.cell? ⟨w.heap.size, 0, none⟩ = some (Value.pointer (some ⟨d.B, 0, none⟩)) ∧ w'.cell? ⟨w1.heap.size, 30, none⟩ = some (Value.int .i64 (r.stamp + 1)))
      (first | exact ⟨s0, k30⟩ | exact ⟨q0, q30⟩ | go_keep)
      (first | (go_at_call 64; go_must (with_reducible refine HPut.out.mono ?_); rintro e w7 ⟨rfl, lab7, h7, p7⟩; have o7 := O6.out.fr (Fr.refl _ w6).drew |>.stp p7; have q0 := blk_cell o7.b0 0 rfl; have q30 : w7.cell? ⟨w1.heap.size, 30, none⟩ = some (Value.int .i64 (r.stamp + 1)) := (by rw [← HKs.out]; exact blk_cell o7.bk 30 rfl); have H7 := Lib.hid h7; have P7 := Lib.hid p7; have O7 := Lib.hid o7; clear h7 p7 o7))
    go_wp2_with fail
    go_meet
    exact ⟨lab7, H7.out, (P6.out.fr_ (Fr.refl _ _).drew).then_ P7.out P6.out.fr.size H6.out.lt, O7.out⟩
  case rest =>
  obtain ⟨lab7, h7, p7, o7⟩ := hcut
  obtain ⟨w7, hw7⟩ : ∃ W, W = wc := ⟨_, rfl⟩
  subst hw7
  have HK := Lib.hid (show Calls Tryd.prog 58 #[.pointer (some ⟨d.B, 0, none⟩), .func (.func 65) #[] #[.pointer (some ⟨w.heap.size, 0, none⟩), .pointer (some ⟨w.heap.size + 1 + 1, 0, none⟩), .pointer (some ⟨w1.heap.size, 0, none⟩)]] w7 _ from keepS _ _ d _ _ _ w.heap.size (.nmDrop w.heap.size (w.heap.size + 1 + 1) w1.heap.size m kp) h7 ⟨o7.b0, o7.bm, o7.bk⟩ (fun k hk => by
    rcases hk with rfl | rfl | rfl
    · exact ⟨Nat.le_refl _, blk_lt o7.b0, o7.l0⟩
    · exact ⟨by omega, blk_lt o7.bm, o7.lm⟩
    · exact ⟨by omega, blk_lt o7.bk, o7.lk⟩) p7.fr.size (by omega))
  have H7 := Lib.hid h7
  have P7 := Lib.hid p7
  have O7 := Lib.hid o7
  have s0 := blk_cell o7.b0 0 rfl
  clear h7 p7 o7
  go_wp2_with fail
  refine HK.out.mono ?_
  rintro e w8 ⟨rfl, lab8, h8, p8⟩
  have o8 := O7.out.stp p8
  have H8 := Lib.hid h8
  have P8 := Lib.hid (P7.out.then_ p8 (Nat.le_refl _) H7.out.lt)
  have O8 := Lib.hid o8
  have lk := ld_row (P := Tryd.prog) (W := w8) w1.heap.size kp.cells.toArray (n := 33) rfl o8.bk
  have HDu := Lib.hid (due_any w8 kp)
  obtain ⟨x, hx⟩ : ∃ x, kp.itm = x := ⟨_, rfl⟩
  have HXs := Lib.hid (show x.stamp = r.stamp + 1 from by rw [← hx]; exact HKs.out)
  have HX := Lib.hid hx
  rw [hx] at HDu
  clear h8 p8 o8 s0 hx
  go_wp2_with fail
  refine HDu.out.mono ?_
  rintro e w9 ⟨rfl, f9⟩
  have H9 := Lib.hid (H8.out.fr f9 (fun _ h => h.elim))
  have P9 := Lib.hid (P8.out.fr_ f9)
  have O9 := Lib.hid (O8.out.fr f9)
  clear f9 lk
  cases hd : dueB kp
  · go_wp2_with fail
    go_ret
    have hkp := HKp.out
    have hln := HLn.out
    subst hln
    subst hkp
    exact ⟨0, lab8, _, _, rfl, .rests (by omega) HNone.out hd _ _ _ _ _ _, (H9.out.alloc _).more (by omega), P9.out.fr_ ((Fr.refl _ _).alloc _)⟩
  go_upto_region 18 with fail
  obtain ⟨wx, hwx⟩ : ∃ W, w9.alloc (.cells #[.int .i64 x.due, .int .i64 x.stamp, .int .u64 x.id.hi, .int .u64 x.id.lo] 113) = W := ⟨_, rfl⟩
  have Bx := Lib.hid (show wx.heap[w9.heap.size]? = some (.cells x.cells.toArray 113 (0, 0)) from by rw [← hwx]; exact heap_alloc_new w9 _)
  have Hx := Lib.hid (show Sta wx lab8 d _ _ _ from by rw [← hwx]; exact H9.out.alloc _)
  have Px := Lib.hid (show Stp w.heap.size w lab wx lab8 from by rw [← hwx]; exact P9.out.fr_ ((Fr.refl _ _).alloc _))
  have Ox := Lib.hid (show KOwn wx lab8 d m kp w.heap.size (w.heap.size + 1 + 1) w1.heap.size from by rw [← hwx]; exact O9.out.fr ((Fr.refl _ _).alloc _))
  have LX := Lib.hid (show lab8 w9.heap.size = 0 from H9.out.free (Nat.le_refl _))
  (try rw [hwx])
  clear hwx
  have HPut := Lib.hid (ensPutS wx.drew lab8 d _ _ _ x Hx.out.drew (by omega) (by rw [HXs.out]; exact HFr.out))
  have s0 := blk_cell Ox.out.b0 0 rfl
  have lx := ld_row (P := Tryd.prog) (W := wx.drew) w9.heap.size #[.int .i64 x.due, .int .i64 x.stamp, .int .u64 x.id.hi, .int .u64 x.id.lo] (n := 4) rfl (blk_drew Bx.out)
  go_region_held3 (fun w' => w'.cell? ⟨w.heap.size, 0, none⟩ = some (Value.pointer (some ⟨d.B, 0, none⟩)) ∧ (loadCells ⟨w9.heap.size, 0, none⟩ 4).run Tryd.prog w' = .ok #[.int .i64 x.due, .int .i64 x.stamp, .int .u64 x.id.hi, .int .u64 x.id.lo] w')
    (first | exact ⟨s0, lx⟩ | exact ⟨q0, qx⟩ | go_keep)
    (first | (go_at_call 68; go_must (with_reducible refine HPut.out.mono ?_); rintro e w10 ⟨rfl, lab10, h10, p10⟩; have o10 := Ox.out.fr (Fr.refl _ wx).drew |>.stp p10; have b10 := p10.blk (blk_drew Bx.out) (.inl LX.out); have q0 := blk_cell o10.b0 0 rfl; have qx := ld_row (P := Tryd.prog) (W := w10) w9.heap.size #[.int .i64 x.due, .int .i64 x.stamp, .int .u64 x.id.hi, .int .u64 x.id.lo] (n := 4) rfl b10.1; have H10 := Lib.hid h10; have P10 := Lib.hid ((Px.out.fr_ (Fr.refl _ _).drew).then_ p10 Px.out.fr.size Hx.out.lt); have O10 := Lib.hid o10; have B10 := Lib.hid b10; clear h10 p10 o10 b10))
  clear s0 lx q0 qx
  have HK := Lib.hid (show Calls Tryd.prog 58 #[.pointer (some ⟨d.B, 0, none⟩), .func (.func 69) #[] #[.pointer (some ⟨w.heap.size, 0, none⟩), .pointer (some ⟨w9.heap.size, 0, none⟩)]] w10 _ from keepS _ _ d _ _ _ w.heap.size (.enDrop w.heap.size w9.heap.size x) H10.out ⟨O10.out.b0, B10.out.1⟩ (fun k hk => by
    rcases hk with rfl | rfl
    · exact ⟨Nat.le_refl _, blk_lt O10.out.b0, O10.out.l0⟩
    · exact ⟨by have := blk_lt Ox.out.b0; have := P9.out.fr.size; omega, blk_lt B10.out.1, B10.out.2⟩) P10.out.fr.size (by omega))
  have s0 := blk_cell O10.out.b0 0 rfl
  go_wp2_with fail
  refine HK.out.mono ?_
  rintro e w11 ⟨rfl, lab11, h11, p11⟩
  have H11 := Lib.hid h11
  have P11 := Lib.hid (P10.out.then_ p11 (Nat.le_refl _) H10.out.lt)
  clear h11 p11
  go_wp2_with fail
  go_ret
  have hkp := HKp.out
  have hln := HLn.out
  have hx := HX.out
  have hxs := HXs.out
  have h11 := H11.out
  rw [hxs] at h11
  subst hln
  subst hx
  subst hkp
  exact ⟨0, lab11, _, _, rfl, .waits (by omega) HNone.out hd _ _ _ _ _ _ _ _, h11, P11.out⟩
end Go.Proofs.YtjchjpmgbmeohaaDoor

/- Books: all accounts, all transfers. -/
set_option linter.unusedSimpArgs false
set_option linter.unusedVariables false
namespace Go.Proofs.YtjchjpmgbmeohaaDoor
open Go.RowKit

theorem acc_one (a : Acc) : ∀ u ∈ a.cells, u.oneCell' = true := by simp [Acc.cells, Value.oneCell']
theorem kp_one (a : Kp) : ∀ u ∈ a.cells, u.oneCell' = true := by simp [Kp.cells, Tx.cells, Value.oneCell']
theorem src_own {P : Program} {w : World} {et tx e' : TypeId} {sz n : Nat} {v : Value} {vs : List Value} (hk : P.underlying tx = some (.slice e')) (h : w.ownsRow 0 et sz v n vs) (h1 : ∀ u ∈ vs, u.oneCell' = true) : Src P sz tx v n vs w := by
  rcases h.2 with ⟨rfl, rfl⟩ | ⟨g, cap, cur, rfl, r⟩
  · obtain rfl : vs = [] := List.eq_nil_of_length_eq_zero (by simpa using h.1)
    exact Src.ofNil w hk 0
  · exact Src.ofSlice w hk _ _ _ _ h.1 (h.cells rfl) h1
/-- The end of a slice. -/
theorem accAll (w : World) (S : Nat → Prop) (L B : Nat) (xs : List Acc) (h : AccL w S L B xs) (hn : xs.length ≤ 100000) :
    Calls Tryd.prog 71 #[.pointer (some ⟨L, 0, none⟩)] w fun e w' => ∃ g cap, e = .returned (.slice g xs.length cap) ∧ w'.ownsRow 0 26 14 (.slice g xs.length cap) xs.length (xs.flatMap Acc.cells) ∧ (∀ k, (Value.slice g xs.length cap).ownBlock = some k → w.heap.size ≤ k) ∧ Fr (fun _ => False) w w' := by
  obtain ⟨i0, hi, hz0, hz1, hz2⟩ := info_parts Tryd.infoAcc
  obtain ⟨v, hb, ho, -, -, -⟩ := h
  have c0 := blk_cell hb 0 rfl
  have HS := Lib.hid (src_own (P := Tryd.prog) (tx := 42) Tryd.underlying42 ho (fun u hu => by obtain ⟨x, -, hx⟩ := List.mem_flatMap.1 hu; exact acc_one x u hx))
  clear hb ho
  go_enter Tryd.func71, Tryd.ntmps71
  go_wp2_with (at_builtin; go_must (refine wpList_append_src w rfl (.const (.slice none 0 0)) (.tmp 8) 42 42 rfl 26 i0 (.agg #[.int .u64 0, .int .u64 0, .int .u64 0, .int .u64 0, .int .u64 0, .int .u64 0, .int .u64 0, .int .u64 0, .int .u64 0, .int .u64 0, .int .i64 0, .int .i64 0, .int .i64 0, .int .i64 0]) 14 112 Tryd.underlying42 hi hz0 hz1 hz2 rfl (by decide) (.slice none 0 0) 0 [] rfl (World.ownsRow_nil _ _ _ _) v xs.length _ rfl HS.out (by omega) (by omega) ?_; intro g2 cap2 w2 hown2 hf2 hat2; have HO := Lib.hid hown2; have HF := Lib.hid hf2; have HT := Lib.hid hat2; clear hown2 hf2 hat2))
  go_ret
  have ho := HO.out
  have ht := HT.out
  rw [Nat.zero_add, List.nil_append] at ho
  rw [Nat.zero_add] at ht
  (try rw [Nat.zero_add])
  exact ⟨g2, cap2, rfl, ho, fun k hk => (ht k hk).resolve_left (fun h => by cases h), HF.out.mono (fun k hk => by cases hk)⟩
theorem kepAll (w : World) (S : Nat → Prop) (L B : Nat) (xs : List Kp) (h : KepL w S L B xs) (hn : xs.length ≤ 100000) :
    Calls Tryd.prog 72 #[.pointer (some ⟨L, 0, none⟩)] w fun e w' => ∃ g cap, e = .returned (.slice g xs.length cap) ∧ w'.ownsRow 0 63 33 (.slice g xs.length cap) xs.length (xs.flatMap Kp.cells) ∧ (∀ k, (Value.slice g xs.length cap).ownBlock = some k → w.heap.size ≤ k) ∧ Fr (fun _ => False) w w' := by
  obtain ⟨i0, hi, hz0, hz1, hz2⟩ := info_parts Tryd.infoKep
  obtain ⟨v, hb, ho, -, -, -⟩ := h
  have c0 := blk_cell hb 0 rfl
  have HS := Lib.hid (src_own (P := Tryd.prog) (tx := 44) Tryd.underlying44 ho (fun u hu => by obtain ⟨x, -, hx⟩ := List.mem_flatMap.1 hu; exact kp_one x u hx))
  clear hb ho
  go_enter Tryd.func72, Tryd.ntmps72
  go_wp2_with (at_builtin; go_must (refine wpList_append_src w rfl (.const (.slice none 0 0)) (.tmp 8) 44 44 rfl 63 i0 (.agg #[.int .u64 0, .int .u64 0, .int .u64 0, .int .u64 0, .int .u64 0, .int .u64 0, .int .u64 0, .int .u64 0, .int .u64 0, .int .u64 0, .int .i64 0, .int .i64 0, .int .i64 0, .int .i64 0, .int .i64 0, .int .i64 0, .int .u64 0, .int .u64 0, .int .u64 0, .int .u64 0, .int .u64 0, .int .u64 0, .int .u64 0, .int .u64 0, .int .u64 0, .int .u64 0, .int .i64 0, .int .i64 0, .int .i64 0, .int .i64 0, .int .i64 0, .int .i64 0, .int .i64 0]) 33 264 Tryd.underlying44 hi hz0 hz1 hz2 rfl (by decide) (.slice none 0 0) 0 [] rfl (World.ownsRow_nil _ _ _ _) v xs.length _ rfl HS.out (by omega) (by omega) ?_; intro g2 cap2 w2 hown2 hf2 hat2; have HO := Lib.hid hown2; have HF := Lib.hid hf2; have HT := Lib.hid hat2; clear hown2 hf2 hat2))
  go_ret
  have ho := HO.out
  have ht := HT.out
  rw [Nat.zero_add, List.nil_append] at ho
  rw [Nat.zero_add] at ht
  (try rw [Nat.zero_add])
  exact ⟨g2, cap2, rfl, ho, fun k hk => (ht k hk).resolve_left (fun h => by cases h), HF.out.mono (fun k hk => by cases hk)⟩
theorem accountsS (w : World) (lab : Nat → Nat) (d : Dd) (r : Raw) (es : List Ent) (big : Nat) (h : Sta w lab d r es big) (hn : r.accs.length ≤ 100000) :
    Calls Tryd.prog 19 #[.pointer (some ⟨d.B, 0, none⟩)] w fun e w' => ∃ g cap, e = .returned (.slice g r.accs.length cap) ∧ w'.ownsRow 0 26 14 (.slice g r.accs.length cap) r.accs.length (r.accs.flatMap Acc.cells) ∧ (∀ k, (Value.slice g r.accs.length cap).ownBlock = some k → w.heap.size ≤ k) ∧ Fr (fun _ => False) w w' := by
  have HA := Lib.hid (accAll w _ d.A d.B r.accs h.acc hn)
  obtain ⟨c1, c2, -, -, -, -, -, -⟩ := h.cells
  clear h
  go_enter Tryd.func19, Tryd.ntmps19
  go_wp2_with fail
  refine HA.out.mono ?_
  rintro e w2 ⟨g, cap, rfl, ho, ht, hf⟩
  have HO := Lib.hid ho; have HT := Lib.hid ht; have HF := Lib.hid hf
  clear ho ht hf
  go_wp2_with fail
  go_ret
  exact ⟨g, cap, rfl, HO.out, HT.out, HF.out⟩
theorem keepsS (w : World) (lab : Nat → Nat) (d : Dd) (r : Raw) (es : List Ent) (big : Nat) (h : Sta w lab d r es big) (hn : r.kept.length ≤ 100000) :
    Calls Tryd.prog 20 #[.pointer (some ⟨d.B, 0, none⟩)] w fun e w' => ∃ g cap, e = .returned (.slice g r.kept.length cap) ∧ w'.ownsRow 0 63 33 (.slice g r.kept.length cap) r.kept.length (r.kept.flatMap Kp.cells) ∧ (∀ k, (Value.slice g r.kept.length cap).ownBlock = some k → w.heap.size ≤ k) ∧ Fr (fun _ => False) w w' := by
  have HA := Lib.hid (kepAll w _ d.K d.B r.kept h.kep hn)
  obtain ⟨c1, c2, -, -, -, -, -, -⟩ := h.cells
  clear h
  go_enter Tryd.func20, Tryd.ntmps20
  go_wp2_with fail
  refine HA.out.mono ?_
  rintro e w2 ⟨g, cap, rfl, ho, ht, hf⟩
  have HO := Lib.hid ho; have HT := Lib.hid ht; have HF := Lib.hid hf
  clear ho ht hf
  go_wp2_with fail
  go_ret
  exact ⟨g, cap, rfl, HO.out, HT.out, HF.out⟩
end Go.Proofs.YtjchjpmgbmeohaaDoor

/- Books: a state of its own, behind a world: labels hidden. -/
set_option linter.unusedSimpArgs false
set_option linter.unusedVariables false
namespace Go.Proofs.YtjchjpmgbmeohaaDoor
open Go.RowKit

/-- A state all of whose blocks are newer than w0; nothing older was written. -/
def Alv (w0 w : World) (d : Dd) (r : Raw) (es : List Ent) (big : Nat) : Prop := ∃ lab, Sta w lab d r es big ∧ (∀ k, lab k ≠ 0 → w0.heap.size ≤ k) ∧ Fr (fun _ => False) w0 w
section
variable {w0 w w' : World} {d : Dd} {r r' : Raw} {es es' : List Ent} {big big' n : Nat} {lab lab' : Nat → Nat}
theorem alv_step (hl : ∀ k, lab k ≠ 0 → w0.heap.size ≤ k) (f : Fr (fun _ => False) w0 w) (h : Sta w' lab' d r' es' big') (p : Stp n w lab w' lab') (hn : w0.heap.size ≤ n) : Alv w0 w' d r' es' big' := by
  refine ⟨lab', h, fun k hk => ?_, f.then_ p.fr (fun k hk => .inr (hl k hk.1))⟩
  by_cases hlt : k < n
  · rw [p.lx k hlt] at hk
    exact hl k hk
  · omega
theorem Alv.fr (h : Alv w0 w d r es big) (f : Fr (fun _ => False) w w') : Alv w0 w' d r es big := by
  obtain ⟨lab, h1, h2, h3⟩ := h
  exact ⟨lab, h1.fr f (fun _ h => h.elim), h2, h3.then_ f (fun _ h => h.elim)⟩
theorem Alv.old (h : Alv w0 w d r es big) : Fr (fun _ => False) w0 w := by
  obtain ⟨lab, h1, h2, h3⟩ := h
  exact h3
theorem Alv.more (h : Alv w0 w d r es big) (hb : big ≤ big') : Alv w0 w d r es big' := by
  obtain ⟨lab, h1, h2, h3⟩ := h
  exact ⟨lab, h1.more hb, h2, h3⟩
/-- What one calls its own beside a state: written, that is nothing to the state. -/
theorem Alv.frs {S : Nat → Prop} (h : Alv w0 w d r es big) (f : Fr S w w') (hs : ∀ k, S k → w0.heap.size ≤ k) (ho : ∀ lab, Sta w lab d r es big → ∀ k, S k → lab k = 0) : Alv w0 w' d r es big := by
  obtain ⟨lab, h1, h2, h3⟩ := h
  exact ⟨lab, h1.fr f (ho lab h1), h2, h3.then_ f (fun k hk => .inr (hs k hk))⟩
end
theorem newA (w : World) : Calls Tryd.prog 15 #[] w fun e w' => ∃ d, e = .returned (.pointer (some ⟨d.B, 0, none⟩)) ∧ Alv w w' d Raw.empty [] 0 :=
  (newS w).mono fun e w' ⟨lab, d, he, h, hl, hf⟩ => ⟨d, he, lab, h, hl, hf⟩
section
variable {w0 w : World} {d : Dd} {r : Raw} {es : List Ent} {big : Nat}
theorem openA (h : Alv w0 w d r es big) (a : Acc) (hb : big ≤ 10000) (h0 : 0 ≤ r.stamp) (h1 : r.stamp ≤ 4611686018427387904) (hlen : r.accs.length ≤ 10000) :
    Calls Tryd.prog 16 #[.pointer (some ⟨d.B, 0, none⟩), .agg #[.int .u64 a.id.hi, .int .u64 a.id.lo, .int .u64 a.dp.hi, .int .u64 a.dp.lo, .int .u64 a.dq.hi, .int .u64 a.dq.lo, .int .u64 a.cp.hi, .int .u64 a.cp.lo, .int .u64 a.cq.hi, .int .u64 a.cq.lo, .int .i64 a.ledger, .int .i64 a.code, .int .i64 a.flags, .int .i64 a.stamp]] w fun e w' => ∃ c r' es', e = .returned (.int .i64 c) ∧ OpenR r es a c r' es' ∧ Alv w0 w' d r' es' (big + 4) := by
  obtain ⟨lab, h2, hl, hf⟩ := h
  exact (openS w lab d r es big a h2 hb h0 h1 hlen).mono fun e w' ⟨c, lab', r', es', he, hr, hs, hp⟩ => ⟨c, r', es', he, hr, alv_step hl hf hs hp hf.size⟩
theorem keepA (h : Alv w0 w d r es big) (a m : Tx) (wt : Bool) (hb : big ≤ 80000) (h0 : 0 ≤ r.stamp) (h1 : r.stamp ≤ 4611686018427387904) (hlen : r.kept.length ≤ 10000) (hfr : r.ends (r.stamp + 1) = none) :
    Calls Tryd.prog 18 #[.pointer (some ⟨d.B, 0, none⟩), .agg #[.int .u64 a.id.hi, .int .u64 a.id.lo, .int .u64 a.debit.hi, .int .u64 a.debit.lo, .int .u64 a.credit.hi, .int .u64 a.credit.lo, .int .u64 a.amount.hi, .int .u64 a.amount.lo, .int .u64 a.pending.hi, .int .u64 a.pending.lo, .int .i64 a.timeout, .int .i64 a.ledger, .int .i64 a.code, .int .i64 a.flags, .int .i64 a.stamp, .int .i64 a.born], .agg #[.int .u64 m.id.hi, .int .u64 m.id.lo, .int .u64 m.debit.hi, .int .u64 m.debit.lo, .int .u64 m.credit.hi, .int .u64 m.credit.lo, .int .u64 m.amount.hi, .int .u64 m.amount.lo, .int .u64 m.pending.hi, .int .u64 m.pending.lo, .int .i64 m.timeout, .int .i64 m.ledger, .int .i64 m.code, .int .i64 m.flags, .int .i64 m.stamp, .int .i64 m.born], .bool wt] w fun e w' => ∃ c r' es', e = .returned (.int .i64 c) ∧ KeepR r es a m wt c r' es' ∧ Alv w0 w' d r' es' (big + 7) := by
  obtain ⟨lab, h2, hl, hf⟩ := h
  exact (keepFS w lab d r es big a m wt h2 hb h0 h1 hlen hfr).mono fun e w' ⟨c, lab', r', es', he, hr, hs, hp⟩ => ⟨c, r', es', he, hr, alv_step hl hf hs hp hf.size⟩
theorem roomA (h : Alv w0 w d r es big) : Calls Tryd.prog 17 #[.pointer (some ⟨d.B, 0, none⟩)] w fun e w' => e = .returned (.bool (decide (r.kept.length < 96))) ∧ Fr (fun _ => False) w w' := by
  obtain ⟨lab, h2, hl, hf⟩ := h
  exact roomS w lab d r es big h2
theorem clockA (h : Alv w0 w d r es big) : Calls Tryd.prog 37 #[.pointer (some ⟨d.B, 0, none⟩)] w fun e w' => e = .returned (.int .i64 r.clock) ∧ Fr (fun _ => False) w w' := by
  obtain ⟨lab, h2, hl, hf⟩ := h
  exact clockS w lab d r es big h2
theorem stampA (h : Alv w0 w d r es big) : Calls Tryd.prog 21 #[.pointer (some ⟨d.B, 0, none⟩)] w fun e w' => e = .returned (.int .i64 r.stamp) ∧ Fr (fun _ => False) w w' := by
  obtain ⟨lab, h2, hl, hf⟩ := h
  exact stampS w lab d r es big h2
theorem accountsA (h : Alv w0 w d r es big) (hn : r.accs.length ≤ 100000) : Calls Tryd.prog 19 #[.pointer (some ⟨d.B, 0, none⟩)] w fun e w' => ∃ g cap, e = .returned (.slice g r.accs.length cap) ∧ w'.ownsRow 0 26 14 (.slice g r.accs.length cap) r.accs.length (r.accs.flatMap Acc.cells) ∧ (∀ k, (Value.slice g r.accs.length cap).ownBlock = some k → w.heap.size ≤ k) ∧ Fr (fun _ => False) w w' := by
  obtain ⟨lab, h2, hl, hf⟩ := h
  exact accountsS w lab d r es big h2 hn
theorem keepsA (h : Alv w0 w d r es big) (hn : r.kept.length ≤ 100000) : Calls Tryd.prog 20 #[.pointer (some ⟨d.B, 0, none⟩)] w fun e w' => ∃ g cap, e = .returned (.slice g r.kept.length cap) ∧ w'.ownsRow 0 63 33 (.slice g r.kept.length cap) r.kept.length (r.kept.flatMap Kp.cells) ∧ (∀ k, (Value.slice g r.kept.length cap).ownBlock = some k → w.heap.size ≤ k) ∧ Fr (fun _ => False) w w' := by
  obtain ⟨lab, h2, hl, hf⟩ := h
  exact keepsS w lab d r es big h2 hn
end
end Go.Proofs.YtjchjpmgbmeohaaDoor

/- Books: what the laws' alive asks. -/
set_option linter.unusedSimpArgs false
set_option linter.unusedVariables false
namespace Go.Proofs.YtjchjpmgbmeohaaDoor
open Go.RowKit

theorem most_lt {w : World} (h : Most w) : 0 < w.heap.size := World.block_lt_of_cell? w _ h.hi
def one15 : Nm := ⟨0, 1⟩
def ac15 (s : Int) : Acc := ⟨⟨0, 1⟩, ⟨0, 0⟩, ⟨0, 0⟩, ⟨0, 0⟩, ⟨0, 0⟩, 0, 0, 2, s⟩
theorem ac15_ok : (ac15 1).ok := by
  refine ⟨⟨?_, ?_, ?_, ?_⟩, ⟨?_, ?_, ?_, ?_⟩, ⟨?_, ?_, ?_, ?_⟩, ⟨?_, ?_, ?_, ?_⟩, ⟨?_, ?_, ?_, ?_⟩, ?_, ?_, ?_, ?_⟩ <;> decide
theorem ac15_r : moreR (ac15 1) true one15 = 33 := by kernel_rfl
set_option maxRecDepth 4000 in
set_option maxHeartbeats 3200000 in
theorem alive15_any (w : World) (hm : Most w) : Calls Tryd.prog 9 #[] w fun e w' => e = .returned (.bool true) ∧ Fr (fun _ => False) w w' := by
  have HM := Lib.hid hm
  have HML := Lib.hid (most_lt hm)
  clear hm
  go_enter Tryd.func9, Tryd.ntmps9
  go_wp2_with fail
  refine (newS w).mono ?_
  rintro e w1 ⟨lab, d, rfl, h1, hl1, f1⟩
  have HO := Lib.hid (show Calls Tryd.prog 16 #[.pointer (some ⟨d.B, 0, none⟩), .agg #[.int .u64 0, .int .u64 1, .int .u64 0, .int .u64 0, .int .u64 0, .int .u64 0, .int .u64 0, .int .u64 0, .int .u64 0, .int .u64 0, .int .i64 0, .int .i64 0, .int .i64 2, .int .i64 0]] w1 (OpenPost w1 lab d Raw.empty [] 0 (ac15 0)) from openS w1 lab d Raw.empty [] 0 (ac15 0) h1 (by omega) (by decide) (by decide) (by decide))
  have F1 := Lib.hid f1
  have Hl1 := Lib.hid hl1
  clear h1 hl1 f1
  go_wp2_with fail
  refine HO.out.mono ?_
  rintro e w2 ⟨c, lab2, r2, es2, rfl, ho, h2, p2⟩
  have F2 := Lib.hid (F1.out.then_ p2.fr (fun k hk => .inr (Hl1.out k hk.1)))
  have hr : c = 0 ∧ r2.accs.length ≤ 1000000 ∧ acctR r2 one15 = some (ac15 1) := by
    cases ho with
    | full g => exact absurd g (by decide)
    | there g g2 => exact absurd g2 (by decide)
    | done g g2 b1 b2 b3 b4 b5 => exact ⟨rfl, by show ([] ++ [_]).length ≤ _; simp, by show (upd _ _ _ _).bind _ = _; rw [show (ac15 0).id = one15 from rfl, upd_self]; rfl⟩
  obtain ⟨rfl, hlen, hfind⟩ := hr
  have HA := acctS w2 lab2 d r2 es2 _ one15 h2 hlen
  rw [hfind] at HA
  have HAc := Lib.hid (show Calls Tryd.prog 32 #[.pointer (some ⟨d.B, 0, none⟩), .agg #[.int .u64 0, .int .u64 1]] w2 fun e w' => e = .returned (.tuple #[.agg #[.int .u64 0, .int .u64 1, .int .u64 0, .int .u64 0, .int .u64 0, .int .u64 0, .int .u64 0, .int .u64 0, .int .u64 0, .int .u64 0, .int .i64 0, .int .i64 0, .int .i64 2, .int .i64 1], .bool true]) ∧ Fr (fun _ => False) w2 w' from HA)
  clear ho h2 p2 hlen hfind HA
  go_wp2_with fail
  refine HAc.out.mono ?_
  rintro e w3 ⟨rfl, f3⟩
  have F3 := Lib.hid ((F2.out.then_ f3 (fun _ h => h.elim)).alloc (.cells #[.int .u64 0, .int .u64 1, .int .u64 0, .int .u64 0, .int .u64 0, .int .u64 0, .int .u64 0, .int .u64 0, .int .u64 0, .int .u64 0, .int .i64 0, .int .i64 0, .int .i64 2, .int .i64 1] 26))
  have BA := Lib.hid (heap_alloc_new w3 (.cells #[.int .u64 0, .int .u64 1, .int .u64 0, .int .u64 0, .int .u64 0, .int .u64 0, .int .u64 0, .int .u64 0, .int .u64 0, .int .u64 0, .int .i64 0, .int .i64 0, .int .i64 2, .int .i64 1] 26))
  have HD := Debit_any (w3.alloc (.cells #[.int .u64 0, .int .u64 1, .int .u64 0, .int .u64 0, .int .u64 0, .int .u64 0, .int .u64 0, .int .u64 0, .int .u64 0, .int .u64 0, .int .i64 0, .int .i64 0, .int .i64 2, .int .i64 1] 26)) (ac15 1) one15 false ac15_ok ⟨by decide, by decide, by decide, by decide⟩ (HM.out.fr F3.out (fun h => h))
  rw [ac15_r] at HD
  rw [show moreA (ac15 1) true one15 false = ac15 1 from by kernel_rfl] at HD
  have HDb := Lib.hid (show Calls Tryd.prog 11 #[.agg #[.int .u64 0, .int .u64 1, .int .u64 0, .int .u64 0, .int .u64 0, .int .u64 0, .int .u64 0, .int .u64 0, .int .u64 0, .int .u64 0, .int .i64 0, .int .i64 0, .int .i64 2, .int .i64 1], .agg #[.int .u64 0, .int .u64 1], .bool false] (w3.alloc (.cells #[.int .u64 0, .int .u64 1, .int .u64 0, .int .u64 0, .int .u64 0, .int .u64 0, .int .u64 0, .int .u64 0, .int .u64 0, .int .u64 0, .int .i64 0, .int .i64 0, .int .i64 2, .int .i64 1] 26)) fun e w' => e = .returned (.tuple #[.agg #[.int .u64 0, .int .u64 1, .int .u64 0, .int .u64 0, .int .u64 0, .int .u64 0, .int .u64 0, .int .u64 0, .int .u64 0, .int .u64 0, .int .i64 0, .int .i64 0, .int .i64 2, .int .i64 1], .int .i64 33]) ∧ Fr (fun _ => False) (w3.alloc (.cells #[.int .u64 0, .int .u64 1, .int .u64 0, .int .u64 0, .int .u64 0, .int .u64 0, .int .u64 0, .int .u64 0, .int .u64 0, .int .u64 0, .int .i64 0, .int .i64 0, .int .i64 2, .int .i64 1] 26)) w' from HD)
  clear f3 HD
  go_wp2_with (first | ((with_reducible refine wpList_load_row_w ?lw 26 _ rfl w3.heap.size rfl 26 _ _ _ BA.out Tryd.underlying26 rfl rfl ?_); (case lw => rfl)) | fail)
  refine HDb.out.mono ?_
  rintro e w4 ⟨rfl, f4⟩
  have F4 := Lib.hid ((F3.out.then_ f4 (fun _ h => h.elim)).alloc (.cells #[.int .u64 0, .int .u64 1, .int .u64 0, .int .u64 0, .int .u64 0, .int .u64 0, .int .u64 0, .int .u64 0, .int .u64 0, .int .u64 0, .int .i64 0, .int .i64 0, .int .i64 2, .int .i64 1] 26))
  have m13 := blk_cell (blk_alloc (f4.blk BA.out (fun h => h)) (.cells #[.int .u64 0, .int .u64 1, .int .u64 0, .int .u64 0, .int .u64 0, .int .u64 0, .int .u64 0, .int .u64 0, .int .u64 0, .int .u64 0, .int .i64 0, .int .i64 0, .int .i64 2, .int .i64 1] 26)) 13 rfl
  clear f4
  go_wp2_with fail
  go_ret
  exact ⟨rfl, F4.out⟩
end Go.Proofs.YtjchjpmgbmeohaaDoor

/- BooksFull. -/
set_option linter.unusedSimpArgs false
set_option linter.unusedVariables false
namespace Go.Proofs.YtjchjpmgbmeohaaDoor
open Go.RowKit

def acF (k : Nat) : Acc := ⟨⟨0, (k : Int) + 1⟩, ⟨0, 0⟩, ⟨0, 0⟩, ⟨0, 0⟩, ⟨0, 0⟩, 0, 0, 0, 0⟩
def txF (j : Nat) : Tx := ⟨⟨(j : Int) + 1, 0⟩, ⟨0, 0⟩, ⟨0, 0⟩, ⟨0, 0⟩, ⟨0, 0⟩, 0, 0, 0, 0, 0, 0⟩
structure FullA (r : Raw) (k : Nat) : Prop where
  len : r.accs.length = min k 32
  stamp : r.stamp = (min k 32 : Nat)
  kept : r.kept = []
  ids : ∀ y, (r.ids y).isSome = true → ∃ i : Nat, i < k ∧ y = ⟨0, (i : Int) + 1⟩
  nms : ∀ y, r.nms y = none
  ends : ∀ s, r.ends s = none
theorem fullA_step {r r' : Raw} {es es' : List Ent} {k : Nat} {c : Int} (h : FullA r k) (hr : OpenR r es (acF k) c r' es') : ((c = 0 ∧ k < 32) ∨ (c = 6 ∧ 32 ≤ k)) ∧ FullA r' (k + 1) := by
  have hl := h.len
  cases hr with
  | full hf => exact ⟨.inr ⟨rfl, by omega⟩, by omega, by rw [h.stamp]; omega, h.kept, fun y hy => by obtain ⟨i, hi, e⟩ := h.ids y hy; exact ⟨i, by omega, e⟩, h.nms, h.ends⟩
  | there hf h2 =>
    obtain ⟨i, hi, e⟩ := h.ids _ h2
    simp only [acF, Nm.mk.injEq] at e
    omega
  | done hf h2 b1 b2 b3 b4 b5 =>
    refine ⟨.inl ⟨rfl, by omega⟩, by simp; omega, by show r.stamp + 1 = _; rw [h.stamp]; omega, h.kept, fun y hy => ?_, h.nms, h.ends⟩
    by_cases e : y = (acF k).id
    · exact ⟨k, by omega, e⟩
    · have hy : (upd r.ids (acF k).id (some (r.accs.length : Int)) y).isSome = true := hy
      rw [upd_ne _ _ e] at hy
      obtain ⟨i, hi, e⟩ := h.ids y hy
      exact ⟨i, by omega, e⟩
structure FullB (r : Raw) (n j : Nat) : Prop where
  len : r.accs.length = min n 32
  kept : r.kept.length = min j 96
  stamp : r.stamp = (min n 32 + min j 96 : Nat)
  nms : ∀ y, (r.nms y).isSome = true → ∃ i : Nat, i < j ∧ y = ⟨(i : Int) + 1, 0⟩
  ends : ∀ s, r.ends s = none
theorem FullA.next {r : Raw} {n : Nat} (h : FullA r n) : FullB r n 0 := ⟨h.len, by rw [h.kept]; simp, by rw [h.stamp]; simp, fun y hy => (by rw [h.nms y] at hy; cases hy), h.ends⟩
theorem fullB_step {r r' : Raw} {es es' : List Ent} {n j : Nat} {c : Int} (h : FullB r n j) (hr : KeepR r es (txF j) (txF j) false c r' es') : ((c = 0 ∧ j < 96) ∨ (c = 6 ∧ 96 ≤ j)) ∧ FullB r' n (j + 1) := by
  have hl := h.kept
  cases hr with
  | full hf => exact ⟨.inr ⟨rfl, by omega⟩, h.len, by omega, by rw [h.stamp]; omega, fun y hy => by obtain ⟨i, hi, e⟩ := h.nms y hy; exact ⟨i, by omega, e⟩, h.ends⟩
  | there hf h2 =>
    obtain ⟨i, hi, e⟩ := h.nms _ h2
    simp only [txF, Nm.mk.injEq] at e
    omega
  | rests hf h2 hd b1 b2 b3 b4 b5 b6 =>
    refine ⟨.inl ⟨rfl, by omega⟩, h.len, by simp; omega, by show r.stamp + 1 = _; rw [h.stamp]; omega, fun y hy => ?_, h.ends⟩
    by_cases e : y = (txF j).id
    · exact ⟨j, by omega, e⟩
    · have hy : (upd r.nms (txF j).id (some (r.kept.length : Int)) y).isSome = true := hy
      rw [upd_ne _ _ e] at hy
      obtain ⟨i, hi, e⟩ := h.nms y hy
      exact ⟨i, by omega, e⟩
  | waits hf h2 hd => simp [dueB, kept1] at hd
set_option maxRecDepth 4000 in
set_option maxHeartbeats 6400000 in
theorem full_go (w : World) (hm : Most w) (n m : Nat) (hn : n ≤ 40) (hm2 : m ≤ 110) : Calls Tryd.prog 4 #[.int .i64 n, .int .i64 m] w fun e w' => e = .returned (.bool true) ∧ Fr (fun _ => False) w w' := by
  have HAl := Lib.hid (alive15_any w hm)
  have g1 : ¬ (n : Int) < 0 := by omega
  have g2 : ¬ (40 : Int) < n := by omega
  have g3 : ¬ (m : Int) < 0 := by omega
  have g4 : ¬ (110 : Int) < m := by omega
  have HN := Lib.hid (fun W => newA W)
  go_enter Tryd.func4, Tryd.ntmps4
  go_wp2_with fail
  refine HAl.out.mono ?_
  rintro e w1 ⟨rfl, f1⟩
  have F1 := Lib.hid f1
  clear f1
  go_wp2_with fail
  refine (HN.out w1).mono ?_
  rintro e w2 ⟨d, rfl, h2⟩
  have H2 := Lib.hid h2
  clear h2
  go_wp2_with fail
  go_loopw [6] (fun iv wr => ∃ k : Nat, k ≤ n ∧ iv = .int .i64 k ∧ ∃ r es, Alv w1 wr d r es (4 * k) ∧ FullA r k) (fun iv _ => ((n : Int) - intOf iv).toNat)
  case atStart => exact ⟨0, by omega, rfl, Raw.empty, [], H2.out, ⟨rfl, rfl, rfl, fun y hy => (by cases hy), fun _ => rfl, fun _ => rfl⟩⟩
  case round =>
    obtain ⟨k, hk, rfl, r, es, hs, hfa⟩ := hrel
    have HFa := Lib.hid hfa
    have HS := Lib.hid hs
    by_cases hkn : k < n
    · have hkI : (k : Int) < n := by omega
      have u1 : IntKind.i64.wrap ((k : Int) + 1) = k + 1 := IntWalk.i64_in _ (by omega)
      have u2 : IntKind.u64.wrap ((k : Int) + 1) = k + 1 := by rw [IntKind.wrap_u64]; omega
      have HOp := Lib.hid (show Calls Tryd.prog 16 #[.pointer (some ⟨d.B, 0, none⟩), .agg #[.int .u64 0, .int .u64 ((k : Int) + 1), .int .u64 0, .int .u64 0, .int .u64 0, .int .u64 0, .int .u64 0, .int .u64 0, .int .u64 0, .int .u64 0, .int .i64 0, .int .i64 0, .int .i64 0, .int .i64 0]] wr _ from openA hs (acF k) (by omega) (by rw [hfa.stamp]; omega) (by rw [hfa.stamp]; omega) (by rw [hfa.len]; omega))
      clear hs hfa
      go_wp2_with fail
      refine HOp.out.mono ?_
      rintro e w3 ⟨c, r3, es3, rfl, hr3, h3⟩
      obtain ⟨hc, hf3⟩ := fullA_step HFa.out hr3
      have H3 := Lib.hid h3
      have HF3 := Lib.hid hf3
      clear hr3 h3 hf3
      rcases hc with ⟨rfl, hc⟩ | ⟨rfl, hc⟩
      · have hcI : (k : Int) < 32 := by omega
        go_wp2_with fail
        go_roundw
        case rel => exact ⟨k + 1, by omega, by go_num, r3, es3, H3.out.more (by omega), HF3.out⟩
        case measure => simp [intOf]; omega
      · have hcI : ¬ (k : Int) < 32 := by omega
        go_wp2_with fail
        go_roundw
        case rel => exact ⟨k + 1, by omega, by go_num, r3, es3, H3.out.more (by omega), HF3.out⟩
        case measure => simp [intOf]; omega
    · obtain rfl : k = n := by omega
      have hkI : ¬ (k : Int) < k := by omega
      clear hs hfa
      obtain ⟨wa, hwa⟩ : ∃ W, W = wr := ⟨_, rfl⟩
      subst hwa
      go_wp2_with fail
      go_loopw [8] (fun iv wr => ∃ j : Nat, j ≤ m ∧ iv = .int .i64 j ∧ ∃ r es, Alv w1 wr d r es (160 + 7 * j) ∧ FullB r k j) (fun iv _ => ((m : Int) - intOf iv).toNat)
      case atStart => exact ⟨0, by omega, rfl, r, es, HS.out.more (by omega), HFa.out.next⟩
      case round =>
        obtain ⟨j, hj, rfl, r, es, hs, hfb⟩ := hrel
        have HFb := Lib.hid hfb
        have HSb := Lib.hid hs
        by_cases hjm : j < m
        · have hjI : (j : Int) < m := by omega
          have u1 : IntKind.i64.wrap ((j : Int) + 1) = j + 1 := IntWalk.i64_in _ (by omega)
          have u2 : IntKind.u64.wrap ((j : Int) + 1) = j + 1 := by rw [IntKind.wrap_u64]; omega
          have hs1 := hs.fr ((Fr.refl (fun _ => False) wr).alloc (.cells #[.int .u64 ((j : Int) + 1), .int .u64 0, .int .u64 0, .int .u64 0, .int .u64 0, .int .u64 0, .int .u64 0, .int .u64 0, .int .u64 0, .int .u64 0, .int .i64 0, .int .i64 0, .int .i64 0, .int .i64 0, .int .i64 0, .int .i64 0] 40))
          have BT := Lib.hid (heap_alloc_new wr (.cells #[.int .u64 ((j : Int) + 1), .int .u64 0, .int .u64 0, .int .u64 0, .int .u64 0, .int .u64 0, .int .u64 0, .int .u64 0, .int .u64 0, .int .u64 0, .int .i64 0, .int .i64 0, .int .i64 0, .int .i64 0, .int .i64 0, .int .i64 0] 40))
          have HS1 := Lib.hid hs1
          have hrm := roomA hs1
          rw [show decide (r.kept.length < 96) = decide (j < 96) from by rw [hfb.kept]; exact decide_eq_decide.2 (by omega)] at hrm
          have HRm := Lib.hid hrm
          clear hs hfb hs1 hrm
          go_wp2_with fail
          refine HRm.out.mono ?_
          rintro e w3 ⟨rfl, f3⟩
          have H3 := Lib.hid (HS1.out.fr f3)
          have B3 := Lib.hid (f3.blk BT.out (fun h => h))
          have HKp := Lib.hid (show Calls Tryd.prog 18 #[.pointer (some ⟨d.B, 0, none⟩), .agg #[.int .u64 ((j : Int) + 1), .int .u64 0, .int .u64 0, .int .u64 0, .int .u64 0, .int .u64 0, .int .u64 0, .int .u64 0, .int .u64 0, .int .u64 0, .int .i64 0, .int .i64 0, .int .i64 0, .int .i64 0, .int .i64 0, .int .i64 0], .agg #[.int .u64 ((j : Int) + 1), .int .u64 0, .int .u64 0, .int .u64 0, .int .u64 0, .int .u64 0, .int .u64 0, .int .u64 0, .int .u64 0, .int .u64 0, .int .i64 0, .int .i64 0, .int .i64 0, .int .i64 0, .int .i64 0, .int .i64 0], .bool false] w3 _ from keepA H3.out (txF j) (txF j) false (by omega) (by rw [HFb.out.stamp]; omega) (by rw [HFb.out.stamp]; omega) (by rw [HFb.out.kept]; omega) (HFb.out.ends _))
          clear f3
          go_wp2_with (first | ((with_reducible refine wpList_load_row_w ?lw 40 _ rfl wr.heap.size rfl 40 _ _ _ B3.out Tryd.underlying40 rfl rfl ?_); (case lw => rfl)) | fail)
          refine HKp.out.mono ?_
          rintro e w4 ⟨c, r4, es4, rfl, hr4, h4⟩
          obtain ⟨hc, hf4⟩ := fullB_step HFb.out hr4
          have H4 := Lib.hid h4
          have HF4 := Lib.hid hf4
          clear hr4 h4 hf4
          rcases hc with ⟨rfl, hc⟩ | ⟨rfl, hc⟩
          · have hcI : (j : Int) < 96 := by omega
            go_wp2_with fail
            go_roundw
            case rel => exact ⟨j + 1, by omega, by go_num, r4, es4, H4.out.more (by omega), HF4.out⟩
            case measure => simp [intOf]; omega
          · have hcI : ¬ (j : Int) < 96 := by omega
            have hcJ : ¬ j < 96 := by omega
            go_wp2_with fail
            go_roundw
            case rel => exact ⟨j + 1, by omega, by go_num, r4, es4, H4.out.more (by omega), HF4.out⟩
            case measure => simp [intOf]; omega
        · obtain rfl : j = m := by omega
          have hjI : ¬ (j : Int) < j := by omega
          have hac := accountsA hs (by rw [hfb.len]; omega)
          have hke := Lib.hid (fun W (f : Fr (fun _ => False) wr W) => keepsA (hs.fr f) (by rw [hfb.kept]; omega))
          have hst := Lib.hid (fun W (f : Fr (fun _ => False) wr W) => stampA (hs.fr f))
          have hl1 := hfb.len
          have hl2 := hfb.kept
          have hl3 := hfb.stamp
          obtain ⟨na, hna⟩ : ∃ x, r.accs.length = x := ⟨_, rfl⟩
          obtain ⟨nk, hnk⟩ : ∃ x, r.kept.length = x := ⟨_, rfl⟩
          obtain ⟨ns, hns⟩ : ∃ x, r.stamp = x := ⟨_, rfl⟩
          rw [hna] at hac hl1
          rw [hnk] at hke hl2
          rw [hns] at hst hl3
          have HAc := Lib.hid hac
          have FA := Lib.hid hs.old
          clear hs hfb hac hna hnk hns HFb HFa HS HSb H2
          rcases (show ((k : Int) ≤ 32 ∧ na = k) ∨ (¬ (k : Int) ≤ 32 ∧ na = 32) from by omega) with ⟨e1, rfl⟩ | ⟨e1, rfl⟩
          all_goals
            rcases (show ((j : Int) ≤ 96 ∧ nk = j) ∨ (¬ (j : Int) ≤ 96 ∧ nk = 96) from by omega) with ⟨e2, rfl⟩ | ⟨e2, rfl⟩
          · obtain rfl : ns = (na : Int) + nk := by omega
            have u1 : IntKind.i64.wrap ((na : Int) + nk) = (na : Int) + nk := IntWalk.i64_in _ (by omega)
            clear hl1 hl2 hl3
            go_wp2_with fail
            refine HAc.out.mono ?_
            rintro e w3 ⟨g3, c3, rfl, -, -, f3⟩
            have F3 := Lib.hid f3
            clear f3
            go_wp2_with fail
            refine (hke.out _ F3.out).mono ?_
            rintro e w4 ⟨g4, c4, rfl, -, -, f4⟩
            have F4 := Lib.hid (F3.out.then_ f4 (fun _ h => h.elim))
            clear f4
            go_wp2_with fail
            refine (hst.out _ F4.out).mono ?_
            rintro e w5 ⟨rfl, f5⟩
            have F5 := Lib.hid (F4.out.then_ f5 (fun _ h => h.elim))
            clear f5
            go_wp2_with fail
            go_ret
            exact ⟨rfl, (F1.out.then_ FA.out (fun _ h => h.elim)).then_ F5.out (fun _ h => h.elim)⟩
          · obtain rfl : ns = (na : Int) + 96 := by omega
            have u1 : IntKind.i64.wrap ((na : Int) + 96) = (na : Int) + 96 := IntWalk.i64_in _ (by omega)
            clear hl1 hl2 hl3
            go_wp2_with fail
            refine HAc.out.mono ?_
            rintro e w3 ⟨g3, c3, rfl, -, -, f3⟩
            have F3 := Lib.hid f3
            clear f3
            go_wp2_with fail
            refine (hke.out _ F3.out).mono ?_
            rintro e w4 ⟨g4, c4, rfl, -, -, f4⟩
            have F4 := Lib.hid (F3.out.then_ f4 (fun _ h => h.elim))
            clear f4
            go_wp2_with fail
            refine (hst.out _ F4.out).mono ?_
            rintro e w5 ⟨rfl, f5⟩
            have F5 := Lib.hid (F4.out.then_ f5 (fun _ h => h.elim))
            clear f5
            go_wp2_with fail
            go_ret
            exact ⟨rfl, (F1.out.then_ FA.out (fun _ h => h.elim)).then_ F5.out (fun _ h => h.elim)⟩
          · obtain rfl : ns = 32 + (nk : Int) := by omega
            have u1 : IntKind.i64.wrap (32 + (nk : Int)) = 32 + (nk : Int) := IntWalk.i64_in _ (by omega)
            clear hl1 hl2 hl3
            go_wp2_with fail
            refine HAc.out.mono ?_
            rintro e w3 ⟨g3, c3, rfl, -, -, f3⟩
            have F3 := Lib.hid f3
            clear f3
            go_wp2_with fail
            refine (hke.out _ F3.out).mono ?_
            rintro e w4 ⟨g4, c4, rfl, -, -, f4⟩
            have F4 := Lib.hid (F3.out.then_ f4 (fun _ h => h.elim))
            clear f4
            go_wp2_with fail
            refine (hst.out _ F4.out).mono ?_
            rintro e w5 ⟨rfl, f5⟩
            have F5 := Lib.hid (F4.out.then_ f5 (fun _ h => h.elim))
            clear f5
            go_wp2_with fail
            go_ret
            exact ⟨rfl, (F1.out.then_ FA.out (fun _ h => h.elim)).then_ F5.out (fun _ h => h.elim)⟩
          · obtain rfl : ns = 128 := by omega
            have u1 : IntKind.i64.wrap (128) = 128 := IntWalk.i64_in _ (by omega)
            clear hl1 hl2 hl3
            go_wp2_with fail
            refine HAc.out.mono ?_
            rintro e w3 ⟨g3, c3, rfl, -, -, f3⟩
            have F3 := Lib.hid f3
            clear f3
            go_wp2_with fail
            refine (hke.out _ F3.out).mono ?_
            rintro e w4 ⟨g4, c4, rfl, -, -, f4⟩
            have F4 := Lib.hid (F3.out.then_ f4 (fun _ h => h.elim))
            clear f4
            go_wp2_with fail
            refine (hst.out _ F4.out).mono ?_
            rintro e w5 ⟨rfl, f5⟩
            have F5 := Lib.hid (F4.out.then_ f5 (fun _ h => h.elim))
            clear f5
            go_wp2_with fail
            go_ret
            exact ⟨rfl, (F1.out.then_ FA.out (fun _ h => h.elim)).then_ F5.out (fun _ h => h.elim)⟩
theorem full_any (w : World) (hm : Most w) (n m : Int) : Calls Tryd.prog 4 #[.int .i64 n, .int .i64 m] w fun e w' => e = .returned (.bool true) ∧ Fr (fun _ => False) w w' := by
  by_cases hin : 0 ≤ n ∧ n ≤ 40 ∧ 0 ≤ m ∧ m ≤ 110
  · obtain ⟨a, ha⟩ := Int.eq_ofNat_of_zero_le hin.1
    obtain ⟨b, hb⟩ := Int.eq_ofNat_of_zero_le hin.2.2.1
    subst ha hb
    exact full_go w hm a b (by omega) (by omega)
  have HAl := Lib.hid (alive15_any w hm)
  have hin2 : n < 0 ∨ (¬ n < 0 ∧ 40 < n) ∨ (¬ n < 0 ∧ ¬ 40 < n ∧ m < 0) ∨ (¬ n < 0 ∧ ¬ 40 < n ∧ ¬ m < 0 ∧ 110 < m) := by omega
  clear hin
  rcases hin2 with g1 | ⟨g1, g2⟩ | ⟨g1, g2, g3⟩ | ⟨g1, g2, g3, g4⟩
  all_goals
    go_enter Tryd.func4, Tryd.ntmps4
    go_wp2_with fail
    refine HAl.out.mono ?_
    rintro e w1 ⟨rfl, f1⟩
    have F1 := Lib.hid f1
    clear f1
    go_wp2_with fail
    go_ret
    exact ⟨rfl, F1.out⟩
end Go.Proofs.YtjchjpmgbmeohaaDoor

/- Reading arguments: a struct's cells leaf by leaf; a slice's elements; what sizes the row's weights give. No program in sight. -/
set_option linter.unusedSimpArgs false
set_option linter.unusedVariables false
namespace Go.Proofs.YtjchjpmgbmeohaaDoor
open Go.RowKit Go.ChangeShapes Go.WideShapes Go.ChangeAt

/-- A datum's weights are within the reach. -/
def Sz {H : Type} (P : Program) (t : TypeId) (d : DataW H) : Prop := ∀ n ∈ DataW.weights P t d, n ≤ 140737488351232

section
variable {H : Type} {enc : TypeId × Value → H} {P : Program} {w : World} {base : Nat} {spare : Nat → Bool} {held : Bool}

theorem Sz.each {ts : List TypeId} {ds : List (DataW H)} (h : (DataW.weightsEach P ts ds).all (· ≤ reachBytes) = true) : ∀ (j : Nat) (t : TypeId) (d : DataW H), ts[j]? = some t → ds[j]? = some d → Sz P t d := by
  induction ts generalizing ds with
  | nil => intro j t d h1; simp at h1
  | cons t0 ts ih =>
    cases ds with
    | nil => intro j t d _ h2; simp at h2
    | cons d0 ds =>
      rw [DataW.weightsEach, List.all_append, Bool.and_eq_true] at h
      intro j t d h1 h2
      cases j with
      | zero =>
        simp at h1 h2
        subst h1; subst h2
        intro n hn
        have := List.all_eq_true.1 h.1 n hn
        have h3 := of_decide_eq_true this
        simpa [reachBytes] using h3
      | succ j => exact ih h.2 j t d (by simpa using h1) (by simpa using h2)
theorem weightsAll_mem {e : TypeId} {ds : List (DataW H)} {d : DataW H} (hd : d ∈ ds) {n : Nat} (hn : n ∈ DataW.weights P e d) : n ∈ DataW.weightsAll P e ds := by
  induction ds with
  | nil => cases hd
  | cons d0 ds ih =>
    rw [DataW.weightsAll]
    rcases List.mem_cons.1 hd with rfl | h
    · exact List.mem_append_left _ hn
    · exact List.mem_append_right _ (ih h)
theorem weightsEach_mem {ts : List TypeId} {ds : List (DataW H)} {n : Nat} : ∀ (j : Nat) (t : TypeId) (d : DataW H), ts[j]? = some t → ds[j]? = some d → n ∈ DataW.weights P t d → n ∈ DataW.weightsEach P ts ds := by
  induction ts generalizing ds with
  | nil => intro j t d h1; simp at h1
  | cons t0 ts ih =>
    cases ds with
    | nil => intro j t d _ h2; simp at h2
    | cons d0 ds =>
      intro j t d h1 h2 hn
      rw [DataW.weightsEach]
      cases j with
      | zero =>
        simp at h1 h2
        subst h1; subst h2
        exact List.mem_append_left _ hn
      | succ j => exact List.mem_append_right _ (ih j t d (by simpa using h1) (by simpa using h2) hn)
theorem Sz.slice {t e : TypeId} {elems rest : List (DataW H)} (hu : P.underlying t = some (.slice e)) (h : Sz P t (.slice elems rest)) : (elems.length + rest.length) * P.bytesOf e ≤ 140737488351232 ∧ ∀ d ∈ elems, Sz P e d := by
  unfold Sz at h
  rw [DataW.weights, hu] at h
  exact ⟨h _ (List.mem_cons_self ..), fun d hd n hn => h n (List.mem_cons_of_mem _ (List.mem_append_left _ (weightsAll_mem hd hn)))⟩
theorem Sz.agg {t : TypeId} {fs : Array Field} {parts : List (DataW H)} (hu : P.underlying t = some (.struct fs)) (h : Sz P t (.agg parts)) (i : Nat) (f : Field) (d : DataW H) (hf : fs[i]? = some f) (hd : parts[i]? = some d) : Sz P f.type d := by
  unfold Sz at h
  rw [DataW.weights, hu] at h
  exact fun n hn => h n (weightsEach_mem i f.type d (by simp [hf]) hd hn)

/-- The types of a struct's cells, one by one; none where a field doesn't lie behind the one ahead of it. -/
def leafs (P : Program) : Nat → TypeId → Option (List TypeId)
  | 0, _ => none
  | n + 1, t => match P.underlying t with
    | some (.struct fs) => fs.toList.foldlM (fun acc f => if f.offset = acc.length then (leafs P n f.type).bind fun l => if l.length = P.cellsOf f.type then some (acc ++ l) else none else none) []
    | some (.array _ _) => none
    | _ => some [t]

/-- One cell, read at a type. -/
def Leaf (enc : TypeId × Value → H) (P : Program) (w : World) (base : Nat) (spare : Nat → Bool) (held : Bool) (t : TypeId) (c : Value) : Prop := ∃ n y, DataW.trod enc P w base spare held n t [c] = some y ∧ Sz P t y.1

inductive All2 {α β : Type} (R : α → β → Prop) : List α → List β → Prop
  | nil : All2 R [] []
  | cons {a b l m} : R a b → All2 R l m → All2 R (a :: l) (b :: m)
theorem All2.append {α β : Type} {R : α → β → Prop} {l l2 : List α} {m m2 : List β} (h : All2 R l m) (k : All2 R l2 m2) : All2 R (l ++ l2) (m ++ m2) := by
  induction h with
  | nil => exact k
  | cons hr _ ih => exact .cons hr ih
theorem All2.len {α β : Type} {R : α → β → Prop} {l : List α} {m : List β} (h : All2 R l m) : l.length = m.length := by
  induction h with
  | nil => rfl
  | cons _ _ ih => simp [ih]

theorem leafs_all : ∀ (n m : Nat) (t : TypeId) (ts : List TypeId) (cs : List Value) (x : DataW H × List MemPlace), leafs P n t = some ts → (∀ t' ∈ ts, P.cellsOf t' = 1) → cs.length = ts.length → DataW.trod enc P w base spare held m t cs = some x → Sz P t x.1 → All2 (Leaf enc P w base spare held) ts cs := by
  intro n
  induction n with
  | zero => intro m t ts cs x h; simp [leafs] at h
  | succ n ih =>
    intro m t ts cs x h h1 hc ht hs
    rw [leafs] at h
    split at h
    · rename_i fs hu
      obtain ⟨xs, k, rfl, rfl, hcs, hxs, hel⟩ := DataW.trod_struct hu ht
      have key : ∀ (l : List Field) (j : Nat) (acc res : List TypeId), (∀ (i : Nat) f, l[i]? = some f → fs[j + i]? = some f) → l.foldlM (fun acc f => if f.offset = acc.length then (leafs P n f.type).bind fun l => if l.length = P.cellsOf f.type then some (acc ++ l) else none else none) acc = some res → (∀ t' ∈ res, P.cellsOf t' = 1) → acc.length ≤ cs.length → res.length ≤ cs.length →
          ∃ tail, res = acc ++ tail ∧ All2 (Leaf enc P w base spare held) tail ((cs.drop acc.length).take tail.length) := by
        intro l
        induction l with
        | nil =>
          intro j acc res _ hf _ _ _
          simp at hf
          subst hf
          exact ⟨[], by simp, by simpa using All2.nil⟩
        | cons f l ihl =>
          intro j acc res hl hf h1r ha hr
          rw [List.foldlM_cons] at hf
          split at hf
          · rename_i hoff
            cases hlf : leafs P n f.type with
            | none => rw [hlf] at hf; simp at hf
            | some lf =>
              rw [hlf] at hf
              simp only [Option.bind_some] at hf
              split at hf
              · rename_i hlen
                simp only [Option.bind_eq_bind, Option.bind_some] at hf
                have hmono : (acc ++ lf).length ≤ res.length := by
                  clear ihl hl
                  revert hf
                  generalize acc ++ lf = A
                  intro hf
                  induction l generalizing A with
                  | nil => simp at hf; subst hf; exact Nat.le_refl _
                  | cons f2 l ih2 =>
                    rw [List.foldlM_cons] at hf
                    split at hf
                    · cases h2 : leafs P n f2.type with
                      | none => rw [h2] at hf; simp at hf
                      | some l2 =>
                        rw [h2] at hf
                        simp only [Option.bind_some] at hf
                        split at hf
                        · simp only [Option.bind_eq_bind, Option.bind_some] at hf
                          have := ih2 _ hf
                          rw [List.length_append] at this
                          omega
                        · simp at hf
                    · simp at hf
                obtain ⟨tail, rfl, hall⟩ := ihl (j + 1) (acc ++ lf) res (fun i f' hi => by have := hl (i + 1) f' (by simpa using hi); rwa [show j + (i + 1) = j + 1 + i by omega] at this) hf h1r (by omega) hr
                have hfj : fs[j]? = some f := hl 0 f rfl
                have hx := hel j f hfj
                have hjx : j < xs.length := by
                  have := (Array.getElem?_eq_some_iff.1 hfj).1
                  omega
                rw [List.getElem?_eq_getElem hjx, hoff, ← hlen] at hx
                rw [List.length_append] at hmono
                have hlc : ((cs.drop acc.length).take lf.length).length = lf.length := by
                  rw [List.length_take, List.length_drop]
                  omega
                have hA := ih _ _ _ _ _ hlf (fun t' ht' => h1r t' (by simp [ht'])) hlc hx (hs.agg hu j f _ hfj (by simp [hjx]))
                refine ⟨lf ++ tail, by simp, ?_⟩
                have e : (cs.drop acc.length).take (lf ++ tail).length = (cs.drop acc.length).take lf.length ++ ((cs.drop (acc ++ lf).length).take tail.length) := by
                  rw [List.length_append, List.take_add, List.drop_drop, List.length_append]
                rw [e]
                exact hA.append hall
              · simp at hf
          · simp at hf
      obtain ⟨tail, he, hall⟩ := key fs.toList 0 [] ts (fun i f hi => by simpa using hi) h h1 (by simp) (by omega)
      simp only [List.nil_append] at he
      subst he
      simpa [← hc] using hall
    · simp at h
    · simp only [Option.some.injEq] at h
      subst h
      match cs, hc with
      | [c], _ => exact .cons ⟨m, x, ht, hs⟩ .nil

theorem Leaf.int {t : TypeId} {c : Value} {k : IntKind} (hu : P.underlying t = some (.int k)) (h : Leaf enc P w base spare held t c) : ∃ n, c = .int k n ∧ (Lit.int k n).wf = true := by
  obtain ⟨m, y, ht, _⟩ := h
  obtain ⟨n, e, _, hw⟩ := DataW.trod_int hu ht
  simp only [List.cons.injEq, and_true] at e
  exact ⟨n, e, hw⟩
theorem Leaf.bool {t : TypeId} {c : Value} (hu : P.underlying t = some .bool) (h : Leaf enc P w base spare held t c) : ∃ b, c = .bool b := by
  obtain ⟨m, y, ht, _⟩ := h
  obtain ⟨b, e, _⟩ := DataW.trod_bool hu ht
  simp only [List.cons.injEq, and_true] at e
  exact ⟨b, e⟩
theorem Leaf.string {t : TypeId} {c : Value} (hu : P.underlying t = some .string) (h : Leaf enc P w base spare held t c) : ∃ s : ByteArray, c = .string s ∧ s.size ≤ 140737488351232 := by
  obtain ⟨m, y, ht, hs⟩ := h
  obtain ⟨s, e, hy, _⟩ := DataW.trod_string hu ht
  simp only [List.cons.injEq, and_true] at e
  subst hy
  exact ⟨s, e, by have := hs s.data.toList.length (by simp [DataW.weights]); simpa using this⟩

theorem cells?_get {a : Addr} {n : Nat} {cs : List Value} (h : w.cells? base a n = some cs) : cs.length = n ∧ ∀ j u, cs[j]? = some u → w.cell? (a.add j) = some u := by
  obtain ⟨_, hl, hg⟩ := World.cells?_some h
  exact ⟨hl, fun j u hu => by
    have hj : j < n := by have := (List.getElem?_eq_some_iff.1 hu).1; omega
    rw [hg j hj]
    exact hu⟩

/-- A slice whose elements are flat structs: nil, or cells from an address on that read leaf by leaf. -/
theorem open_flat {t e : TypeId} {ts : List TypeId} {fuel n len cap B : Nat} {a : Option Addr} {x : DataW H × List MemPlace} (hu : P.underlying t = some (.slice e)) (hlf : leafs P n e = some ts) (h1 : ∀ t' ∈ ts, P.cellsOf t' = 1) (hce : P.cellsOf e = ts.length) (hB : P.bytesOf e = B)
    (h : DataW.trod enc P w base spare held fuel t [.slice a len cap] = some x) (hs : Sz P t x.1) :
    (a = none ∧ len = 0 ∧ cap = 0) ∨
    ∃ ad, a = some ad ∧ len ≤ cap ∧ cap ≤ maxLen ∧ len * B ≤ 140737488351232 ∧
      ∀ i, i < len → ∃ cs, All2 (Leaf enc P w base spare held) ts cs ∧ ∀ j u, cs[j]? = some u → ∃ b off, ad = ⟨b, off, none⟩ ∧ w.cell? ⟨b, off + (i * ts.length + j), none⟩ = some u := by
  rcases Deep.open_slice hu h with ⟨hcs, _⟩ | ⟨ad, l, c, m, n2, D, Pl, hcs, _, hl, hm, hmm, hx, hel⟩
  · simp only [List.cons.injEq, Value.slice.injEq, and_true] at hcs
    exact .inl hcs
  · simp only [List.cons.injEq, Value.slice.injEq, and_true] at hcs
    obtain ⟨rfl, rfl, rfl⟩ := hcs
    subst hx
    obtain ⟨hz, hze⟩ := Sz.slice hu hs
    simp only [List.length_map, List.length_range] at hz
    have hlm : len ≤ m := by rw [hmm]; split <;> omega
    refine .inr ⟨ad, rfl, hl, hm, ?_, fun i hi => ?_⟩
    · rw [hB] at hz
      exact Nat.le_trans (Nat.mul_le_mul_right _ (by omega)) hz
    · obtain ⟨cs, hc, ht⟩ := hel i (by omega)
      obtain ⟨hcl, hcg⟩ := cells?_get hc
      refine ⟨cs, leafs_all n n2 e ts cs _ hlf h1 (by rw [hcl, hce]) ht (hze _ (List.mem_map.2 ⟨i, by simpa using hi, rfl⟩)), fun j u hu => ?_⟩
      have hcell := hcg j u hu
      rw [hce] at hcell
      have hsp : ad.spot = none := by
        have h0 : 0 < cs.length := by have := (List.getElem?_eq_some_iff.1 hu).1; omega
        obtain ⟨cs0, hc0, _⟩ := hel 0 (by omega)
        obtain ⟨hcl0, hcg0⟩ := cells?_get hc0
        have h00 := hcg0 0 cs0[0] (List.getElem?_eq_getElem (by omega))
        have e0 : (ad.add (0 * P.cellsOf e)).add 0 = ad := by simp [Addr.add]
        rw [e0] at h00
        unfold World.cell? at h00
        split at h00
        · split at h00
          · simp at h00
          · rename_i hs; simpa using hs
        · simp at h00
      obtain ⟨b, off, sp⟩ := ad
      simp only at hsp
      subst hsp
      refine ⟨b, off, rfl, ?_⟩
      rw [Addr.add_lit, Addr.add_lit, Nat.add_assoc] at hcell
      exact hcell
end
end Go.Proofs.YtjchjpmgbmeohaaDoor

/- An account as an argument; what the listed variable reads as. -/
set_option linter.unusedSimpArgs false
set_option linter.unusedVariables false
namespace Go.Proofs.YtjchjpmgbmeohaaDoor
open Go.ChangeShapes Go.WideShapes Go.ChangeAt Go.RowKit
set_option maxRecDepth 20000

abbrev laids : List (String × DataW Unit) := [("bondstore/wide.Most", Rows.laid_bondstore_wide_Most)]
theorem gMost : Tryd.prog.globalNamed "bondstore/wide.Most" = some 0 := by kernel_rfl
theorem tMost : (Tryd.prog.globals[0]?).map (·.type) = some 24 := by kernel_rfl
theorem door_met (os : Os) (args : Array Value) : laidMetH Tryd.prog laids ((World.doorLaid Tryd.prog 400 os).forCall (fun _ _ => 0) ⟨#[], args, []⟩).memory :=
  laidMetH_of_parts3 (fuel := 8) (laidMet_of_run' 8 (by kernel_rfl) (by kernel_rfl)) (by kernel_rfl) (by kernel_rfl)
theorem most_of_laid {W : World} (h : laidMetH Tryd.prog laids W) : Most W := by
  rw [MakeChecks.laidMetH_plain _ _ _ (by kernel_rfl)] at h
  obtain ⟨ps, ⟨g0, t0, cs0, f0, p0, q0, hg0, ht0, hv0, hd0, _, _⟩, _, _⟩ := h
  obtain rfl := Option.some.inj (gMost.symm.trans hg0)
  obtain rfl := Option.some.inj (tMost.symm.trans ht0)
  obtain ⟨xs, k, rfl, hx, hcs, hxs, hel⟩ := DataW.trod_struct Tryd.underlying24 hd0
  have c1 : Tryd.prog.cellsOf 22 = 1 := by kernel_rfl
  have c2 : Tryd.prog.cellsOf 24 = 2 := by kernel_rfl
  have e0 : DataW.trod (fun _ => ()) Tryd.prog W 0 (fun _ => true) false k 22 ((cs0.toList.drop 0).take (Tryd.prog.cellsOf 22)) = xs[0]? := hel 0 _ rfl
  have e1 : DataW.trod (fun _ => ()) Tryd.prog W 0 (fun _ => true) false k 22 ((cs0.toList.drop 1).take (Tryd.prog.cellsOf 22)) = xs[1]? := hel 1 _ rfl
  rw [c1] at e0 e1
  rw [c2] at hcs
  obtain ⟨l⟩ := cs0
  match l, hcs, xs, hxs with
  | [u, v], _, [x0, x1], _ =>
    simp only [List.drop_zero, List.take_succ_cons, List.take_zero, List.drop_succ_cons, List.getElem?_cons_zero, List.getElem?_cons_succ] at e0 e1
    obtain ⟨n0, u0, v0, _⟩ := DataW.trod_int Tryd.underlying22 e0
    obtain ⟨n1, u1, v1, _⟩ := DataW.trod_int Tryd.underlying22 e1
    simp only [List.cons.injEq, and_true] at u0 u1
    subst u0 u1
    subst v0 v1
    simp only [Rows.laid_bondstore_wide_Most, Prod.mk.injEq, List.map_cons, List.map_nil, DataW.agg.injEq, List.cons.injEq, DataW.lit.injEq, Lit.int.injEq, and_true, true_and] at hx
    obtain ⟨⟨rfl, rfl⟩, _⟩ := hx
    exact ⟨by have := World.var?_cell hg0 hv0 0; simpa [M64] using this, by have := World.var?_cell hg0 hv0 1; simpa [M64] using this⟩

/-- A struct by value: its cells, leaf by leaf. -/
theorem open_agg {H : Type} {enc : TypeId × Value → H} {P : Program} {w : World} {base b0 n : Nat} {spare : Nat → Bool} {held : Bool} {r : Go.Reach} {t : TypeId} {ts : List TypeId} {fs : Array Field} {v : Value} {d : DataW H} {p : List MemPlace}
    (hs : P.underlying t = some (.struct fs)) (hl : leafs P n t = some ts) (h1 : ∀ t' ∈ ts, P.cellsOf t' = 1) (hC : P.cellsOf t = ts.length) (hv : Value.okWide P w r b0 t v) (h : DataW.Trod enc P w base spare held t v d p) (hz : Sz P t d) :
    ∃ cs : Array Value, v = .agg cs ∧ All2 (Leaf enc P w base spare held) ts cs.toList := by
  obtain ⟨cs, rfl, hsz⟩ := okWide_struct hs hv
  obtain ⟨fuel, hf⟩ := h
  exact ⟨cs, rfl, leafs_all n fuel t ts cs.toList _ hl h1 (by rw [Array.length_toList, hsz, hC]) hf hz⟩
theorem Leaf.u64 {H : Type} {enc : TypeId × Value → H} {P : Program} {w : World} {base : Nat} {spare : Nat → Bool} {held : Bool} {t : TypeId} {c : Value} (hu : P.underlying t = some (.int .u64)) (h : Leaf enc P w base spare held t c) : ∃ n, c = .int .u64 n ∧ 0 ≤ n ∧ n < 18446744073709551616 := by
  obtain ⟨n, e, hw⟩ := h.int hu
  refine ⟨n, e, ?_⟩
  simp only [Lit.wf, IntKind.min, IntKind.max, IntKind.signed, IntKind.bits, Bool.and_eq_true, decide_eq_true_eq] at hw
  simp at hw
  omega
theorem Leaf.i64 {H : Type} {enc : TypeId × Value → H} {P : Program} {w : World} {base : Nat} {spare : Nat → Bool} {held : Bool} {t : TypeId} {c : Value} (hu : P.underlying t = some (.int .i64)) (h : Leaf enc P w base spare held t c) : ∃ n, c = .int .i64 n ∧ -9223372036854775808 ≤ n ∧ n ≤ 9223372036854775807 := by
  obtain ⟨n, e, hw⟩ := h.int hu
  refine ⟨n, e, ?_⟩
  simp only [Lit.wf, IntKind.min, IntKind.max, IntKind.signed, IntKind.bits, Bool.and_eq_true, decide_eq_true_eq] at hw
  simp at hw
  omega

theorem leafs_Acc : leafs Tryd.prog 4 26 = some [22, 22, 22, 22, 22, 22, 22, 22, 22, 22, 3, 3, 3, 3] := by kernel_rfl
theorem open_acc {H : Type} {enc : TypeId × Value → H} {w : World} {base b0 : Nat} {spare : Nat → Bool} {held : Bool} {r : Go.Reach} {v : Value} {d : DataW H} {p : List MemPlace} (hv : Value.okWide Tryd.prog w r b0 26 v) (h : DataW.Trod enc Tryd.prog w base spare held 26 v d p) (hz : Sz Tryd.prog 26 d) :
    ∃ a : Acc, v = a.val ∧ a.ok := by
  obtain ⟨⟨cs⟩, rfl, hall⟩ := open_agg Tryd.underlying26 leafs_Acc (by
    have h : ([22, 3].all fun t => Tryd.prog.cellsOf t == 1) = true := by kernel_rfl
    intro t ht
    have := List.all_eq_true.1 h t (by simp at ht ⊢; omega)
    simpa using this) (by kernel_rfl) hv h hz
  have g : All2 (Leaf enc Tryd.prog w base spare held) _ cs := hall
  clear hall hv h hz
  obtain _ | ⟨l0, g⟩ := g
  obtain _ | ⟨l1, g⟩ := g
  obtain _ | ⟨l2, g⟩ := g
  obtain _ | ⟨l3, g⟩ := g
  obtain _ | ⟨l4, g⟩ := g
  obtain _ | ⟨l5, g⟩ := g
  obtain _ | ⟨l6, g⟩ := g
  obtain _ | ⟨l7, g⟩ := g
  obtain _ | ⟨l8, g⟩ := g
  obtain _ | ⟨l9, g⟩ := g
  obtain _ | ⟨l10, g⟩ := g
  obtain _ | ⟨l11, g⟩ := g
  obtain _ | ⟨l12, g⟩ := g
  obtain _ | ⟨l13, g⟩ := g
  cases g
  obtain ⟨n0, rfl, o0⟩ := l0.u64 Tryd.underlying22
  obtain ⟨n1, rfl, o1⟩ := l1.u64 Tryd.underlying22
  obtain ⟨n2, rfl, o2⟩ := l2.u64 Tryd.underlying22
  obtain ⟨n3, rfl, o3⟩ := l3.u64 Tryd.underlying22
  obtain ⟨n4, rfl, o4⟩ := l4.u64 Tryd.underlying22
  obtain ⟨n5, rfl, o5⟩ := l5.u64 Tryd.underlying22
  obtain ⟨n6, rfl, o6⟩ := l6.u64 Tryd.underlying22
  obtain ⟨n7, rfl, o7⟩ := l7.u64 Tryd.underlying22
  obtain ⟨n8, rfl, o8⟩ := l8.u64 Tryd.underlying22
  obtain ⟨n9, rfl, o9⟩ := l9.u64 Tryd.underlying22
  obtain ⟨n10, rfl, o10⟩ := l10.i64 Tryd.underlying3
  obtain ⟨n11, rfl, o11⟩ := l11.i64 Tryd.underlying3
  obtain ⟨n12, rfl, o12⟩ := l12.i64 Tryd.underlying3
  obtain ⟨n13, rfl, o13⟩ := l13.i64 Tryd.underlying3
  exact ⟨⟨⟨n0, n1⟩, ⟨n2, n3⟩, ⟨n4, n5⟩, ⟨n6, n7⟩, ⟨n8, n9⟩, n10, n11, n12, n13⟩, rfl, ⟨⟨o0.1, o0.2, o1.1, o1.2⟩, ⟨o2.1, o2.2, o3.1, o3.2⟩, ⟨o4.1, o4.2, o5.1, o5.2⟩, ⟨o6.1, o6.2, o7.1, o7.2⟩, ⟨o8.1, o8.2, o9.1, o9.2⟩, o10, o11, o12, o13⟩⟩
end Go.Proofs.YtjchjpmgbmeohaaDoor
