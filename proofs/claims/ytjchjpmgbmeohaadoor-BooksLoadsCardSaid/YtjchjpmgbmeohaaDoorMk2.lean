/- Several texts in one, for the law BooksBack: Acct, BkG, BkH, Loads, BkI. Each says what it shows; conditions: what each theorem names. -/
import Derived.Test.YtjchjpmgbmeohaaDoorProg
import Derived.Test.YtjchjpmgbmeohaaDoorMk1
import Derived.KernelRfl
import Derived.BigQuiet
import Derived.Lib.Hide
import Derived.Deep.DeepMust
import Derived.Deep.RegionLaw
import Derived.StillTailTactics
import Derived.Deep.RegionHeld3
import Derived.WalkKit
import Derived.Laws.Rows
import Derived.Deep.MidRow
import Derived.Deep.QuietTactic
/- wide.Zero; acct.Check, Again, Good. -/
set_option linter.unusedSimpArgs false
set_option linter.unusedVariables false
namespace Go.Proofs.YtjchjpmgbmeohaaDoor
open Go.RowKit

structure Acc where
  id : Nm
  dp : Nm
  dq : Nm
  cp : Nm
  cq : Nm
  ledger : Int
  code : Int
  flags : Int
  stamp : Int
def Acc.cells (a : Acc) : List Value := [.int .u64 a.id.hi, .int .u64 a.id.lo, .int .u64 a.dp.hi, .int .u64 a.dp.lo, .int .u64 a.dq.hi, .int .u64 a.dq.lo, .int .u64 a.cp.hi, .int .u64 a.cp.lo, .int .u64 a.cq.hi, .int .u64 a.cq.lo, .int .i64 a.ledger, .int .i64 a.code, .int .i64 a.flags, .int .i64 a.stamp]
def Acc.val (a : Acc) : Value := .agg #[.int .u64 a.id.hi, .int .u64 a.id.lo, .int .u64 a.dp.hi, .int .u64 a.dp.lo, .int .u64 a.dq.hi, .int .u64 a.dq.lo, .int .u64 a.cp.hi, .int .u64 a.cp.lo, .int .u64 a.cq.hi, .int .u64 a.cq.lo, .int .i64 a.ledger, .int .i64 a.code, .int .i64 a.flags, .int .i64 a.stamp]
structure Acc.ok (a : Acc) : Prop where
  id : a.id.ok
  dp : a.dp.ok
  dq : a.dq.ok
  cp : a.cp.ok
  cq : a.cq.ok
  ledger : -9223372036854775808 ≤ a.ledger ∧ a.ledger ≤ 9223372036854775807
  code : -9223372036854775808 ≤ a.code ∧ a.code ≤ 9223372036854775807
  flags : -9223372036854775808 ≤ a.flags ∧ a.flags ≤ 9223372036854775807
  stamp : -9223372036854775808 ≤ a.stamp ∧ a.stamp ≤ 9223372036854775807

def Acc.fresh (a : Acc) : Bool := a.dp.zero && (a.dq.zero && (a.cp.zero && (a.cq.zero && a.stamp == 0)))
theorem chain5 (p q r s t : Bool) : (p = false) ∨ (p = true ∧ q = false) ∨ (p = true ∧ q = true ∧ r = false) ∨ (p = true ∧ q = true ∧ r = true ∧ s = false) ∨ (p = true ∧ q = true ∧ r = true ∧ s = true ∧ t = false) ∨ (p = true ∧ q = true ∧ r = true ∧ s = true ∧ t = true) := by
  cases p <;> cases q <;> cases r <;> cases s <;> cases t <;> simp
/-- What is wrong with an account, as the program asks it. -/
def Acc.check (a : Acc) : Int :=
  if (bits .andNot .i64 a.flags 7 != 0) = true then 3 else if a.id.zero = true then 4 else if a.id.most = true then 5 else if (bits .and .i64 a.flags 6 == 6) = true then 6 else
  if a.fresh = false then 7 else if a.ledger < 1 ∨ 4294967295 < a.ledger then 8 else if a.code < 1 ∨ 65535 < a.code then 9 else 0

theorem chain7 (p q r s t u v : Bool) : (p = true) ∨ (p = false ∧ q = true) ∨ (p = false ∧ q = false ∧ r = true) ∨ (p = false ∧ q = false ∧ r = false ∧ s = true) ∨ (p = false ∧ q = false ∧ r = false ∧ s = false ∧ t = false) ∨ (p = false ∧ q = false ∧ r = false ∧ s = false ∧ t = true ∧ u = true) ∨
    (p = false ∧ q = false ∧ r = false ∧ s = false ∧ t = true ∧ u = false ∧ v = true) ∨ (p = false ∧ q = false ∧ r = false ∧ s = false ∧ t = true ∧ u = false ∧ v = false) := by
  cases p <;> cases q <;> cases r <;> cases s <;> cases t <;> cases u <;> cases v <;> simp

end Go.Proofs.YtjchjpmgbmeohaaDoor

/- books' Have, the document's. -/
set_option linter.unusedSimpArgs false
set_option linter.unusedVariables false
namespace Go.Proofs.YtjchjpmgbmeohaaDoor
open Go.RowKit

theorem blk_two {w : World} {g : Nat} {x y u v : Value} {t : TypeId} (h : w.heap[g]? = some (.cells #[x, y] t (0, 0))) : ((w.setCell ⟨g, 0, none⟩ u).setCell ⟨g, 1, none⟩ v).heap[g]? = some (.cells #[u, v] t (0, 0)) := by
  have h2 := blk_set (blk_set h 0 u) 1 v
  simpa using h2
theorem blk3 (w : World) (a b c d : Obj) : ((((w.alloc a).alloc b).alloc c).alloc d).heap[w.heap.size + 1 + 1 + 1]? = some d := by
  have h := heap_alloc_new (((w.alloc a).alloc b).alloc c) d
  simpa using h
def haveN (a : Acc) (debit : Bool) : Nm := if debit = true then nsub a.cq (ntot a.dp a.dq) else nsub a.dq (ntot a.cp a.cq)
set_option maxRecDepth 4000 in
set_option maxHeartbeats 6400000 in
theorem have_any (w : World) (a : Acc) (debit : Bool) (ha : a.ok) (hm : Most w) :
    Calls Tryd.prog 13 #[.agg #[.int .u64 a.id.hi, .int .u64 a.id.lo, .int .u64 a.dp.hi, .int .u64 a.dp.lo, .int .u64 a.dq.hi, .int .u64 a.dq.lo, .int .u64 a.cp.hi, .int .u64 a.cp.lo, .int .u64 a.cq.hi, .int .u64 a.cq.lo, .int .i64 a.ledger, .int .i64 a.code, .int .i64 a.flags, .int .i64 a.stamp], .bool debit] w fun e w' => e = .returned (.agg #[.int .u64 (haveN a debit).hi, .int .u64 (haveN a debit).lo]) ∧ Fr (fun _ => False) w w' := by
  have Ba := Lib.hid (blk_alloc (heap_alloc_new w (.cells #[.int .u64 a.id.hi, .int .u64 a.id.lo, .int .u64 a.dp.hi, .int .u64 a.dp.lo, .int .u64 a.dq.hi, .int .u64 a.dq.lo, .int .u64 a.cp.hi, .int .u64 a.cp.lo, .int .u64 a.cq.hi, .int .u64 a.cq.lo, .int .i64 a.ledger, .int .i64 a.code, .int .i64 a.flags, .int .i64 a.stamp] 26)) (.cells #[.int .u64 0, .int .u64 0] 24))
  have Bz := Lib.hid (blk1 w (.cells #[.int .u64 a.id.hi, .int .u64 a.id.lo, .int .u64 a.dp.hi, .int .u64 a.dp.lo, .int .u64 a.dq.hi, .int .u64 a.dq.lo, .int .u64 a.cp.hi, .int .u64 a.cp.lo, .int .u64 a.cq.hi, .int .u64 a.cq.lo, .int .i64 a.ledger, .int .i64 a.code, .int .i64 a.flags, .int .i64 a.stamp] 26) (.cells #[.int .u64 0, .int .u64 0] 24))
  have B2 := Lib.hid (blk2 w (.cells #[.int .u64 a.id.hi, .int .u64 a.id.lo, .int .u64 a.dp.hi, .int .u64 a.dp.lo, .int .u64 a.dq.hi, .int .u64 a.dq.lo, .int .u64 a.cp.hi, .int .u64 a.cp.lo, .int .u64 a.cq.hi, .int .u64 a.cq.lo, .int .i64 a.ledger, .int .i64 a.code, .int .i64 a.flags, .int .i64 a.stamp] 26) (.cells #[.int .u64 0, .int .u64 0] 24) (.cells #[.int .u64 0, .int .u64 0] 24))
  have B3 := Lib.hid (blk3 w (.cells #[.int .u64 a.id.hi, .int .u64 a.id.lo, .int .u64 a.dp.hi, .int .u64 a.dp.lo, .int .u64 a.dq.hi, .int .u64 a.dq.lo, .int .u64 a.cp.hi, .int .u64 a.cp.lo, .int .u64 a.cq.hi, .int .u64 a.cq.lo, .int .i64 a.ledger, .int .i64 a.code, .int .i64 a.flags, .int .i64 a.stamp] 26) (.cells #[.int .u64 0, .int .u64 0] 24) (.cells #[.int .u64 0, .int .u64 0] 24) (.cells #[.int .u64 0, .int .u64 0] 24))
  have FA := Lib.hid (((Fr.refl (fun _ => False) w).alloc (.cells #[.int .u64 a.id.hi, .int .u64 a.id.lo, .int .u64 a.dp.hi, .int .u64 a.dp.lo, .int .u64 a.dq.hi, .int .u64 a.dq.lo, .int .u64 a.cp.hi, .int .u64 a.cp.lo, .int .u64 a.cq.hi, .int .u64 a.cq.lo, .int .i64 a.ledger, .int .i64 a.code, .int .i64 a.flags, .int .i64 a.stamp] 26)).alloc (.cells #[.int .u64 0, .int .u64 0] 24))
  have HM := Lib.hid hm
  have HT1 := Lib.hid (fun W (h : Fr (fun _ => False) w W) => total_any W a.cp a.cq ha.cp ha.cq (HM.out.fr h (fun h => h)))
  have HT2 := Lib.hid (fun W (h : Fr (fun _ => False) w W) => total_any W a.dp a.dq ha.dp ha.dq (HM.out.fr h (fun h => h)))
  obtain ⟨t1, ht1⟩ : ∃ t, ntot a.cp a.cq = t := ⟨_, rfl⟩
  obtain ⟨t2, ht2⟩ : ∃ t, ntot a.dp a.dq = t := ⟨_, rfl⟩
  have k1 : t1.ok := ht1 ▸ ntot_ok ha.cp ha.cq
  have k2 : t2.ok := ht2 ▸ ntot_ok ha.dp ha.dq
  rw [ht1] at HT1
  rw [ht2] at HT2
  have HS1 := Lib.hid (fun W => nsub_any W a.dq t1 ha.dq k1)
  have HS2 := Lib.hid (fun W => nsub_any W a.cq t2 ha.cq k2)
  obtain ⟨R, hR⟩ : ∃ R, haveN a debit = R := ⟨_, rfl⟩
  rw [hR]
  unfold haveN at hR
  rw [ht1, ht2] at hR
  have HR := Lib.hid hR
  have q2 := blk_cell Ba.out 2 rfl; have q3 := blk_cell Ba.out 3 rfl; have q4 := blk_cell Ba.out 4 rfl; have q5 := blk_cell Ba.out 5 rfl; have q6 := blk_cell Ba.out 6 rfl; have q7 := blk_cell Ba.out 7 rfl; have q8 := blk_cell Ba.out 8 rfl; have q9 := blk_cell Ba.out 9 rfl
  clear hm ht1 ht2 k1 k2 hR ha
  have n1 : ¬ w.heap.size = w.heap.size + 1 + 1 := by omega
  have n2 : ¬ w.heap.size + 1 + 1 = w.heap.size := by omega
  have n3 : ¬ w.heap.size = w.heap.size + 1 + 1 + 1 := by omega
  have n4 : ¬ w.heap.size + 1 + 1 + 1 = w.heap.size := by omega
  have n5 : ¬ w.heap.size + 1 + 1 = w.heap.size + 1 + 1 + 1 := by omega
  have n6 : ¬ w.heap.size + 1 + 1 + 1 = w.heap.size + 1 + 1 := by omega
  go_enter Tryd.func13, Tryd.ntmps13
  go_upto_region 1 with fail
  go_cut [5, 6] from 9 (fun s5 s6 w' => ∃ g1 g2, s5 = .pointer (some ⟨g1, 0, none⟩) ∧ s6 = .pointer (some ⟨g2, 0, none⟩) ∧ g1 ≠ g2 ∧ w.heap.size + 1 < g1 ∧ w.heap.size + 1 < g2 ∧ w'.heap[g1]? = some (.cells #[.int .u64 a.dq.hi, .int .u64 a.dq.lo] 24 (0, 0)) ∧ w'.heap[g2]? = some (.cells #[.int .u64 t1.hi, .int .u64 t1.lo] 24 (0, 0)) ∧ w'.heap[w.heap.size]? = some (.cells #[.int .u64 a.id.hi, .int .u64 a.id.lo, .int .u64 a.dp.hi, .int .u64 a.dp.lo, .int .u64 a.dq.hi, .int .u64 a.dq.lo, .int .u64 a.cp.hi, .int .u64 a.cp.lo, .int .u64 a.cq.hi, .int .u64 a.cq.lo, .int .i64 a.ledger, .int .i64 a.code, .int .i64 a.flags, .int .i64 a.stamp] 26 (0, 0)) ∧ w'.heap[w.heap.size + 1]? = some (.cells #[.int .u64 0, .int .u64 0] 24 (0, 0)) ∧ Fr (fun _ => False) w w')
  case first =>
    go_region_held3 (fun w' => w'.cell? ⟨w.heap.size, 4, none⟩ = some (Value.int .u64 a.dq.hi) ∧ w'.cell? ⟨w.heap.size, 5, none⟩ = some (Value.int .u64 a.dq.lo) ∧ w'.cell? ⟨w.heap.size, 6, none⟩ = some (Value.int .u64 a.cp.hi) ∧ w'.cell? ⟨w.heap.size, 7, none⟩ = some (Value.int .u64 a.cp.lo) ∧ w'.cell? ⟨w.heap.size, 8, none⟩ = some (Value.int .u64 a.cq.hi) ∧ w'.cell? ⟨w.heap.size, 9, none⟩ = some (Value.int .u64 a.cq.lo))
      (first | exact ⟨q4, q5, q6, q7, q8, q9⟩ | go_keep)
      (first
        | (go_at_call 47; (with_reducible refine (HT1.out ((w.alloc (.cells #[.int .u64 a.id.hi, .int .u64 a.id.lo, .int .u64 a.dp.hi, .int .u64 a.dp.lo, .int .u64 a.dq.hi, .int .u64 a.dq.lo, .int .u64 a.cp.hi, .int .u64 a.cp.lo, .int .u64 a.cq.hi, .int .u64 a.cq.lo, .int .i64 a.ledger, .int .i64 a.code, .int .i64 a.flags, .int .i64 a.stamp] 26)).alloc (.cells #[.int .u64 0, .int .u64 0] 24)).drew FA.out.drew).mono ?_); rintro e w2 ⟨rfl, f2⟩; have F2 := Lib.hid (FA.out.drew.then_ f2 (fun _ h => h.elim)); have Ba2 := Lib.hid (f2.blk (blk_drew Ba.out) (fun h => h)); have Bz2 := Lib.hid (f2.blk (blk_drew Bz.out) (fun h => h)); have hsz : ((w.alloc (.cells #[.int .u64 a.id.hi, .int .u64 a.id.lo, .int .u64 a.dp.hi, .int .u64 a.dp.lo, .int .u64 a.dq.hi, .int .u64 a.dq.lo, .int .u64 a.cp.hi, .int .u64 a.cp.lo, .int .u64 a.cq.hi, .int .u64 a.cq.lo, .int .i64 a.ledger, .int .i64 a.code, .int .i64 a.flags, .int .i64 a.stamp] 26)).alloc (.cells #[.int .u64 0, .int .u64 0] 24)).heap.size = w.heap.size + 2 := (by simp); have hlz : w.heap.size + 2 ≤ w2.heap.size := hsz ▸ f2.size; have e4 : ¬ w.heap.size = w2.heap.size := (by omega); have e5 : ¬ w2.heap.size = w.heap.size := (by omega); have e6 : ¬ w.heap.size = w2.heap.size + 1 := (by omega); have e7 : ¬ w2.heap.size + 1 = w.heap.size := (by omega); have HK := Lib.hid hlz; clear hsz hlz; have c90 := blk_cell (heap_alloc_new w2 (.cells #[.int .u64 0, .int .u64 0] 24)) 0 rfl; have c91 := blk_cell (heap_alloc_new w2 (.cells #[.int .u64 0, .int .u64 0] 24)) 1 rfl; have d90 := blk_free (heap_alloc_new w2 (.cells #[.int .u64 0, .int .u64 0] 24)) 0; have d91 := blk_free (heap_alloc_new w2 (.cells #[.int .u64 0, .int .u64 0] 24)) 1; have q2 := blk_cell Ba2.out 2 rfl; have q3 := blk_cell Ba2.out 3 rfl; have q4 := blk_cell Ba2.out 4 rfl; have q5 := blk_cell Ba2.out 5 rfl; have q6 := blk_cell Ba2.out 6 rfl; have q7 := blk_cell Ba2.out 7 rfl; have q8 := blk_cell Ba2.out 8 rfl; have q9 := blk_cell Ba2.out 9 rfl; clear f2)
        | (go_at_call 47; (with_reducible refine (HT1.out ((((w.alloc (.cells #[.int .u64 a.id.hi, .int .u64 a.id.lo, .int .u64 a.dp.hi, .int .u64 a.dp.lo, .int .u64 a.dq.hi, .int .u64 a.dq.lo, .int .u64 a.cp.hi, .int .u64 a.cp.lo, .int .u64 a.cq.hi, .int .u64 a.cq.lo, .int .i64 a.ledger, .int .i64 a.code, .int .i64 a.flags, .int .i64 a.stamp] 26)).alloc (.cells #[.int .u64 0, .int .u64 0] 24)).alloc (.cells #[.int .u64 0, .int .u64 0] 24)).alloc (.cells #[.int .u64 0, .int .u64 0] 24)).drew ((FA.out.alloc (.cells #[.int .u64 0, .int .u64 0] 24)).alloc (.cells #[.int .u64 0, .int .u64 0] 24)).drew).mono ?_); rintro e w2 ⟨rfl, f2⟩; have F2 := Lib.hid (((FA.out.alloc (.cells #[.int .u64 0, .int .u64 0] 24)).alloc (.cells #[.int .u64 0, .int .u64 0] 24)).drew.then_ f2 (fun _ h => h.elim)); have Ba2 := Lib.hid (f2.blk (blk_drew (blk_alloc (blk_alloc Ba.out (.cells #[.int .u64 0, .int .u64 0] 24)) (.cells #[.int .u64 0, .int .u64 0] 24))) (fun h => h)); have Bz2 := Lib.hid (f2.blk (blk_drew (blk_alloc (blk_alloc Bz.out (.cells #[.int .u64 0, .int .u64 0] 24)) (.cells #[.int .u64 0, .int .u64 0] 24))) (fun h => h)); have hsz : ((((w.alloc (.cells #[.int .u64 a.id.hi, .int .u64 a.id.lo, .int .u64 a.dp.hi, .int .u64 a.dp.lo, .int .u64 a.dq.hi, .int .u64 a.dq.lo, .int .u64 a.cp.hi, .int .u64 a.cp.lo, .int .u64 a.cq.hi, .int .u64 a.cq.lo, .int .i64 a.ledger, .int .i64 a.code, .int .i64 a.flags, .int .i64 a.stamp] 26)).alloc (.cells #[.int .u64 0, .int .u64 0] 24)).alloc (.cells #[.int .u64 0, .int .u64 0] 24)).alloc (.cells #[.int .u64 0, .int .u64 0] 24)).heap.size = w.heap.size + 4 := (by simp); have hlz : w.heap.size + 4 ≤ w2.heap.size := hsz ▸ f2.size; have e4 : ¬ w.heap.size = w2.heap.size := (by omega); have e5 : ¬ w2.heap.size = w.heap.size := (by omega); have e6 : ¬ w.heap.size = w2.heap.size + 1 := (by omega); have e7 : ¬ w2.heap.size + 1 = w.heap.size := (by omega); have HK := Lib.hid hlz; clear hsz hlz; have hs2 : ((((w.alloc (.cells #[.int .u64 a.id.hi, .int .u64 a.id.lo, .int .u64 a.dp.hi, .int .u64 a.dp.lo, .int .u64 a.dq.hi, .int .u64 a.dq.lo, .int .u64 a.cp.hi, .int .u64 a.cp.lo, .int .u64 a.cq.hi, .int .u64 a.cq.lo, .int .i64 a.ledger, .int .i64 a.code, .int .i64 a.flags, .int .i64 a.stamp] 26)).alloc (.cells #[.int .u64 0, .int .u64 0] 24)).alloc (.cells #[.int .u64 0, .int .u64 0] 24)).alloc (.cells #[.int .u64 0, .int .u64 0] 24)).heap.size = w.heap.size + 4 := (by simp); have hl2 : w.heap.size + 4 ≤ w2.heap.size := hs2 ▸ f2.size; have e1 : ¬ w.heap.size + 1 + 1 = w2.heap.size := (by omega); have e2 : ¬ w2.heap.size = w.heap.size + 1 + 1 := (by omega); have e3 : ¬ w.heap.size + 1 + 1 = w2.heap.size + 1 := (by omega); clear hl2 hs2; have c90 := blk_cell (heap_alloc_new w2 (.cells #[.int .u64 0, .int .u64 0] 24)) 0 rfl; have c91 := blk_cell (heap_alloc_new w2 (.cells #[.int .u64 0, .int .u64 0] 24)) 1 rfl; have d90 := blk_free (heap_alloc_new w2 (.cells #[.int .u64 0, .int .u64 0] 24)) 0; have d91 := blk_free (heap_alloc_new w2 (.cells #[.int .u64 0, .int .u64 0] 24)) 1; have C2 := Lib.hid (f2.blk (blk_drew (blk_alloc B2.out (.cells #[.int .u64 0, .int .u64 0] 24))) (fun h => h)); have C3 := Lib.hid (f2.blk (blk_drew B3.out) (fun h => h)); have c20 := blk_cell C2.out 0 rfl; have c21 := blk_cell C2.out 1 rfl; have d20 := blk_free C2.out 0; have d21 := blk_free C2.out 1; have c30 := blk_cell C3.out 0 rfl; have c31 := blk_cell C3.out 1 rfl; have d30 := blk_free C3.out 0; have d31 := blk_free C3.out 1; have q2 := blk_cell Ba2.out 2 rfl; have q3 := blk_cell Ba2.out 3 rfl; have q4 := blk_cell Ba2.out 4 rfl; have q5 := blk_cell Ba2.out 5 rfl; have q6 := blk_cell Ba2.out 6 rfl; have q7 := blk_cell Ba2.out 7 rfl; have q8 := blk_cell Ba2.out 8 rfl; have q9 := blk_cell Ba2.out 9 rfl; clear f2)
        | (go_at_call 47; (with_reducible refine (HT1.out (((w.alloc (.cells #[.int .u64 a.id.hi, .int .u64 a.id.lo, .int .u64 a.dp.hi, .int .u64 a.dp.lo, .int .u64 a.dq.hi, .int .u64 a.dq.lo, .int .u64 a.cp.hi, .int .u64 a.cp.lo, .int .u64 a.cq.hi, .int .u64 a.cq.lo, .int .i64 a.ledger, .int .i64 a.code, .int .i64 a.flags, .int .i64 a.stamp] 26)).alloc (.cells #[.int .u64 0, .int .u64 0] 24)).alloc (.cells #[.int .u64 0, .int .u64 0] 24)).drew (FA.out.alloc (.cells #[.int .u64 0, .int .u64 0] 24)).drew).mono ?_); rintro e w2 ⟨rfl, f2⟩; have F2 := Lib.hid ((FA.out.alloc (.cells #[.int .u64 0, .int .u64 0] 24)).drew.then_ f2 (fun _ h => h.elim)); have Ba2 := Lib.hid (f2.blk (blk_drew (blk_alloc Ba.out (.cells #[.int .u64 0, .int .u64 0] 24))) (fun h => h)); have Bz2 := Lib.hid (f2.blk (blk_drew (blk_alloc Bz.out (.cells #[.int .u64 0, .int .u64 0] 24))) (fun h => h)); have hsz : (((w.alloc (.cells #[.int .u64 a.id.hi, .int .u64 a.id.lo, .int .u64 a.dp.hi, .int .u64 a.dp.lo, .int .u64 a.dq.hi, .int .u64 a.dq.lo, .int .u64 a.cp.hi, .int .u64 a.cp.lo, .int .u64 a.cq.hi, .int .u64 a.cq.lo, .int .i64 a.ledger, .int .i64 a.code, .int .i64 a.flags, .int .i64 a.stamp] 26)).alloc (.cells #[.int .u64 0, .int .u64 0] 24)).alloc (.cells #[.int .u64 0, .int .u64 0] 24)).heap.size = w.heap.size + 3 := (by simp); have hlz : w.heap.size + 3 ≤ w2.heap.size := hsz ▸ f2.size; have e4 : ¬ w.heap.size = w2.heap.size := (by omega); have e5 : ¬ w2.heap.size = w.heap.size := (by omega); have e6 : ¬ w.heap.size = w2.heap.size + 1 := (by omega); have e7 : ¬ w2.heap.size + 1 = w.heap.size := (by omega); have HK := Lib.hid hlz; clear hsz hlz; have hs2 : (((w.alloc (.cells #[.int .u64 a.id.hi, .int .u64 a.id.lo, .int .u64 a.dp.hi, .int .u64 a.dp.lo, .int .u64 a.dq.hi, .int .u64 a.dq.lo, .int .u64 a.cp.hi, .int .u64 a.cp.lo, .int .u64 a.cq.hi, .int .u64 a.cq.lo, .int .i64 a.ledger, .int .i64 a.code, .int .i64 a.flags, .int .i64 a.stamp] 26)).alloc (.cells #[.int .u64 0, .int .u64 0] 24)).alloc (.cells #[.int .u64 0, .int .u64 0] 24)).heap.size = w.heap.size + 3 := (by simp); have hl2 : w.heap.size + 3 ≤ w2.heap.size := hs2 ▸ f2.size; have e1 : ¬ w.heap.size + 1 + 1 = w2.heap.size := (by omega); have e2 : ¬ w2.heap.size = w.heap.size + 1 + 1 := (by omega); have e3 : ¬ w.heap.size + 1 + 1 = w2.heap.size + 1 := (by omega); clear hl2 hs2; have c90 := blk_cell (heap_alloc_new w2 (.cells #[.int .u64 0, .int .u64 0] 24)) 0 rfl; have c91 := blk_cell (heap_alloc_new w2 (.cells #[.int .u64 0, .int .u64 0] 24)) 1 rfl; have d90 := blk_free (heap_alloc_new w2 (.cells #[.int .u64 0, .int .u64 0] 24)) 0; have d91 := blk_free (heap_alloc_new w2 (.cells #[.int .u64 0, .int .u64 0] 24)) 1; have C2 := Lib.hid (f2.blk (blk_drew B2.out) (fun h => h)); have c20 := blk_cell C2.out 0 rfl; have c21 := blk_cell C2.out 1 rfl; have d20 := blk_free C2.out 0; have d21 := blk_free C2.out 1; have c2x0 := blk_cell (blk_alloc C2.out (.cells #[.int .u64 0, .int .u64 0] 24)) 0 rfl; have c2x1 := blk_cell (blk_alloc C2.out (.cells #[.int .u64 0, .int .u64 0] 24)) 1 rfl; have d2x0 := blk_free (blk_alloc C2.out (.cells #[.int .u64 0, .int .u64 0] 24)) 0; have d2x1 := blk_free (blk_alloc C2.out (.cells #[.int .u64 0, .int .u64 0] 24)) 1; have c2y0 := blk_cell (blk_alloc C2.out (.cells #[.int .u64 a.dq.hi, .int .u64 a.dq.lo] 24)) 0 rfl; have c2y1 := blk_cell (blk_alloc C2.out (.cells #[.int .u64 a.dq.hi, .int .u64 a.dq.lo] 24)) 1 rfl; have d2y0 := blk_free (blk_alloc C2.out (.cells #[.int .u64 a.dq.hi, .int .u64 a.dq.lo] 24)) 0; have d2y1 := blk_free (blk_alloc C2.out (.cells #[.int .u64 a.dq.hi, .int .u64 a.dq.lo] 24)) 1; have c2v0 := blk_cell (blk_alloc C2.out (.cells #[.int .u64 t1.hi, .int .u64 t1.lo] 24)) 0 rfl; have c2v1 := blk_cell (blk_alloc C2.out (.cells #[.int .u64 t1.hi, .int .u64 t1.lo] 24)) 1 rfl; have d2v0 := blk_free (blk_alloc C2.out (.cells #[.int .u64 t1.hi, .int .u64 t1.lo] 24)) 0; have d2v1 := blk_free (blk_alloc C2.out (.cells #[.int .u64 t1.hi, .int .u64 t1.lo] 24)) 1; have q2 := blk_cell Ba2.out 2 rfl; have q3 := blk_cell Ba2.out 3 rfl; have q4 := blk_cell Ba2.out 4 rfl; have q5 := blk_cell Ba2.out 5 rfl; have q6 := blk_cell Ba2.out 6 rfl; have q7 := blk_cell Ba2.out 7 rfl; have q8 := blk_cell Ba2.out 8 rfl; have q9 := blk_cell Ba2.out 9 rfl; clear f2))
    all_goals (go_wp2_with fail)
    all_goals go_meet
    all_goals
      have hk := HK.out
      refine ⟨_, _, rfl, rfl, by omega, by omega, by omega, ?_, ?_, ?_, ?_, ?_⟩
      · repeat (first | (with_reducible exact C2.out) | (with_reducible exact C3.out) | (with_reducible exact Ba2.out) | (with_reducible exact Bz2.out) | (with_reducible exact heap_alloc_new _ _) | (with_reducible exact blk1 _ _ _) | (with_reducible refine blk_two (x := .int .u64 0) (y := .int .u64 0) ?_) | (with_reducible refine blk_far2 ?_ (by omega) _) | (with_reducible refine blk_alloc ?_ _))
      · repeat (first | (with_reducible exact C2.out) | (with_reducible exact C3.out) | (with_reducible exact Ba2.out) | (with_reducible exact Bz2.out) | (with_reducible exact heap_alloc_new _ _) | (with_reducible exact blk1 _ _ _) | (with_reducible refine blk_two (x := .int .u64 0) (y := .int .u64 0) ?_) | (with_reducible refine blk_far2 ?_ (by omega) _) | (with_reducible refine blk_alloc ?_ _))
      · repeat (first | (with_reducible exact C2.out) | (with_reducible exact C3.out) | (with_reducible exact Ba2.out) | (with_reducible exact Bz2.out) | (with_reducible exact heap_alloc_new _ _) | (with_reducible exact blk1 _ _ _) | (with_reducible refine blk_two (x := .int .u64 0) (y := .int .u64 0) ?_) | (with_reducible refine blk_far2 ?_ (by omega) _) | (with_reducible refine blk_alloc ?_ _))
      · repeat (first | (with_reducible exact C2.out) | (with_reducible exact C3.out) | (with_reducible exact Ba2.out) | (with_reducible exact Bz2.out) | (with_reducible exact heap_alloc_new _ _) | (with_reducible exact blk1 _ _ _) | (with_reducible refine blk_two (x := .int .u64 0) (y := .int .u64 0) ?_) | (with_reducible refine blk_far2 ?_ (by omega) _) | (with_reducible refine blk_alloc ?_ _))
      · (repeat (first | (with_reducible exact Fr.refl _ _) | (with_reducible refine Fr.drew ?_) | (with_reducible refine Fr.drewN ?_ _) | (with_reducible refine Fr.alloc ?_ _) | (with_reducible refine Fr.set1 ?_ _) | (with_reducible refine Fr.setNew ?_ (by omega) _))) <;> exact F2.out
  case rest =>
  clear q2 q3 q4 q5 q6 q7 q8 q9 n1 n2 n3 n4 n5 n6 B2 B3
  obtain ⟨g1, g2, rfl, rfl, hne, hg1, hg2, hb1, hb2, hba, hbz, hf⟩ := hcut
  have HNe := Lib.hid hne
  have HG1 := Lib.hid hg1
  have HG2 := Lib.hid hg2
  have C1 := Lib.hid hb1
  have C2 := Lib.hid hb2
  have Ba := Lib.hid hba
  have Bz := Lib.hid hbz
  have FC := Lib.hid hf
  clear hne hg1 hg2 hb1 hb2 hba hbz hf
  cases debit
  · have HV := Lib.hid (show nsub a.dq t1 = R from by rw [← HR.out, if_neg (by decide)])
    rw [HV.out] at HS1
    have x0 := blk_cell C1.out 0 rfl; have x1 := blk_cell C1.out 1 rfl; have y0 := blk_cell C2.out 0 rfl; have y1 := blk_cell C2.out 1 rfl
    go_wp2_with fail
    refine (HS1.out _).mono ?_
    rintro e w3 ⟨rfl, f3⟩
    have F3 := Lib.hid ((FC.out.then_ f3 (fun _ h => h.elim)).alloc (.cells #[.int .u64 R.hi, .int .u64 R.lo] 24))
    have Bz3 := Lib.hid (blk_alloc (f3.blk Bz.out (fun h => h)) (.cells #[.int .u64 R.hi, .int .u64 R.lo] 24))
    clear f3
    go_wp2_with (first | ((refine wpList_store_row rfl 24 (.tmp 4) (.tmp 30) rfl (w.heap.size + 1) #[.int .u64 R.hi, .int .u64 R.lo] rfl rfl Bz3.out rfl rfl (by simp [Value.oneCell']) ?_); intro w9 hb9 f9; have HB9 := Lib.hid hb9; have F9 := Lib.hid f9; clear hb9 f9) | fail)
    refine bodyPost_ret (results_cell1 (p := 4) rfl _ _ (w.heap.size + 1) 24 _ (0, 0) _ rfl HB9.out Tryd.underlying24 rfl rfl) rfl ?_
    exact ⟨by first | (rfl; done) | simp, F3.out.then_ F9.out (fun k hk => .inr (by omega))⟩
  · have HV := Lib.hid (show nsub a.cq t2 = R from by rw [← HR.out, if_pos rfl])
    rw [HV.out] at HS2
    have q2 := blk_cell Ba.out 2 rfl; have q3 := blk_cell Ba.out 3 rfl; have q4 := blk_cell Ba.out 4 rfl; have q5 := blk_cell Ba.out 5 rfl; have q6 := blk_cell Ba.out 6 rfl; have q7 := blk_cell Ba.out 7 rfl; have q8 := blk_cell Ba.out 8 rfl; have q9 := blk_cell Ba.out 9 rfl
    have hn := HNe.out
    have hn' : ¬ g2 = g1 := fun e => hn e.symm
    have hg1 := HG1.out
    have hg2 := HG2.out
    have m1 : ¬ w.heap.size = g1 := by omega
    have m2 : ¬ w.heap.size = g2 := by omega
    have m3 : ¬ g1 = w.heap.size := by omega
    have m4 : ¬ g2 = w.heap.size := by omega
    clear hg1 hg2
    go_upto_region 3 with fail
    go_cut [] from 17 (fun w' => w'.heap[g1]? = some (.cells #[.int .u64 a.cq.hi, .int .u64 a.cq.lo] 24 (0, 0)) ∧ w'.heap[g2]? = some (.cells #[.int .u64 t2.hi, .int .u64 t2.lo] 24 (0, 0)) ∧ w'.heap[w.heap.size + 1]? = some (.cells #[.int .u64 0, .int .u64 0] 24 (0, 0)) ∧ Fr (fun _ => False) w w')
    case first =>
      go_region_held3 (fun w' => w'.cell? ⟨w.heap.size, 2, none⟩ = some (Value.int .u64 a.dp.hi) ∧ w'.cell? ⟨w.heap.size, 3, none⟩ = some (Value.int .u64 a.dp.lo) ∧ w'.cell? ⟨w.heap.size, 4, none⟩ = some (Value.int .u64 a.dq.hi) ∧ w'.cell? ⟨w.heap.size, 5, none⟩ = some (Value.int .u64 a.dq.lo) ∧ w'.cell? ⟨w.heap.size, 8, none⟩ = some (Value.int .u64 a.cq.hi) ∧ w'.cell? ⟨w.heap.size, 9, none⟩ = some (Value.int .u64 a.cq.lo))
        (first | exact ⟨q2, q3, q4, q5, q8, q9⟩ | go_keep)
        (first
          | (go_at_call 47; (with_reducible refine (HT2.out wc.drew FC.out.drew).mono ?_); rintro e w2 ⟨rfl, f2⟩; have F2 := Lib.hid (FC.out.drew.then_ f2 (fun _ h => h.elim)); have Ba2 := Lib.hid (f2.blk (blk_drew Ba.out) (fun h => h)); have Bz2 := Lib.hid (f2.blk (blk_drew Bz.out) (fun h => h)); have D1 := Lib.hid (f2.blk (blk_drew C1.out) (fun h => h)); have D2 := Lib.hid (f2.blk (blk_drew C2.out) (fun h => h)); have q2 := blk_cell Ba2.out 2 rfl; have q3 := blk_cell Ba2.out 3 rfl; have q4 := blk_cell Ba2.out 4 rfl; have q5 := blk_cell Ba2.out 5 rfl; have q6 := blk_cell Ba2.out 6 rfl; have q7 := blk_cell Ba2.out 7 rfl; have q8 := blk_cell Ba2.out 8 rfl; have q9 := blk_cell Ba2.out 9 rfl; have c10 := blk_cell D1.out 0 rfl; have c11 := blk_cell D1.out 1 rfl; have d10 := blk_free D1.out 0; have d11 := blk_free D1.out 1; have c20 := blk_cell D2.out 0 rfl; have c21 := blk_cell D2.out 1 rfl; have d20 := blk_free D2.out 0; have d21 := blk_free D2.out 1; clear f2))
      all_goals (go_wp2_with fail)
      all_goals go_meet
      all_goals
        have hg1 := HG1.out
        have hg2 := HG2.out
        refine ⟨?_, ?_, ?_, ?_⟩
        · repeat (first | (with_reducible exact D1.out) | (with_reducible exact D2.out) | (with_reducible exact Bz2.out) | (with_reducible refine blk_two (x := .int .u64 a.dq.hi) (y := .int .u64 a.dq.lo) ?_) | (with_reducible refine blk_far2 ?_ (by omega) _))
        · repeat (first | (with_reducible exact D1.out) | (with_reducible exact D2.out) | (with_reducible exact Bz2.out) | (with_reducible refine blk_two (x := .int .u64 t1.hi) (y := .int .u64 t1.lo) ?_) | (with_reducible refine blk_far2 ?_ (by omega) _))
        · repeat (first | (with_reducible exact D1.out) | (with_reducible exact D2.out) | (with_reducible exact Bz2.out) | (with_reducible refine blk_two (x := .int .u64 a.dq.hi) (y := .int .u64 a.dq.lo) ?_) | (with_reducible refine blk_far2 ?_ (by omega) _))
        · (repeat (first | (with_reducible exact Fr.refl _ _) | (with_reducible refine Fr.drew ?_) | (with_reducible refine Fr.drewN ?_ _) | (with_reducible refine Fr.alloc ?_ _) | (with_reducible refine Fr.set1 ?_ _) | (with_reducible refine Fr.setNew ?_ (by omega) _))) <;> exact F2.out
    case rest =>
    obtain ⟨hb1, hb2, hbz, hf⟩ := hcut
    have Bz2 := Lib.hid hbz
    have F2 := Lib.hid hf
    have x0 := blk_cell hb1 0 rfl; have x1 := blk_cell hb1 1 rfl; have y0 := blk_cell hb2 0 rfl; have y1 := blk_cell hb2 1 rfl
    clear hb1 hb2 hbz hf q2 q3 q4 q5 q6 q7 q8 q9
    go_wp2_with fail
    refine (HS2.out _).mono ?_
    rintro e w3 ⟨rfl, f3⟩
    have F3 := Lib.hid ((F2.out.then_ f3 (fun _ h => h.elim)).alloc (.cells #[.int .u64 R.hi, .int .u64 R.lo] 24))
    have Bz3 := Lib.hid (blk_alloc (f3.blk Bz2.out (fun h => h)) (.cells #[.int .u64 R.hi, .int .u64 R.lo] 24))
    clear f3
    go_wp2_with (first | ((refine wpList_store_row rfl 24 (.tmp 4) (.tmp 30) rfl (w.heap.size + 1) #[.int .u64 R.hi, .int .u64 R.lo] rfl rfl Bz3.out rfl rfl (by simp [Value.oneCell']) ?_); intro w9 hb9 f9; have HB9 := Lib.hid hb9; have F9 := Lib.hid f9; clear hb9 f9) | fail)
    refine bodyPost_ret (results_cell1 (p := 4) rfl _ _ (w.heap.size + 1) 24 _ (0, 0) _ rfl HB9.out Tryd.underlying24 rfl rfl) rfl ?_
    exact ⟨by first | (rfl; done) | simp, F3.out.then_ F9.out (fun k hk => .inr (by omega))⟩
end Go.Proofs.YtjchjpmgbmeohaaDoor

/- The document's Have. -/
set_option linter.unusedSimpArgs false
set_option linter.unusedVariables false
namespace Go.Proofs.YtjchjpmgbmeohaaDoor
open Go.RowKit

set_option maxRecDepth 4000 in
set_option maxHeartbeats 6400000 in
theorem refHave_any (w : World) (a : Acc) (debit : Bool) (ha : a.ok) :
    Calls Tryd.prog 14 #[.agg #[.int .u64 a.id.hi, .int .u64 a.id.lo, .int .u64 a.dp.hi, .int .u64 a.dp.lo, .int .u64 a.dq.hi, .int .u64 a.dq.lo, .int .u64 a.cp.hi, .int .u64 a.cp.lo, .int .u64 a.cq.hi, .int .u64 a.cq.lo, .int .i64 a.ledger, .int .i64 a.code, .int .i64 a.flags, .int .i64 a.stamp], .bool debit] w fun e w' => e = .returned (.agg #[.int .u64 (haveN a debit).hi, .int .u64 (haveN a debit).lo]) ∧ Fr (fun _ => False) w w' := by
  obtain ⟨R, hR0⟩ : ∃ R, haveN a debit = R := ⟨_, rfl⟩
  rw [hR0]
  have HR := Lib.hid hR0
  clear hR0
  cases debit
  · have hR : nsub a.dq (ntot a.cp a.cq) = R := by rw [← HR.out, haveN, if_neg (by decide)]
    have HP := Lib.hid (plus_any (((((w.alloc (.cells #[.int .u64 a.id.hi, .int .u64 a.id.lo, .int .u64 a.dp.hi, .int .u64 a.dp.lo, .int .u64 a.dq.hi, .int .u64 a.dq.lo, .int .u64 a.cp.hi, .int .u64 a.cp.lo, .int .u64 a.cq.hi, .int .u64 a.cq.lo, .int .i64 a.ledger, .int .i64 a.code, .int .i64 a.flags, .int .i64 a.stamp] 26)).alloc (.cells #[.int .u64 0, .int .u64 0] 24)).alloc (.cells #[.int .u64 a.dq.hi, .int .u64 a.dq.lo] 24)).alloc (.cells #[.int .u64 a.cp.hi, .int .u64 a.cp.lo] 24)).alloc (.cells #[.int .u64 a.cq.hi, .int .u64 a.cq.lo] 24)) a.cp a.cq ha.cp ha.cq)
    have FA := Lib.hid ((((((Fr.refl (fun _ => False) w).alloc (.cells #[.int .u64 a.id.hi, .int .u64 a.id.lo, .int .u64 a.dp.hi, .int .u64 a.dp.lo, .int .u64 a.dq.hi, .int .u64 a.dq.lo, .int .u64 a.cp.hi, .int .u64 a.cp.lo, .int .u64 a.cq.hi, .int .u64 a.cq.lo, .int .i64 a.ledger, .int .i64 a.code, .int .i64 a.flags, .int .i64 a.stamp] 26)).alloc (.cells #[.int .u64 0, .int .u64 0] 24)).alloc (.cells #[.int .u64 a.dq.hi, .int .u64 a.dq.lo] 24)).alloc (.cells #[.int .u64 a.cp.hi, .int .u64 a.cp.lo] 24)).alloc (.cells #[.int .u64 a.cq.hi, .int .u64 a.cq.lo] 24))
    have Bz := Lib.hid (blk_alloc (blk_alloc (blk_alloc (blk1 w (.cells #[.int .u64 a.id.hi, .int .u64 a.id.lo, .int .u64 a.dp.hi, .int .u64 a.dp.lo, .int .u64 a.dq.hi, .int .u64 a.dq.lo, .int .u64 a.cp.hi, .int .u64 a.cp.lo, .int .u64 a.cq.hi, .int .u64 a.cq.lo, .int .i64 a.ledger, .int .i64 a.code, .int .i64 a.flags, .int .i64 a.stamp] 26) (.cells #[.int .u64 0, .int .u64 0] 24)) (.cells #[.int .u64 a.dq.hi, .int .u64 a.dq.lo] 24)) (.cells #[.int .u64 a.cp.hi, .int .u64 a.cp.lo] 24)) (.cells #[.int .u64 a.cq.hi, .int .u64 a.cq.lo] 24))
    have Bh := Lib.hid (blk_alloc (blk_alloc (blk2 w (.cells #[.int .u64 a.id.hi, .int .u64 a.id.lo, .int .u64 a.dp.hi, .int .u64 a.dp.lo, .int .u64 a.dq.hi, .int .u64 a.dq.lo, .int .u64 a.cp.hi, .int .u64 a.cp.lo, .int .u64 a.cq.hi, .int .u64 a.cq.lo, .int .i64 a.ledger, .int .i64 a.code, .int .i64 a.flags, .int .i64 a.stamp] 26) (.cells #[.int .u64 0, .int .u64 0] 24) (.cells #[.int .u64 a.dq.hi, .int .u64 a.dq.lo] 24)) (.cells #[.int .u64 a.cp.hi, .int .u64 a.cp.lo] 24)) (.cells #[.int .u64 a.cq.hi, .int .u64 a.cq.lo] 24))
    obtain ⟨t, ht⟩ : ∃ t, ntot a.cp a.cq = t := ⟨_, rfl⟩
    have htk : t.ok := ht ▸ ntot_ok ha.cp ha.cq
    rw [ht] at hR
    have HS := Lib.hid (fun W => refSub_any W a.dq t ha.dq htk)
    rw [hR] at HS
    unfold ntot at ht
    obtain ⟨s, hs⟩ : ∃ s, nadd a.cp a.cq = s := ⟨_, rfl⟩
    obtain ⟨q, hq⟩ : ∃ q, nfit a.cp a.cq = q := ⟨_, rfl⟩
    rw [hs, hq] at ht HP
    have HTt := Lib.hid ht
    clear ht hs hq hR htk ha
    cases q
    · have HV := Lib.hid (show t = mostN from by rw [← HTt.out, if_neg (by decide)])
      rw [HV.out] at HS
      have HMo := Lib.hid (fun W => refMost_any W)
      go_enter Tryd.func14, Tryd.ntmps14
      go_wp2_with fail
      refine HP.out.mono ?_
      rintro e w2 ⟨rfl, f2⟩
      have F2 := Lib.hid ((FA.out.then_ f2 (fun _ h => h.elim)).alloc (.cells #[.int .u64 s.hi, .int .u64 s.lo] 24))
      have Bz2 := Lib.hid (blk_alloc (f2.blk Bz.out (fun h => h)) (.cells #[.int .u64 s.hi, .int .u64 s.lo] 24))
      have Bh2 := Lib.hid (blk_alloc (f2.blk Bh.out (fun h => h)) (.cells #[.int .u64 s.hi, .int .u64 s.lo] 24))
      have B8 := Lib.hid (heap_alloc_new w2 (.cells #[.int .u64 s.hi, .int .u64 s.lo] 24))
      have HG := Lib.hid (show w.heap.size + 1 + 1 < w2.heap.size from blk_lt (f2.blk Bh.out (fun h => h)))
      clear f2
      go_wp2_with fail
      refine (HMo.out _).mono ?_
      rintro e w3 ⟨rfl, f3⟩
      have F3 := Lib.hid (F2.out.then_ f3 (fun _ h => h.elim))
      have Bz3 := Lib.hid (f3.blk Bz2.out (fun h => h))
      have Bh3 := Lib.hid (f3.blk Bh2.out (fun h => h))
      have B83 := Lib.hid (f3.blk B8.out (fun h => h))
      clear f3
      obtain ⟨G, hG⟩ : ∃ G, w2.heap.size = G := ⟨_, rfl⟩
      rw [hG] at B83 HG ⊢
      clear hG B8
      go_wp2_with (first | ((refine wpList_store_row rfl 24 (.tmp 8) (.tmp 33) rfl G #[.int .u64 mostN.hi, .int .u64 mostN.lo] rfl rfl B83.out rfl rfl (by simp [Value.oneCell']) ?_); intro w5 hb5 f5; have x0 := blk_cell hb5 0 rfl; have x1 := blk_cell hb5 1 rfl; have F5 := Lib.hid (F3.out.then_ f5 (fun k hk => .inr (by have := HG.out; omega))); have Bz5 := Lib.hid (f5.blk Bz3.out (by have := HG.out; omega)); have hbh := f5.blk Bh3.out (by have := HG.out; omega); have y0 := blk_cell hbh 0 rfl; have y1 := blk_cell hbh 1 rfl; clear hb5 f5 hbh) | fail)
      refine (HS.out _).mono ?_
      rintro e w4 ⟨rfl, f4⟩
      have F4 := Lib.hid ((F5.out.then_ f4 (fun _ h => h.elim)).alloc (.cells #[.int .u64 R.hi, .int .u64 R.lo] 24))
      have Bz4 := Lib.hid (blk_alloc (f4.blk Bz5.out (fun h => h)) (.cells #[.int .u64 R.hi, .int .u64 R.lo] 24))
      clear f4
      go_wp2_with (first | ((refine wpList_store_row rfl 24 (.tmp 4) (.tmp 40) rfl (w.heap.size + 1) #[.int .u64 R.hi, .int .u64 R.lo] rfl rfl Bz4.out rfl rfl (by simp [Value.oneCell']) ?_); intro w9 hb9 f9; have HB9 := Lib.hid hb9; have F9 := Lib.hid f9; clear hb9 f9) | fail)
      refine bodyPost_ret (results_cell1 (p := 4) rfl _ _ (w.heap.size + 1) 24 _ (0, 0) _ rfl HB9.out Tryd.underlying24 rfl rfl) rfl ?_
      exact ⟨by first | (rfl; done) | simp, F4.out.then_ F9.out (fun k hk => .inr (by omega))⟩
    · have HV := Lib.hid (show t = s from by rw [← HTt.out, if_pos rfl])
      rw [HV.out] at HS
      go_enter Tryd.func14, Tryd.ntmps14
      go_wp2_with fail
      refine HP.out.mono ?_
      rintro e w2 ⟨rfl, f2⟩
      have F2 := Lib.hid ((FA.out.then_ f2 (fun _ h => h.elim)).alloc (.cells #[.int .u64 s.hi, .int .u64 s.lo] 24))
      have Bz2 := Lib.hid (blk_alloc (f2.blk Bz.out (fun h => h)) (.cells #[.int .u64 s.hi, .int .u64 s.lo] 24))
      have hbh := blk_alloc (f2.blk Bh.out (fun h => h)) (.cells #[.int .u64 s.hi, .int .u64 s.lo] 24)
      have y0 := blk_cell hbh 0 rfl; have y1 := blk_cell hbh 1 rfl
      clear f2 hbh
      go_wp2_with fail
      refine (HS.out _).mono ?_
      rintro e w4 ⟨rfl, f4⟩
      have F4 := Lib.hid ((F2.out.then_ f4 (fun _ h => h.elim)).alloc (.cells #[.int .u64 R.hi, .int .u64 R.lo] 24))
      have Bz4 := Lib.hid (blk_alloc (f4.blk Bz2.out (fun h => h)) (.cells #[.int .u64 R.hi, .int .u64 R.lo] 24))
      clear f4
      go_wp2_with (first | ((refine wpList_store_row rfl 24 (.tmp 4) (.tmp 40) rfl (w.heap.size + 1) #[.int .u64 R.hi, .int .u64 R.lo] rfl rfl Bz4.out rfl rfl (by simp [Value.oneCell']) ?_); intro w9 hb9 f9; have HB9 := Lib.hid hb9; have F9 := Lib.hid f9; clear hb9 f9) | fail)
      refine bodyPost_ret (results_cell1 (p := 4) rfl _ _ (w.heap.size + 1) 24 _ (0, 0) _ rfl HB9.out Tryd.underlying24 rfl rfl) rfl ?_
      exact ⟨by first | (rfl; done) | simp, F4.out.then_ F9.out (fun k hk => .inr (by omega))⟩
  · have hR : nsub a.cq (ntot a.dp a.dq) = R := by rw [← HR.out, haveN, if_pos rfl]
    have HP := Lib.hid (plus_any (((((w.alloc (.cells #[.int .u64 a.id.hi, .int .u64 a.id.lo, .int .u64 a.dp.hi, .int .u64 a.dp.lo, .int .u64 a.dq.hi, .int .u64 a.dq.lo, .int .u64 a.cp.hi, .int .u64 a.cp.lo, .int .u64 a.cq.hi, .int .u64 a.cq.lo, .int .i64 a.ledger, .int .i64 a.code, .int .i64 a.flags, .int .i64 a.stamp] 26)).alloc (.cells #[.int .u64 0, .int .u64 0] 24)).alloc (.cells #[.int .u64 a.cq.hi, .int .u64 a.cq.lo] 24)).alloc (.cells #[.int .u64 a.dp.hi, .int .u64 a.dp.lo] 24)).alloc (.cells #[.int .u64 a.dq.hi, .int .u64 a.dq.lo] 24)) a.dp a.dq ha.dp ha.dq)
    have FA := Lib.hid ((((((Fr.refl (fun _ => False) w).alloc (.cells #[.int .u64 a.id.hi, .int .u64 a.id.lo, .int .u64 a.dp.hi, .int .u64 a.dp.lo, .int .u64 a.dq.hi, .int .u64 a.dq.lo, .int .u64 a.cp.hi, .int .u64 a.cp.lo, .int .u64 a.cq.hi, .int .u64 a.cq.lo, .int .i64 a.ledger, .int .i64 a.code, .int .i64 a.flags, .int .i64 a.stamp] 26)).alloc (.cells #[.int .u64 0, .int .u64 0] 24)).alloc (.cells #[.int .u64 a.cq.hi, .int .u64 a.cq.lo] 24)).alloc (.cells #[.int .u64 a.dp.hi, .int .u64 a.dp.lo] 24)).alloc (.cells #[.int .u64 a.dq.hi, .int .u64 a.dq.lo] 24))
    have Bz := Lib.hid (blk_alloc (blk_alloc (blk_alloc (blk1 w (.cells #[.int .u64 a.id.hi, .int .u64 a.id.lo, .int .u64 a.dp.hi, .int .u64 a.dp.lo, .int .u64 a.dq.hi, .int .u64 a.dq.lo, .int .u64 a.cp.hi, .int .u64 a.cp.lo, .int .u64 a.cq.hi, .int .u64 a.cq.lo, .int .i64 a.ledger, .int .i64 a.code, .int .i64 a.flags, .int .i64 a.stamp] 26) (.cells #[.int .u64 0, .int .u64 0] 24)) (.cells #[.int .u64 a.cq.hi, .int .u64 a.cq.lo] 24)) (.cells #[.int .u64 a.dp.hi, .int .u64 a.dp.lo] 24)) (.cells #[.int .u64 a.dq.hi, .int .u64 a.dq.lo] 24))
    have Bh := Lib.hid (blk_alloc (blk_alloc (blk2 w (.cells #[.int .u64 a.id.hi, .int .u64 a.id.lo, .int .u64 a.dp.hi, .int .u64 a.dp.lo, .int .u64 a.dq.hi, .int .u64 a.dq.lo, .int .u64 a.cp.hi, .int .u64 a.cp.lo, .int .u64 a.cq.hi, .int .u64 a.cq.lo, .int .i64 a.ledger, .int .i64 a.code, .int .i64 a.flags, .int .i64 a.stamp] 26) (.cells #[.int .u64 0, .int .u64 0] 24) (.cells #[.int .u64 a.cq.hi, .int .u64 a.cq.lo] 24)) (.cells #[.int .u64 a.dp.hi, .int .u64 a.dp.lo] 24)) (.cells #[.int .u64 a.dq.hi, .int .u64 a.dq.lo] 24))
    obtain ⟨t, ht⟩ : ∃ t, ntot a.dp a.dq = t := ⟨_, rfl⟩
    have htk : t.ok := ht ▸ ntot_ok ha.dp ha.dq
    rw [ht] at hR
    have HS := Lib.hid (fun W => refSub_any W a.cq t ha.cq htk)
    rw [hR] at HS
    unfold ntot at ht
    obtain ⟨s, hs⟩ : ∃ s, nadd a.dp a.dq = s := ⟨_, rfl⟩
    obtain ⟨q, hq⟩ : ∃ q, nfit a.dp a.dq = q := ⟨_, rfl⟩
    rw [hs, hq] at ht HP
    have HTt := Lib.hid ht
    clear ht hs hq hR htk ha
    cases q
    · have HV := Lib.hid (show t = mostN from by rw [← HTt.out, if_neg (by decide)])
      rw [HV.out] at HS
      have HMo := Lib.hid (fun W => refMost_any W)
      go_enter Tryd.func14, Tryd.ntmps14
      go_wp2_with fail
      refine HP.out.mono ?_
      rintro e w2 ⟨rfl, f2⟩
      have F2 := Lib.hid ((FA.out.then_ f2 (fun _ h => h.elim)).alloc (.cells #[.int .u64 s.hi, .int .u64 s.lo] 24))
      have Bz2 := Lib.hid (blk_alloc (f2.blk Bz.out (fun h => h)) (.cells #[.int .u64 s.hi, .int .u64 s.lo] 24))
      have Bh2 := Lib.hid (blk_alloc (f2.blk Bh.out (fun h => h)) (.cells #[.int .u64 s.hi, .int .u64 s.lo] 24))
      have B8 := Lib.hid (heap_alloc_new w2 (.cells #[.int .u64 s.hi, .int .u64 s.lo] 24))
      have HG := Lib.hid (show w.heap.size + 1 + 1 < w2.heap.size from blk_lt (f2.blk Bh.out (fun h => h)))
      clear f2
      go_wp2_with fail
      refine (HMo.out _).mono ?_
      rintro e w3 ⟨rfl, f3⟩
      have F3 := Lib.hid (F2.out.then_ f3 (fun _ h => h.elim))
      have Bz3 := Lib.hid (f3.blk Bz2.out (fun h => h))
      have Bh3 := Lib.hid (f3.blk Bh2.out (fun h => h))
      have B83 := Lib.hid (f3.blk B8.out (fun h => h))
      clear f3
      obtain ⟨G, hG⟩ : ∃ G, w2.heap.size = G := ⟨_, rfl⟩
      rw [hG] at B83 HG ⊢
      clear hG B8
      go_wp2_with (first | ((refine wpList_store_row rfl 24 (.tmp 8) (.tmp 33) rfl G #[.int .u64 mostN.hi, .int .u64 mostN.lo] rfl rfl B83.out rfl rfl (by simp [Value.oneCell']) ?_); intro w5 hb5 f5; have x0 := blk_cell hb5 0 rfl; have x1 := blk_cell hb5 1 rfl; have F5 := Lib.hid (F3.out.then_ f5 (fun k hk => .inr (by have := HG.out; omega))); have Bz5 := Lib.hid (f5.blk Bz3.out (by have := HG.out; omega)); have hbh := f5.blk Bh3.out (by have := HG.out; omega); have y0 := blk_cell hbh 0 rfl; have y1 := blk_cell hbh 1 rfl; clear hb5 f5 hbh) | fail)
      refine (HS.out _).mono ?_
      rintro e w4 ⟨rfl, f4⟩
      have F4 := Lib.hid ((F5.out.then_ f4 (fun _ h => h.elim)).alloc (.cells #[.int .u64 R.hi, .int .u64 R.lo] 24))
      have Bz4 := Lib.hid (blk_alloc (f4.blk Bz5.out (fun h => h)) (.cells #[.int .u64 R.hi, .int .u64 R.lo] 24))
      clear f4
      go_wp2_with (first | ((refine wpList_store_row rfl 24 (.tmp 4) (.tmp 40) rfl (w.heap.size + 1) #[.int .u64 R.hi, .int .u64 R.lo] rfl rfl Bz4.out rfl rfl (by simp [Value.oneCell']) ?_); intro w9 hb9 f9; have HB9 := Lib.hid hb9; have F9 := Lib.hid f9; clear hb9 f9) | fail)
      refine bodyPost_ret (results_cell1 (p := 4) rfl _ _ (w.heap.size + 1) 24 _ (0, 0) _ rfl HB9.out Tryd.underlying24 rfl rfl) rfl ?_
      exact ⟨by first | (rfl; done) | simp, F4.out.then_ F9.out (fun k hk => .inr (by omega))⟩
    · have HV := Lib.hid (show t = s from by rw [← HTt.out, if_pos rfl])
      rw [HV.out] at HS
      go_enter Tryd.func14, Tryd.ntmps14
      go_wp2_with fail
      refine HP.out.mono ?_
      rintro e w2 ⟨rfl, f2⟩
      have F2 := Lib.hid ((FA.out.then_ f2 (fun _ h => h.elim)).alloc (.cells #[.int .u64 s.hi, .int .u64 s.lo] 24))
      have Bz2 := Lib.hid (blk_alloc (f2.blk Bz.out (fun h => h)) (.cells #[.int .u64 s.hi, .int .u64 s.lo] 24))
      have hbh := blk_alloc (f2.blk Bh.out (fun h => h)) (.cells #[.int .u64 s.hi, .int .u64 s.lo] 24)
      have y0 := blk_cell hbh 0 rfl; have y1 := blk_cell hbh 1 rfl
      clear f2 hbh
      go_wp2_with fail
      refine (HS.out _).mono ?_
      rintro e w4 ⟨rfl, f4⟩
      have F4 := Lib.hid ((F2.out.then_ f4 (fun _ h => h.elim)).alloc (.cells #[.int .u64 R.hi, .int .u64 R.lo] 24))
      have Bz4 := Lib.hid (blk_alloc (f4.blk Bz2.out (fun h => h)) (.cells #[.int .u64 R.hi, .int .u64 R.lo] 24))
      clear f4
      go_wp2_with (first | ((refine wpList_store_row rfl 24 (.tmp 4) (.tmp 40) rfl (w.heap.size + 1) #[.int .u64 R.hi, .int .u64 R.lo] rfl rfl Bz4.out rfl rfl (by simp [Value.oneCell']) ?_); intro w9 hb9 f9; have HB9 := Lib.hid hb9; have F9 := Lib.hid f9; clear hb9 f9) | fail)
      refine bodyPost_ret (results_cell1 (p := 4) rfl _ _ (w.heap.size + 1) 24 _ (0, 0) _ rfl HB9.out Tryd.underlying24 rfl rfl) rfl ?_
      exact ⟨by first | (rfl; done) | simp, F4.out.then_ F9.out (fun k hk => .inr (by omega))⟩
end Go.Proofs.YtjchjpmgbmeohaaDoor

/- The load of a whole struct out of a block that is known whole, at a plain operation and at a guarded one: no unrolling (cell by cell a struct of 16 cells costs the kernel 16 s). -/
set_option linter.unusedSimpArgs false
set_option linter.unusedVariables false
namespace Go.Proofs.YtjchjpmgbmeohaaDoor
open Go.RowKit

theorem wpList_load_row_w {P : Program} {ops : Array Oper} {rest : List Oper} {o : Oper} {a : Act} {w : World} {Q : Exit → Act → World → Prop} (hw : Region.wanted o (yielded ops a.tmps) = true) (ty : TypeId) (x : Operand) (ho : o.op = .load ty x)
    (g : Nat) (hx : a.eval x = .pointer (some ⟨g, 0, none⟩)) (t : TypeId) (cs : Array Value) (fr : Nat × Nat) (d : TypeDesc) (hg : w.heap[g]? = some (.cells cs t fr))
    (hu : P.underlying ty = some d) (hd : (match d with | .struct _ | .array _ _ => true | _ => false) = true) (hi : (P.info? ty).map (·.size) = some cs.size)
    (h : wpList P ops Q rest (a.put o.dst (.agg cs)) w) : wpList P ops Q (o :: rest) a w :=
  wpList_step fun K hK => by
    rw [if_pos hw]
    exact wp_load_row ty x ho g hx t cs fr d hg hu hd hi (hK _ _ h)
end Go.Proofs.YtjchjpmgbmeohaaDoor

/- books' Debit, Credit. -/
set_option linter.unusedSimpArgs false
set_option linter.unusedVariables false
namespace Go.Proofs.YtjchjpmgbmeohaaDoor
open Go.RowKit

theorem haveN_ok {a : Acc} {d : Bool} (h : a.ok) : (haveN a d).ok := by
  unfold haveN
  split
  · exact nsub_ok h.cq (ntot_ok h.dp h.dq)
  · exact nsub_ok h.dq (ntot_ok h.cp h.cq)
def ovf (x y n : Nm) : Bool := nfit x y && nfit (nadd x y) n
theorem sums3 {x y n : Nm} (hx : x.ok) : (sums ⟨0, 0⟩ [x, y, n]).isSome = ovf x y n := by
  have h0 : nadd ⟨0, 0⟩ x = x := by
    have h := Nm.v_in hx
    unfold nadd
    rw [show (⟨0, 0⟩ : Nm).v = 0 from rfl, Int.zero_add, if_pos h.2, Nm.of_v hx]
  have h1 : nfit ⟨0, 0⟩ x = true := by
    have h := Nm.v_in hx
    unfold nfit
    rw [show (⟨0, 0⟩ : Nm).v = 0 from rfl, Int.zero_add]
    exact decide_eq_true h.2
  simp only [sums, h1, h0, if_true, ovf]
  cases nfit x y
  · rfl
  · simp only [if_true, Bool.true_and]
    cases nfit (nadd x y) n <;> rfl
def flagOn (a : Acc) (debit : Bool) : Bool := bits .and .i64 a.flags (if debit = true then 2 else 4) != 0
def updA (a : Acc) (debit : Bool) (n : Nm) (pn : Bool) : Acc :=
  if debit = true then (if pn = true then { a with dp := nadd a.dp n } else { a with dq := nadd a.dq n })
  else (if pn = true then { a with cp := nadd a.cp n } else { a with cq := nadd a.cq n })
def moreA (a : Acc) (debit : Bool) (n : Nm) (pn : Bool) : Acc :=
  if ovf (if debit = true then a.dp else a.cp) (if debit = true then a.dq else a.cq) n = true then (if (flagOn a debit && nless (haveN a debit) n) = true then a else updA a debit n pn) else a
def moreR (a : Acc) (debit : Bool) (n : Nm) : Int :=
  if ovf (if debit = true then a.dp else a.cp) (if debit = true then a.dq else a.cq) n = true then (if (flagOn a debit && nless (haveN a debit) n) = true then (if debit = true then 33 else 34) else 0) else 32

set_option maxRecDepth 4000 in
set_option maxHeartbeats 6400000 in
theorem Debit_any (w : World) (a : Acc) (n : Nm) (pn : Bool) (ha0 : a.ok) (hn0 : n.ok) (hm : Most w) :
    Calls Tryd.prog 11 #[.agg #[.int .u64 a.id.hi, .int .u64 a.id.lo, .int .u64 a.dp.hi, .int .u64 a.dp.lo, .int .u64 a.dq.hi, .int .u64 a.dq.lo, .int .u64 a.cp.hi, .int .u64 a.cp.lo, .int .u64 a.cq.hi, .int .u64 a.cq.lo, .int .i64 a.ledger, .int .i64 a.code, .int .i64 a.flags, .int .i64 a.stamp], .agg #[.int .u64 n.hi, .int .u64 n.lo], .bool pn] w fun e w' => e = .returned (.tuple #[(moreA a true n pn).val, .int .i64 (moreR a true n)]) ∧ Fr (fun _ => False) w w' := by
  have ha := Lib.hid ha0
  have hn := Lib.hid hn0
  have HM := Lib.hid hm
  have Ba := Lib.hid (blk_alloc (blk_alloc (blk_alloc (heap_alloc_new w (.cells #[.int .u64 a.id.hi, .int .u64 a.id.lo, .int .u64 a.dp.hi, .int .u64 a.dp.lo, .int .u64 a.dq.hi, .int .u64 a.dq.lo, .int .u64 a.cp.hi, .int .u64 a.cp.lo, .int .u64 a.cq.hi, .int .u64 a.cq.lo, .int .i64 a.ledger, .int .i64 a.code, .int .i64 a.flags, .int .i64 a.stamp] 26)) (.cells #[.int .u64 n.hi, .int .u64 n.lo] 24)) (.cells #[.int .u64 0, .int .u64 0, .int .u64 0, .int .u64 0, .int .u64 0, .int .u64 0, .int .u64 0, .int .u64 0, .int .u64 0, .int .u64 0, .int .i64 0, .int .i64 0, .int .i64 0, .int .i64 0] 26)) (.cells #[.int .u64 a.dp.hi, .int .u64 a.dp.lo, .int .u64 a.dq.hi, .int .u64 a.dq.lo, .int .u64 n.hi, .int .u64 n.lo] 24))
  have Bn := Lib.hid (blk_alloc (blk_alloc (blk1 w (.cells #[.int .u64 a.id.hi, .int .u64 a.id.lo, .int .u64 a.dp.hi, .int .u64 a.dp.lo, .int .u64 a.dq.hi, .int .u64 a.dq.lo, .int .u64 a.cp.hi, .int .u64 a.cp.lo, .int .u64 a.cq.hi, .int .u64 a.cq.lo, .int .i64 a.ledger, .int .i64 a.code, .int .i64 a.flags, .int .i64 a.stamp] 26) (.cells #[.int .u64 n.hi, .int .u64 n.lo] 24)) (.cells #[.int .u64 0, .int .u64 0, .int .u64 0, .int .u64 0, .int .u64 0, .int .u64 0, .int .u64 0, .int .u64 0, .int .u64 0, .int .u64 0, .int .i64 0, .int .i64 0, .int .i64 0, .int .i64 0] 26)) (.cells #[.int .u64 a.dp.hi, .int .u64 a.dp.lo, .int .u64 a.dq.hi, .int .u64 a.dq.lo, .int .u64 n.hi, .int .u64 n.lo] 24))
  have Bz := Lib.hid (blk_alloc (blk2 w (.cells #[.int .u64 a.id.hi, .int .u64 a.id.lo, .int .u64 a.dp.hi, .int .u64 a.dp.lo, .int .u64 a.dq.hi, .int .u64 a.dq.lo, .int .u64 a.cp.hi, .int .u64 a.cp.lo, .int .u64 a.cq.hi, .int .u64 a.cq.lo, .int .i64 a.ledger, .int .i64 a.code, .int .i64 a.flags, .int .i64 a.stamp] 26) (.cells #[.int .u64 n.hi, .int .u64 n.lo] 24) (.cells #[.int .u64 0, .int .u64 0, .int .u64 0, .int .u64 0, .int .u64 0, .int .u64 0, .int .u64 0, .int .u64 0, .int .u64 0, .int .u64 0, .int .i64 0, .int .i64 0, .int .i64 0, .int .i64 0] 26)) (.cells #[.int .u64 a.dp.hi, .int .u64 a.dp.lo, .int .u64 a.dq.hi, .int .u64 a.dq.lo, .int .u64 n.hi, .int .u64 n.lo] 24))
  have Br := Lib.hid (blk3 w (.cells #[.int .u64 a.id.hi, .int .u64 a.id.lo, .int .u64 a.dp.hi, .int .u64 a.dp.lo, .int .u64 a.dq.hi, .int .u64 a.dq.lo, .int .u64 a.cp.hi, .int .u64 a.cp.lo, .int .u64 a.cq.hi, .int .u64 a.cq.lo, .int .i64 a.ledger, .int .i64 a.code, .int .i64 a.flags, .int .i64 a.stamp] 26) (.cells #[.int .u64 n.hi, .int .u64 n.lo] 24) (.cells #[.int .u64 0, .int .u64 0, .int .u64 0, .int .u64 0, .int .u64 0, .int .u64 0, .int .u64 0, .int .u64 0, .int .u64 0, .int .u64 0, .int .i64 0, .int .i64 0, .int .i64 0, .int .i64 0] 26) (.cells #[.int .u64 a.dp.hi, .int .u64 a.dp.lo, .int .u64 a.dq.hi, .int .u64 a.dq.lo, .int .u64 n.hi, .int .u64 n.lo] 24))
  have FA := Lib.hid (((((Fr.refl (fun _ => False) w).alloc (.cells #[.int .u64 a.id.hi, .int .u64 a.id.lo, .int .u64 a.dp.hi, .int .u64 a.dp.lo, .int .u64 a.dq.hi, .int .u64 a.dq.lo, .int .u64 a.cp.hi, .int .u64 a.cp.lo, .int .u64 a.cq.hi, .int .u64 a.cq.lo, .int .i64 a.ledger, .int .i64 a.code, .int .i64 a.flags, .int .i64 a.stamp] 26)).alloc (.cells #[.int .u64 n.hi, .int .u64 n.lo] 24)).alloc (.cells #[.int .u64 0, .int .u64 0, .int .u64 0, .int .u64 0, .int .u64 0, .int .u64 0, .int .u64 0, .int .u64 0, .int .u64 0, .int .u64 0, .int .i64 0, .int .i64 0, .int .i64 0, .int .i64 0] 26)).alloc (.cells #[.int .u64 a.dp.hi, .int .u64 a.dp.lo, .int .u64 a.dq.hi, .int .u64 a.dq.lo, .int .u64 n.hi, .int .u64 n.lo] 24))
  have hrow : Row ((((w.alloc (.cells #[.int .u64 a.id.hi, .int .u64 a.id.lo, .int .u64 a.dp.hi, .int .u64 a.dp.lo, .int .u64 a.dq.hi, .int .u64 a.dq.lo, .int .u64 a.cp.hi, .int .u64 a.cp.lo, .int .u64 a.cq.hi, .int .u64 a.cq.lo, .int .i64 a.ledger, .int .i64 a.code, .int .i64 a.flags, .int .i64 a.stamp] 26)).alloc (.cells #[.int .u64 n.hi, .int .u64 n.lo] 24)).alloc (.cells #[.int .u64 0, .int .u64 0, .int .u64 0, .int .u64 0, .int .u64 0, .int .u64 0, .int .u64 0, .int .u64 0, .int .u64 0, .int .u64 0, .int .i64 0, .int .i64 0, .int .i64 0, .int .i64 0] 26)).alloc (.cells #[.int .u64 a.dp.hi, .int .u64 a.dp.lo, .int .u64 a.dq.hi, .int .u64 a.dq.lo, .int .u64 n.hi, .int .u64 n.lo] 24)) (some ⟨w.heap.size + 1 + 1 + 1, 0, none⟩) ([a.dp, a.dq, n].flatMap Nm.cells) := fun j u hu => ⟨_, _, rfl, by rw [Nat.zero_add]; exact blk_cell Br.out j (by simpa [Nm.cells] using hu)⟩
  have HSm := Lib.hid (sum_any ((((w.alloc (.cells #[.int .u64 a.id.hi, .int .u64 a.id.lo, .int .u64 a.dp.hi, .int .u64 a.dp.lo, .int .u64 a.dq.hi, .int .u64 a.dq.lo, .int .u64 a.cp.hi, .int .u64 a.cp.lo, .int .u64 a.cq.hi, .int .u64 a.cq.lo, .int .i64 a.ledger, .int .i64 a.code, .int .i64 a.flags, .int .i64 a.stamp] 26)).alloc (.cells #[.int .u64 n.hi, .int .u64 n.lo] 24)).alloc (.cells #[.int .u64 0, .int .u64 0, .int .u64 0, .int .u64 0, .int .u64 0, .int .u64 0, .int .u64 0, .int .u64 0, .int .u64 0, .int .u64 0, .int .i64 0, .int .i64 0, .int .i64 0, .int .i64 0] 26)).alloc (.cells #[.int .u64 a.dp.hi, .int .u64 a.dp.lo, .int .u64 a.dq.hi, .int .u64 a.dq.lo, .int .u64 n.hi, .int .u64 n.lo] 24)) (some ⟨w.heap.size + 1 + 1 + 1, 0, none⟩) 3 [a.dp, a.dq, n] hrow (by
    intro z hz
    simp only [List.mem_cons, List.not_mem_nil, or_false] at hz
    rcases hz with rfl | rfl | rfl
    · exact ha0.dp
    · exact ha0.dq
    · exact hn0) (by simp))
  rw [sums3 ha0.dp] at HSm
  obtain ⟨V, hV⟩ : ∃ V, sumV [a.dp, a.dq, n] = V := ⟨_, rfl⟩
  obtain ⟨ok, hok⟩ : ∃ ok, ovf a.dp a.dq n = ok := ⟨_, rfl⟩
  rw [hV, hok] at HSm
  obtain ⟨f, hf⟩ : ∃ f, bits .and .i64 a.flags 2 = f := ⟨_, rfl⟩
  obtain ⟨fo, hfo⟩ : ∃ fo, (f != 0) = fo := ⟨_, rfl⟩
  have HH := Lib.hid (fun W (h : Fr (fun _ => False) w W) => have_any W a true ha0 (HM.out.fr h (fun h => h)))
  have HLs := Lib.hid (fun W => nless_any W (haveN a true) n (haveN_ok ha0) hn0)
  obtain ⟨hv, hhv⟩ : ∃ h, haveN a true = h := ⟨_, rfl⟩
  obtain ⟨ls, hls⟩ : ∃ l, nless hv n = l := ⟨_, rfl⟩
  obtain ⟨MA, hMA⟩ : ∃ m, moreA a true n pn = m := ⟨_, rfl⟩
  obtain ⟨MR, hMR⟩ : ∃ m, moreR a true n = m := ⟨_, rfl⟩
  rw [hhv] at HH HLs
  rw [hls] at HLs
  rw [hMA, hMR]
  have HMA := Lib.hid (show (if ok = true then (if (fo && ls) = true then a else updA a true n pn) else a) = MA from by rw [← hMA, moreA, flagOn]; simp only [if_pos, if_true, Bool.false_eq_true, if_false, reduceIte, hok, hf, hfo, hhv, hls])
  have HMR := Lib.hid (show (if ok = true then (if (fo && ls) = true then 33 else 0) else 32) = MR from by rw [← hMR, moreR, flagOn]; simp only [if_pos, if_true, Bool.false_eq_true, if_false, reduceIte, hok, hf, hfo, hhv, hls])
  clear hV hok hhv hls hMA hMR ha0 hn0 hm hrow
  cases ok
  · have HV1 := Lib.hid (show MA = a from HMA.out.symm)
    have HV2 := Lib.hid (show MR = 32 from HMR.out.symm)
    clear hf hfo
    go_enter Tryd.func11, Tryd.ntmps11
    go_wp2_with fail
    refine HSm.out.mono ?_
    rintro e w2 ⟨rfl, f2⟩
    have F3 := Lib.hid ((FA.out.then_ f2 (fun _ h => h.elim)).alloc (.cells #[.int .u64 V.hi, .int .u64 V.lo] 24))
    have Ba3 := Lib.hid (blk_alloc (f2.blk Ba.out (fun h => h)) (.cells #[.int .u64 V.hi, .int .u64 V.lo] 24))
    have Bz3 := Lib.hid (blk_alloc (f2.blk Bz.out (fun h => h)) (.cells #[.int .u64 V.hi, .int .u64 V.lo] 24))
    clear f2
    go_wp2_with (first
      | ((with_reducible refine wpList_load_row_w ?lw 26 _ rfl w.heap.size rfl 26 _ _ _ Ba3.out Tryd.underlying26 rfl rfl ?_); (case lw => rfl))
      | ((refine wpList_store_row rfl 26 (.tmp 6) (.tmp 22) rfl (w.heap.size + 1 + 1) #[.int .u64 a.id.hi, .int .u64 a.id.lo, .int .u64 a.dp.hi, .int .u64 a.dp.lo, .int .u64 a.dq.hi, .int .u64 a.dq.lo, .int .u64 a.cp.hi, .int .u64 a.cp.lo, .int .u64 a.cq.hi, .int .u64 a.cq.lo, .int .i64 a.ledger, .int .i64 a.code, .int .i64 a.flags, .int .i64 a.stamp] rfl rfl Bz3.out rfl rfl (by simp [Value.oneCell']) ?_); intro w9 hb9 f9; have HB9 := Lib.hid hb9; have F9 := Lib.hid f9; clear hb9 f9)
      | fail)
    refine bodyPost_ret (results_cell2 (p := 6) (q := 7) rfl _ _ (w.heap.size + 1 + 1) 26 _ (0, 0) _ rfl HB9.out Tryd.underlying26 rfl rfl) rfl ?_
    exact ⟨by rw [HV1.out, HV2.out]; rfl, F3.out.then_ F9.out (fun k hk => .inr (by omega))⟩
  go_enter Tryd.func11, Tryd.ntmps11
  go_wp2_with fail
  refine HSm.out.mono ?_
  rintro e w2 ⟨rfl, f2⟩
  have F3 := Lib.hid ((FA.out.then_ f2 (fun _ h => h.elim)).alloc (.cells #[.int .u64 V.hi, .int .u64 V.lo] 24))
  have Ba3 := Lib.hid (blk_alloc (f2.blk Ba.out (fun h => h)) (.cells #[.int .u64 V.hi, .int .u64 V.lo] 24))
  have Bn3 := Lib.hid (blk_alloc (f2.blk Bn.out (fun h => h)) (.cells #[.int .u64 V.hi, .int .u64 V.lo] 24))
  have Bz3 := Lib.hid (blk_alloc (f2.blk Bz.out (fun h => h)) (.cells #[.int .u64 V.hi, .int .u64 V.lo] 24))
  clear f2
  obtain ⟨wp, hwp⟩ : ∃ W, w2.alloc (.cells #[.int .u64 V.hi, .int .u64 V.lo] 24) = W := ⟨_, rfl⟩
  rw [hwp] at F3 Ba3 Bn3 Bz3
  have q0 := blk_cell Ba3.out 0 rfl; have q1 := blk_cell Ba3.out 1 rfl; have q2 := blk_cell Ba3.out 2 rfl; have q3 := blk_cell Ba3.out 3 rfl; have q4 := blk_cell Ba3.out 4 rfl; have q5 := blk_cell Ba3.out 5 rfl; have q6 := blk_cell Ba3.out 6 rfl; have q7 := blk_cell Ba3.out 7 rfl; have q8 := blk_cell Ba3.out 8 rfl; have q9 := blk_cell Ba3.out 9 rfl; have q10 := blk_cell Ba3.out 10 rfl; have q11 := blk_cell Ba3.out 11 rfl; have q12 := blk_cell Ba3.out 12 rfl; have q13 := blk_cell Ba3.out 13 rfl
  have n0 := blk_cell Bn3.out 0 rfl; have n1 := blk_cell Bn3.out 1 rfl
  go_upto_region 4 with fail
  (try rw [hwp])
  clear hwp
  go_cut [32] from 23 (fun c w' => c = .bool (fo && ls) ∧ w'.heap[w.heap.size]? = some (.cells #[.int .u64 a.id.hi, .int .u64 a.id.lo, .int .u64 a.dp.hi, .int .u64 a.dp.lo, .int .u64 a.dq.hi, .int .u64 a.dq.lo, .int .u64 a.cp.hi, .int .u64 a.cp.lo, .int .u64 a.cq.hi, .int .u64 a.cq.lo, .int .i64 a.ledger, .int .i64 a.code, .int .i64 a.flags, .int .i64 a.stamp] 26 (0, 0)) ∧ w'.heap[w.heap.size + 1]? = some (.cells #[.int .u64 n.hi, .int .u64 n.lo] 24 (0, 0)) ∧ w'.heap[w.heap.size + 1 + 1]? = some (.cells #[.int .u64 0, .int .u64 0, .int .u64 0, .int .u64 0, .int .u64 0, .int .u64 0, .int .u64 0, .int .u64 0, .int .u64 0, .int .u64 0, .int .i64 0, .int .i64 0, .int .i64 0, .int .i64 0] 26 (0, 0)) ∧ Fr (fun _ => False) w w')
  case first =>
    cases fo
    · go_quiet (fail)
      go_wp2_with fail
      go_meet
      exact ⟨rfl, Ba3.out, Bn3.out, Bz3.out, F3.out.drewN _⟩
    · go_region_held3 (fun w' => w'.cell? ⟨w.heap.size, 0, none⟩ = some (Value.int .u64 a.id.hi) ∧ w'.cell? ⟨w.heap.size, 1, none⟩ = some (Value.int .u64 a.id.lo) ∧ w'.cell? ⟨w.heap.size, 2, none⟩ = some (Value.int .u64 a.dp.hi) ∧ w'.cell? ⟨w.heap.size, 3, none⟩ = some (Value.int .u64 a.dp.lo) ∧ w'.cell? ⟨w.heap.size, 4, none⟩ = some (Value.int .u64 a.dq.hi) ∧ w'.cell? ⟨w.heap.size, 5, none⟩ = some (Value.int .u64 a.dq.lo) ∧ w'.cell? ⟨w.heap.size, 6, none⟩ = some (Value.int .u64 a.cp.hi) ∧ w'.cell? ⟨w.heap.size, 7, none⟩ = some (Value.int .u64 a.cp.lo) ∧ w'.cell? ⟨w.heap.size, 8, none⟩ = some (Value.int .u64 a.cq.hi) ∧ w'.cell? ⟨w.heap.size, 9, none⟩ = some (Value.int .u64 a.cq.lo) ∧ w'.cell? ⟨w.heap.size, 10, none⟩ = some (Value.int .i64 a.ledger) ∧ w'.cell? ⟨w.heap.size, 11, none⟩ = some (Value.int .i64 a.code) ∧ w'.cell? ⟨w.heap.size, 12, none⟩ = some (Value.int .i64 a.flags) ∧ w'.cell? ⟨w.heap.size, 13, none⟩ = some (Value.int .i64 a.stamp) ∧ w'.cell? ⟨w.heap.size + 1, 0, none⟩ = some (Value.int .u64 n.hi) ∧ w'.cell? ⟨w.heap.size + 1, 1, none⟩ = some (Value.int .u64 n.lo))
        (first | exact ⟨q0, q1, q2, q3, q4, q5, q6, q7, q8, q9, q10, q11, q12, q13, n0, n1⟩ | go_keep)
        (first
          | (go_at_call 13; (with_reducible refine (HH.out wp.drew F3.out.drew).mono ?_); rintro e w4 ⟨rfl, f4⟩; have F4 := Lib.hid (F3.out.drew.then_ f4 (fun _ h => h.elim)); have Ba4 := Lib.hid (f4.blk (blk_drew Ba3.out) (fun h => h)); have Bn4 := Lib.hid (f4.blk (blk_drew Bn3.out) (fun h => h)); have Bz4 := Lib.hid (f4.blk (blk_drew Bz3.out) (fun h => h)); have q0 := blk_cell Ba4.out 0 rfl; have q1 := blk_cell Ba4.out 1 rfl; have q2 := blk_cell Ba4.out 2 rfl; have q3 := blk_cell Ba4.out 3 rfl; have q4 := blk_cell Ba4.out 4 rfl; have q5 := blk_cell Ba4.out 5 rfl; have q6 := blk_cell Ba4.out 6 rfl; have q7 := blk_cell Ba4.out 7 rfl; have q8 := blk_cell Ba4.out 8 rfl; have q9 := blk_cell Ba4.out 9 rfl; have q10 := blk_cell Ba4.out 10 rfl; have q11 := blk_cell Ba4.out 11 rfl; have q12 := blk_cell Ba4.out 12 rfl; have q13 := blk_cell Ba4.out 13 rfl; have n0 := blk_cell Bn4.out 0 rfl; have n1 := blk_cell Bn4.out 1 rfl; clear f4)
          | (go_at_call 43; (with_reducible refine (HLs.out _).mono ?_); rintro e w5 ⟨rfl, f5⟩; have F5 := Lib.hid (F4.out.then_ f5 (fun _ h => h.elim)); have Ba5 := Lib.hid (f5.blk Ba4.out (fun h => h)); have Bn5 := Lib.hid (f5.blk Bn4.out (fun h => h)); have Bz5 := Lib.hid (f5.blk Bz4.out (fun h => h)); have q0 := blk_cell Ba5.out 0 rfl; have q1 := blk_cell Ba5.out 1 rfl; have q2 := blk_cell Ba5.out 2 rfl; have q3 := blk_cell Ba5.out 3 rfl; have q4 := blk_cell Ba5.out 4 rfl; have q5 := blk_cell Ba5.out 5 rfl; have q6 := blk_cell Ba5.out 6 rfl; have q7 := blk_cell Ba5.out 7 rfl; have q8 := blk_cell Ba5.out 8 rfl; have q9 := blk_cell Ba5.out 9 rfl; have q10 := blk_cell Ba5.out 10 rfl; have q11 := blk_cell Ba5.out 11 rfl; have q12 := blk_cell Ba5.out 12 rfl; have q13 := blk_cell Ba5.out 13 rfl; have n0 := blk_cell Bn5.out 0 rfl; have n1 := blk_cell Bn5.out 1 rfl; clear f5))
      go_wp2_with fail
      go_meet
      exact ⟨rfl, Ba5.out, Bn5.out, Bz5.out, F5.out⟩
  case rest =>
  clear q0 q1 q2 q3 q4 q5 q6 q7 q8 q9 q10 q11 q12 q13 n0 n1
  obtain ⟨rfl, hba, hbn, hbz, hff⟩ := hcut
  have Ba5 := Lib.hid hba
  have Bn5 := Lib.hid hbn
  have Bz5 := Lib.hid hbz
  have F5 := Lib.hid hff
  clear hba hbn hbz hff hf hfo
  obtain ⟨c, hc⟩ : ∃ c, (fo && ls) = c := ⟨_, rfl⟩
  rw [hc] at HMA HMR ⊢
  clear hc
  obtain ⟨wq, hwq⟩ : ∃ W : World, W = wc := ⟨_, rfl⟩
  subst hwq
  cases c
  · have HV2 := Lib.hid (show MR = 0 from HMR.out.symm)
    cases pn
    · have HV1 := Lib.hid (show MA = updA a true n false from HMA.out.symm)
      have q2 := blk_cell Ba5.out 2 rfl; have q3 := blk_cell Ba5.out 3 rfl; have q4 := blk_cell Ba5.out 4 rfl; have q5 := blk_cell Ba5.out 5 rfl
      have n0 := blk_cell Bn5.out 0 rfl; have n1 := blk_cell Bn5.out 1 rfl
      have HPd := Lib.hid (nadd_any wq a.dq n ha.out.dq hn.out)
      obtain ⟨s, hs⟩ : ∃ s, nadd a.dq n = s := ⟨_, rfl⟩
      rw [hs] at HPd
      have HSs := Lib.hid hs
      clear hs
      go_wp2_with fail
      refine HPd.out.mono ?_
      rintro e w6 ⟨rfl, f6⟩
      have F6 := Lib.hid (F5.out.then_ f6 (fun _ h => h.elim))
      have Ba6 := Lib.hid (f6.blk Ba5.out (fun h => h))
      have Bz6 := Lib.hid (f6.blk Bz5.out (fun h => h))
      clear f6
      go_wp2_with (first
        | ((refine wpList_store_part rfl 24 (.tmp 50) (.tmp 48) rfl w.heap.size 4 #[.int .u64 s.hi, .int .u64 s.lo] rfl rfl Ba6.out (by show 4 + 2 ≤ 14; omega) rfl (by simp [Value.oneCell']) ?_); intro w7 hb7 f7; have Ba7 := Lib.hid (show w7.heap[w.heap.size]? = some (.cells #[.int .u64 a.id.hi, .int .u64 a.id.lo, .int .u64 a.dp.hi, .int .u64 a.dp.lo, .int .u64 s.hi, .int .u64 s.lo, .int .u64 a.cp.hi, .int .u64 a.cp.lo, .int .u64 a.cq.hi, .int .u64 a.cq.lo, .int .i64 a.ledger, .int .i64 a.code, .int .i64 a.flags, .int .i64 a.stamp] 26 (0, 0)) from hb7); have F7 := Lib.hid (F6.out.then_ f7 (fun j hj => .inr (Nat.le_of_eq hj.symm))); have Bz7 := Lib.hid (f7.blk Bz6.out (by omega)); clear hb7 f7)
        | ((with_reducible refine wpList_load_row_w ?lw 26 _ rfl w.heap.size rfl 26 _ _ _ Ba7.out Tryd.underlying26 rfl rfl ?_); (case lw => rfl))
        | ((refine wpList_store_row rfl 26 (.tmp 6) (.tmp 51) rfl (w.heap.size + 1 + 1) #[.int .u64 a.id.hi, .int .u64 a.id.lo, .int .u64 a.dp.hi, .int .u64 a.dp.lo, .int .u64 s.hi, .int .u64 s.lo, .int .u64 a.cp.hi, .int .u64 a.cp.lo, .int .u64 a.cq.hi, .int .u64 a.cq.lo, .int .i64 a.ledger, .int .i64 a.code, .int .i64 a.flags, .int .i64 a.stamp] rfl rfl Bz7.out rfl rfl (by simp [Value.oneCell']) ?_); intro w9 hb9 f9; have HB9 := Lib.hid hb9; have F9 := Lib.hid f9; clear hb9 f9)
        | fail)
      refine bodyPost_ret (results_cell2 (p := 6) (q := 7) rfl _ _ (w.heap.size + 1 + 1) 26 _ (0, 0) _ rfl HB9.out Tryd.underlying26 rfl rfl) rfl ?_
      exact ⟨by rw [HV1.out, HV2.out, ← HSs.out]; rfl, F7.out.then_ F9.out (fun k hk => .inr (by omega))⟩

    · have HV1 := Lib.hid (show MA = updA a true n true from HMA.out.symm)
      have q2 := blk_cell Ba5.out 2 rfl; have q3 := blk_cell Ba5.out 3 rfl; have q4 := blk_cell Ba5.out 4 rfl; have q5 := blk_cell Ba5.out 5 rfl
      have n0 := blk_cell Bn5.out 0 rfl; have n1 := blk_cell Bn5.out 1 rfl
      have HPd := Lib.hid (nadd_any wq a.dp n ha.out.dp hn.out)
      obtain ⟨s, hs⟩ : ∃ s, nadd a.dp n = s := ⟨_, rfl⟩
      rw [hs] at HPd
      have HSs := Lib.hid hs
      clear hs
      go_wp2_with fail
      refine HPd.out.mono ?_
      rintro e w6 ⟨rfl, f6⟩
      have F6 := Lib.hid (F5.out.then_ f6 (fun _ h => h.elim))
      have Ba6 := Lib.hid (f6.blk Ba5.out (fun h => h))
      have Bz6 := Lib.hid (f6.blk Bz5.out (fun h => h))
      clear f6
      go_wp2_with (first
        | ((refine wpList_store_part rfl 24 (.tmp 42) (.tmp 40) rfl w.heap.size 2 #[.int .u64 s.hi, .int .u64 s.lo] rfl rfl Ba6.out (by show 2 + 2 ≤ 14; omega) rfl (by simp [Value.oneCell']) ?_); intro w7 hb7 f7; have Ba7 := Lib.hid (show w7.heap[w.heap.size]? = some (.cells #[.int .u64 a.id.hi, .int .u64 a.id.lo, .int .u64 s.hi, .int .u64 s.lo, .int .u64 a.dq.hi, .int .u64 a.dq.lo, .int .u64 a.cp.hi, .int .u64 a.cp.lo, .int .u64 a.cq.hi, .int .u64 a.cq.lo, .int .i64 a.ledger, .int .i64 a.code, .int .i64 a.flags, .int .i64 a.stamp] 26 (0, 0)) from hb7); have F7 := Lib.hid (F6.out.then_ f7 (fun j hj => .inr (Nat.le_of_eq hj.symm))); have Bz7 := Lib.hid (f7.blk Bz6.out (by omega)); clear hb7 f7)
        | ((with_reducible refine wpList_load_row_w ?lw 26 _ rfl w.heap.size rfl 26 _ _ _ Ba7.out Tryd.underlying26 rfl rfl ?_); (case lw => rfl))
        | ((refine wpList_store_row rfl 26 (.tmp 6) (.tmp 51) rfl (w.heap.size + 1 + 1) #[.int .u64 a.id.hi, .int .u64 a.id.lo, .int .u64 s.hi, .int .u64 s.lo, .int .u64 a.dq.hi, .int .u64 a.dq.lo, .int .u64 a.cp.hi, .int .u64 a.cp.lo, .int .u64 a.cq.hi, .int .u64 a.cq.lo, .int .i64 a.ledger, .int .i64 a.code, .int .i64 a.flags, .int .i64 a.stamp] rfl rfl Bz7.out rfl rfl (by simp [Value.oneCell']) ?_); intro w9 hb9 f9; have HB9 := Lib.hid hb9; have F9 := Lib.hid f9; clear hb9 f9)
        | fail)
      refine bodyPost_ret (results_cell2 (p := 6) (q := 7) rfl _ _ (w.heap.size + 1 + 1) 26 _ (0, 0) _ rfl HB9.out Tryd.underlying26 rfl rfl) rfl ?_
      exact ⟨by rw [HV1.out, HV2.out, ← HSs.out]; rfl, F7.out.then_ F9.out (fun k hk => .inr (by omega))⟩

  · have HV1 := Lib.hid (show MA = a from HMA.out.symm)
    have HV2 := Lib.hid (show MR = 33 from HMR.out.symm)
    go_wp2_with (first
      | ((with_reducible refine wpList_load_row_w ?lw 26 _ rfl w.heap.size rfl 26 _ _ _ Ba5.out Tryd.underlying26 rfl rfl ?_); (case lw => rfl))
      | ((refine wpList_store_row rfl 26 (.tmp 6) (.tmp 33) rfl (w.heap.size + 1 + 1) #[.int .u64 a.id.hi, .int .u64 a.id.lo, .int .u64 a.dp.hi, .int .u64 a.dp.lo, .int .u64 a.dq.hi, .int .u64 a.dq.lo, .int .u64 a.cp.hi, .int .u64 a.cp.lo, .int .u64 a.cq.hi, .int .u64 a.cq.lo, .int .i64 a.ledger, .int .i64 a.code, .int .i64 a.flags, .int .i64 a.stamp] rfl rfl Bz5.out rfl rfl (by simp [Value.oneCell']) ?_); intro w9 hb9 f9; have HB9 := Lib.hid hb9; have F9 := Lib.hid f9; clear hb9 f9)
      | fail)
    refine bodyPost_ret (results_cell2 (p := 6) (q := 7) rfl _ _ (w.heap.size + 1 + 1) 26 _ (0, 0) _ rfl HB9.out Tryd.underlying26 rfl rfl) rfl ?_
    exact ⟨by rw [HV1.out, HV2.out]; rfl, F5.out.then_ F9.out (fun k hk => .inr (by omega))⟩

set_option maxRecDepth 4000 in
set_option maxHeartbeats 6400000 in
theorem Credit_any (w : World) (a : Acc) (n : Nm) (pn : Bool) (ha0 : a.ok) (hn0 : n.ok) (hm : Most w) :
    Calls Tryd.prog 10 #[.agg #[.int .u64 a.id.hi, .int .u64 a.id.lo, .int .u64 a.dp.hi, .int .u64 a.dp.lo, .int .u64 a.dq.hi, .int .u64 a.dq.lo, .int .u64 a.cp.hi, .int .u64 a.cp.lo, .int .u64 a.cq.hi, .int .u64 a.cq.lo, .int .i64 a.ledger, .int .i64 a.code, .int .i64 a.flags, .int .i64 a.stamp], .agg #[.int .u64 n.hi, .int .u64 n.lo], .bool pn] w fun e w' => e = .returned (.tuple #[(moreA a false n pn).val, .int .i64 (moreR a false n)]) ∧ Fr (fun _ => False) w w' := by
  have ha := Lib.hid ha0
  have hn := Lib.hid hn0
  have HM := Lib.hid hm
  have Ba := Lib.hid (blk_alloc (blk_alloc (blk_alloc (heap_alloc_new w (.cells #[.int .u64 a.id.hi, .int .u64 a.id.lo, .int .u64 a.dp.hi, .int .u64 a.dp.lo, .int .u64 a.dq.hi, .int .u64 a.dq.lo, .int .u64 a.cp.hi, .int .u64 a.cp.lo, .int .u64 a.cq.hi, .int .u64 a.cq.lo, .int .i64 a.ledger, .int .i64 a.code, .int .i64 a.flags, .int .i64 a.stamp] 26)) (.cells #[.int .u64 n.hi, .int .u64 n.lo] 24)) (.cells #[.int .u64 0, .int .u64 0, .int .u64 0, .int .u64 0, .int .u64 0, .int .u64 0, .int .u64 0, .int .u64 0, .int .u64 0, .int .u64 0, .int .i64 0, .int .i64 0, .int .i64 0, .int .i64 0] 26)) (.cells #[.int .u64 a.cp.hi, .int .u64 a.cp.lo, .int .u64 a.cq.hi, .int .u64 a.cq.lo, .int .u64 n.hi, .int .u64 n.lo] 24))
  have Bn := Lib.hid (blk_alloc (blk_alloc (blk1 w (.cells #[.int .u64 a.id.hi, .int .u64 a.id.lo, .int .u64 a.dp.hi, .int .u64 a.dp.lo, .int .u64 a.dq.hi, .int .u64 a.dq.lo, .int .u64 a.cp.hi, .int .u64 a.cp.lo, .int .u64 a.cq.hi, .int .u64 a.cq.lo, .int .i64 a.ledger, .int .i64 a.code, .int .i64 a.flags, .int .i64 a.stamp] 26) (.cells #[.int .u64 n.hi, .int .u64 n.lo] 24)) (.cells #[.int .u64 0, .int .u64 0, .int .u64 0, .int .u64 0, .int .u64 0, .int .u64 0, .int .u64 0, .int .u64 0, .int .u64 0, .int .u64 0, .int .i64 0, .int .i64 0, .int .i64 0, .int .i64 0] 26)) (.cells #[.int .u64 a.cp.hi, .int .u64 a.cp.lo, .int .u64 a.cq.hi, .int .u64 a.cq.lo, .int .u64 n.hi, .int .u64 n.lo] 24))
  have Bz := Lib.hid (blk_alloc (blk2 w (.cells #[.int .u64 a.id.hi, .int .u64 a.id.lo, .int .u64 a.dp.hi, .int .u64 a.dp.lo, .int .u64 a.dq.hi, .int .u64 a.dq.lo, .int .u64 a.cp.hi, .int .u64 a.cp.lo, .int .u64 a.cq.hi, .int .u64 a.cq.lo, .int .i64 a.ledger, .int .i64 a.code, .int .i64 a.flags, .int .i64 a.stamp] 26) (.cells #[.int .u64 n.hi, .int .u64 n.lo] 24) (.cells #[.int .u64 0, .int .u64 0, .int .u64 0, .int .u64 0, .int .u64 0, .int .u64 0, .int .u64 0, .int .u64 0, .int .u64 0, .int .u64 0, .int .i64 0, .int .i64 0, .int .i64 0, .int .i64 0] 26)) (.cells #[.int .u64 a.cp.hi, .int .u64 a.cp.lo, .int .u64 a.cq.hi, .int .u64 a.cq.lo, .int .u64 n.hi, .int .u64 n.lo] 24))
  have Br := Lib.hid (blk3 w (.cells #[.int .u64 a.id.hi, .int .u64 a.id.lo, .int .u64 a.dp.hi, .int .u64 a.dp.lo, .int .u64 a.dq.hi, .int .u64 a.dq.lo, .int .u64 a.cp.hi, .int .u64 a.cp.lo, .int .u64 a.cq.hi, .int .u64 a.cq.lo, .int .i64 a.ledger, .int .i64 a.code, .int .i64 a.flags, .int .i64 a.stamp] 26) (.cells #[.int .u64 n.hi, .int .u64 n.lo] 24) (.cells #[.int .u64 0, .int .u64 0, .int .u64 0, .int .u64 0, .int .u64 0, .int .u64 0, .int .u64 0, .int .u64 0, .int .u64 0, .int .u64 0, .int .i64 0, .int .i64 0, .int .i64 0, .int .i64 0] 26) (.cells #[.int .u64 a.cp.hi, .int .u64 a.cp.lo, .int .u64 a.cq.hi, .int .u64 a.cq.lo, .int .u64 n.hi, .int .u64 n.lo] 24))
  have FA := Lib.hid (((((Fr.refl (fun _ => False) w).alloc (.cells #[.int .u64 a.id.hi, .int .u64 a.id.lo, .int .u64 a.dp.hi, .int .u64 a.dp.lo, .int .u64 a.dq.hi, .int .u64 a.dq.lo, .int .u64 a.cp.hi, .int .u64 a.cp.lo, .int .u64 a.cq.hi, .int .u64 a.cq.lo, .int .i64 a.ledger, .int .i64 a.code, .int .i64 a.flags, .int .i64 a.stamp] 26)).alloc (.cells #[.int .u64 n.hi, .int .u64 n.lo] 24)).alloc (.cells #[.int .u64 0, .int .u64 0, .int .u64 0, .int .u64 0, .int .u64 0, .int .u64 0, .int .u64 0, .int .u64 0, .int .u64 0, .int .u64 0, .int .i64 0, .int .i64 0, .int .i64 0, .int .i64 0] 26)).alloc (.cells #[.int .u64 a.cp.hi, .int .u64 a.cp.lo, .int .u64 a.cq.hi, .int .u64 a.cq.lo, .int .u64 n.hi, .int .u64 n.lo] 24))
  have hrow : Row ((((w.alloc (.cells #[.int .u64 a.id.hi, .int .u64 a.id.lo, .int .u64 a.dp.hi, .int .u64 a.dp.lo, .int .u64 a.dq.hi, .int .u64 a.dq.lo, .int .u64 a.cp.hi, .int .u64 a.cp.lo, .int .u64 a.cq.hi, .int .u64 a.cq.lo, .int .i64 a.ledger, .int .i64 a.code, .int .i64 a.flags, .int .i64 a.stamp] 26)).alloc (.cells #[.int .u64 n.hi, .int .u64 n.lo] 24)).alloc (.cells #[.int .u64 0, .int .u64 0, .int .u64 0, .int .u64 0, .int .u64 0, .int .u64 0, .int .u64 0, .int .u64 0, .int .u64 0, .int .u64 0, .int .i64 0, .int .i64 0, .int .i64 0, .int .i64 0] 26)).alloc (.cells #[.int .u64 a.cp.hi, .int .u64 a.cp.lo, .int .u64 a.cq.hi, .int .u64 a.cq.lo, .int .u64 n.hi, .int .u64 n.lo] 24)) (some ⟨w.heap.size + 1 + 1 + 1, 0, none⟩) ([a.cp, a.cq, n].flatMap Nm.cells) := fun j u hu => ⟨_, _, rfl, by rw [Nat.zero_add]; exact blk_cell Br.out j (by simpa [Nm.cells] using hu)⟩
  have HSm := Lib.hid (sum_any ((((w.alloc (.cells #[.int .u64 a.id.hi, .int .u64 a.id.lo, .int .u64 a.dp.hi, .int .u64 a.dp.lo, .int .u64 a.dq.hi, .int .u64 a.dq.lo, .int .u64 a.cp.hi, .int .u64 a.cp.lo, .int .u64 a.cq.hi, .int .u64 a.cq.lo, .int .i64 a.ledger, .int .i64 a.code, .int .i64 a.flags, .int .i64 a.stamp] 26)).alloc (.cells #[.int .u64 n.hi, .int .u64 n.lo] 24)).alloc (.cells #[.int .u64 0, .int .u64 0, .int .u64 0, .int .u64 0, .int .u64 0, .int .u64 0, .int .u64 0, .int .u64 0, .int .u64 0, .int .u64 0, .int .i64 0, .int .i64 0, .int .i64 0, .int .i64 0] 26)).alloc (.cells #[.int .u64 a.cp.hi, .int .u64 a.cp.lo, .int .u64 a.cq.hi, .int .u64 a.cq.lo, .int .u64 n.hi, .int .u64 n.lo] 24)) (some ⟨w.heap.size + 1 + 1 + 1, 0, none⟩) 3 [a.cp, a.cq, n] hrow (by
    intro z hz
    simp only [List.mem_cons, List.not_mem_nil, or_false] at hz
    rcases hz with rfl | rfl | rfl
    · exact ha0.cp
    · exact ha0.cq
    · exact hn0) (by simp))
  rw [sums3 ha0.cp] at HSm
  obtain ⟨V, hV⟩ : ∃ V, sumV [a.cp, a.cq, n] = V := ⟨_, rfl⟩
  obtain ⟨ok, hok⟩ : ∃ ok, ovf a.cp a.cq n = ok := ⟨_, rfl⟩
  rw [hV, hok] at HSm
  obtain ⟨f, hf⟩ : ∃ f, bits .and .i64 a.flags 4 = f := ⟨_, rfl⟩
  obtain ⟨fo, hfo⟩ : ∃ fo, (f != 0) = fo := ⟨_, rfl⟩
  have HH := Lib.hid (fun W (h : Fr (fun _ => False) w W) => have_any W a false ha0 (HM.out.fr h (fun h => h)))
  have HLs := Lib.hid (fun W => nless_any W (haveN a false) n (haveN_ok ha0) hn0)
  obtain ⟨hv, hhv⟩ : ∃ h, haveN a false = h := ⟨_, rfl⟩
  obtain ⟨ls, hls⟩ : ∃ l, nless hv n = l := ⟨_, rfl⟩
  obtain ⟨MA, hMA⟩ : ∃ m, moreA a false n pn = m := ⟨_, rfl⟩
  obtain ⟨MR, hMR⟩ : ∃ m, moreR a false n = m := ⟨_, rfl⟩
  rw [hhv] at HH HLs
  rw [hls] at HLs
  rw [hMA, hMR]
  have HMA := Lib.hid (show (if ok = true then (if (fo && ls) = true then a else updA a false n pn) else a) = MA from by rw [← hMA, moreA, flagOn]; simp only [if_pos, if_true, Bool.false_eq_true, if_false, reduceIte, hok, hf, hfo, hhv, hls])
  have HMR := Lib.hid (show (if ok = true then (if (fo && ls) = true then 34 else 0) else 32) = MR from by rw [← hMR, moreR, flagOn]; simp only [if_pos, if_true, Bool.false_eq_true, if_false, reduceIte, hok, hf, hfo, hhv, hls])
  clear hV hok hhv hls hMA hMR ha0 hn0 hm hrow
  cases ok
  · have HV1 := Lib.hid (show MA = a from HMA.out.symm)
    have HV2 := Lib.hid (show MR = 32 from HMR.out.symm)
    clear hf hfo
    go_enter Tryd.func10, Tryd.ntmps10
    go_wp2_with fail
    refine HSm.out.mono ?_
    rintro e w2 ⟨rfl, f2⟩
    have F3 := Lib.hid ((FA.out.then_ f2 (fun _ h => h.elim)).alloc (.cells #[.int .u64 V.hi, .int .u64 V.lo] 24))
    have Ba3 := Lib.hid (blk_alloc (f2.blk Ba.out (fun h => h)) (.cells #[.int .u64 V.hi, .int .u64 V.lo] 24))
    have Bz3 := Lib.hid (blk_alloc (f2.blk Bz.out (fun h => h)) (.cells #[.int .u64 V.hi, .int .u64 V.lo] 24))
    clear f2
    go_wp2_with (first
      | ((with_reducible refine wpList_load_row_w ?lw 26 _ rfl w.heap.size rfl 26 _ _ _ Ba3.out Tryd.underlying26 rfl rfl ?_); (case lw => rfl))
      | ((refine wpList_store_row rfl 26 (.tmp 6) (.tmp 22) rfl (w.heap.size + 1 + 1) #[.int .u64 a.id.hi, .int .u64 a.id.lo, .int .u64 a.dp.hi, .int .u64 a.dp.lo, .int .u64 a.dq.hi, .int .u64 a.dq.lo, .int .u64 a.cp.hi, .int .u64 a.cp.lo, .int .u64 a.cq.hi, .int .u64 a.cq.lo, .int .i64 a.ledger, .int .i64 a.code, .int .i64 a.flags, .int .i64 a.stamp] rfl rfl Bz3.out rfl rfl (by simp [Value.oneCell']) ?_); intro w9 hb9 f9; have HB9 := Lib.hid hb9; have F9 := Lib.hid f9; clear hb9 f9)
      | fail)
    refine bodyPost_ret (results_cell2 (p := 6) (q := 7) rfl _ _ (w.heap.size + 1 + 1) 26 _ (0, 0) _ rfl HB9.out Tryd.underlying26 rfl rfl) rfl ?_
    exact ⟨by rw [HV1.out, HV2.out]; rfl, F3.out.then_ F9.out (fun k hk => .inr (by omega))⟩
  go_enter Tryd.func10, Tryd.ntmps10
  go_wp2_with fail
  refine HSm.out.mono ?_
  rintro e w2 ⟨rfl, f2⟩
  have F3 := Lib.hid ((FA.out.then_ f2 (fun _ h => h.elim)).alloc (.cells #[.int .u64 V.hi, .int .u64 V.lo] 24))
  have Ba3 := Lib.hid (blk_alloc (f2.blk Ba.out (fun h => h)) (.cells #[.int .u64 V.hi, .int .u64 V.lo] 24))
  have Bn3 := Lib.hid (blk_alloc (f2.blk Bn.out (fun h => h)) (.cells #[.int .u64 V.hi, .int .u64 V.lo] 24))
  have Bz3 := Lib.hid (blk_alloc (f2.blk Bz.out (fun h => h)) (.cells #[.int .u64 V.hi, .int .u64 V.lo] 24))
  clear f2
  obtain ⟨wp, hwp⟩ : ∃ W, w2.alloc (.cells #[.int .u64 V.hi, .int .u64 V.lo] 24) = W := ⟨_, rfl⟩
  rw [hwp] at F3 Ba3 Bn3 Bz3
  have q0 := blk_cell Ba3.out 0 rfl; have q1 := blk_cell Ba3.out 1 rfl; have q2 := blk_cell Ba3.out 2 rfl; have q3 := blk_cell Ba3.out 3 rfl; have q4 := blk_cell Ba3.out 4 rfl; have q5 := blk_cell Ba3.out 5 rfl; have q6 := blk_cell Ba3.out 6 rfl; have q7 := blk_cell Ba3.out 7 rfl; have q8 := blk_cell Ba3.out 8 rfl; have q9 := blk_cell Ba3.out 9 rfl; have q10 := blk_cell Ba3.out 10 rfl; have q11 := blk_cell Ba3.out 11 rfl; have q12 := blk_cell Ba3.out 12 rfl; have q13 := blk_cell Ba3.out 13 rfl
  have n0 := blk_cell Bn3.out 0 rfl; have n1 := blk_cell Bn3.out 1 rfl
  go_upto_region 4 with fail
  (try rw [hwp])
  clear hwp
  go_cut [32] from 23 (fun c w' => c = .bool (fo && ls) ∧ w'.heap[w.heap.size]? = some (.cells #[.int .u64 a.id.hi, .int .u64 a.id.lo, .int .u64 a.dp.hi, .int .u64 a.dp.lo, .int .u64 a.dq.hi, .int .u64 a.dq.lo, .int .u64 a.cp.hi, .int .u64 a.cp.lo, .int .u64 a.cq.hi, .int .u64 a.cq.lo, .int .i64 a.ledger, .int .i64 a.code, .int .i64 a.flags, .int .i64 a.stamp] 26 (0, 0)) ∧ w'.heap[w.heap.size + 1]? = some (.cells #[.int .u64 n.hi, .int .u64 n.lo] 24 (0, 0)) ∧ w'.heap[w.heap.size + 1 + 1]? = some (.cells #[.int .u64 0, .int .u64 0, .int .u64 0, .int .u64 0, .int .u64 0, .int .u64 0, .int .u64 0, .int .u64 0, .int .u64 0, .int .u64 0, .int .i64 0, .int .i64 0, .int .i64 0, .int .i64 0] 26 (0, 0)) ∧ Fr (fun _ => False) w w')
  case first =>
    cases fo
    · go_quiet (fail)
      go_wp2_with fail
      go_meet
      exact ⟨rfl, Ba3.out, Bn3.out, Bz3.out, F3.out.drewN _⟩
    · go_region_held3 (fun w' => w'.cell? ⟨w.heap.size, 0, none⟩ = some (Value.int .u64 a.id.hi) ∧ w'.cell? ⟨w.heap.size, 1, none⟩ = some (Value.int .u64 a.id.lo) ∧ w'.cell? ⟨w.heap.size, 2, none⟩ = some (Value.int .u64 a.dp.hi) ∧ w'.cell? ⟨w.heap.size, 3, none⟩ = some (Value.int .u64 a.dp.lo) ∧ w'.cell? ⟨w.heap.size, 4, none⟩ = some (Value.int .u64 a.dq.hi) ∧ w'.cell? ⟨w.heap.size, 5, none⟩ = some (Value.int .u64 a.dq.lo) ∧ w'.cell? ⟨w.heap.size, 6, none⟩ = some (Value.int .u64 a.cp.hi) ∧ w'.cell? ⟨w.heap.size, 7, none⟩ = some (Value.int .u64 a.cp.lo) ∧ w'.cell? ⟨w.heap.size, 8, none⟩ = some (Value.int .u64 a.cq.hi) ∧ w'.cell? ⟨w.heap.size, 9, none⟩ = some (Value.int .u64 a.cq.lo) ∧ w'.cell? ⟨w.heap.size, 10, none⟩ = some (Value.int .i64 a.ledger) ∧ w'.cell? ⟨w.heap.size, 11, none⟩ = some (Value.int .i64 a.code) ∧ w'.cell? ⟨w.heap.size, 12, none⟩ = some (Value.int .i64 a.flags) ∧ w'.cell? ⟨w.heap.size, 13, none⟩ = some (Value.int .i64 a.stamp) ∧ w'.cell? ⟨w.heap.size + 1, 0, none⟩ = some (Value.int .u64 n.hi) ∧ w'.cell? ⟨w.heap.size + 1, 1, none⟩ = some (Value.int .u64 n.lo))
        (first | exact ⟨q0, q1, q2, q3, q4, q5, q6, q7, q8, q9, q10, q11, q12, q13, n0, n1⟩ | go_keep)
        (first
          | (go_at_call 13; (with_reducible refine (HH.out wp.drew F3.out.drew).mono ?_); rintro e w4 ⟨rfl, f4⟩; have F4 := Lib.hid (F3.out.drew.then_ f4 (fun _ h => h.elim)); have Ba4 := Lib.hid (f4.blk (blk_drew Ba3.out) (fun h => h)); have Bn4 := Lib.hid (f4.blk (blk_drew Bn3.out) (fun h => h)); have Bz4 := Lib.hid (f4.blk (blk_drew Bz3.out) (fun h => h)); have q0 := blk_cell Ba4.out 0 rfl; have q1 := blk_cell Ba4.out 1 rfl; have q2 := blk_cell Ba4.out 2 rfl; have q3 := blk_cell Ba4.out 3 rfl; have q4 := blk_cell Ba4.out 4 rfl; have q5 := blk_cell Ba4.out 5 rfl; have q6 := blk_cell Ba4.out 6 rfl; have q7 := blk_cell Ba4.out 7 rfl; have q8 := blk_cell Ba4.out 8 rfl; have q9 := blk_cell Ba4.out 9 rfl; have q10 := blk_cell Ba4.out 10 rfl; have q11 := blk_cell Ba4.out 11 rfl; have q12 := blk_cell Ba4.out 12 rfl; have q13 := blk_cell Ba4.out 13 rfl; have n0 := blk_cell Bn4.out 0 rfl; have n1 := blk_cell Bn4.out 1 rfl; clear f4)
          | (go_at_call 43; (with_reducible refine (HLs.out _).mono ?_); rintro e w5 ⟨rfl, f5⟩; have F5 := Lib.hid (F4.out.then_ f5 (fun _ h => h.elim)); have Ba5 := Lib.hid (f5.blk Ba4.out (fun h => h)); have Bn5 := Lib.hid (f5.blk Bn4.out (fun h => h)); have Bz5 := Lib.hid (f5.blk Bz4.out (fun h => h)); have q0 := blk_cell Ba5.out 0 rfl; have q1 := blk_cell Ba5.out 1 rfl; have q2 := blk_cell Ba5.out 2 rfl; have q3 := blk_cell Ba5.out 3 rfl; have q4 := blk_cell Ba5.out 4 rfl; have q5 := blk_cell Ba5.out 5 rfl; have q6 := blk_cell Ba5.out 6 rfl; have q7 := blk_cell Ba5.out 7 rfl; have q8 := blk_cell Ba5.out 8 rfl; have q9 := blk_cell Ba5.out 9 rfl; have q10 := blk_cell Ba5.out 10 rfl; have q11 := blk_cell Ba5.out 11 rfl; have q12 := blk_cell Ba5.out 12 rfl; have q13 := blk_cell Ba5.out 13 rfl; have n0 := blk_cell Bn5.out 0 rfl; have n1 := blk_cell Bn5.out 1 rfl; clear f5))
      go_wp2_with fail
      go_meet
      exact ⟨rfl, Ba5.out, Bn5.out, Bz5.out, F5.out⟩
  case rest =>
  clear q0 q1 q2 q3 q4 q5 q6 q7 q8 q9 q10 q11 q12 q13 n0 n1
  obtain ⟨rfl, hba, hbn, hbz, hff⟩ := hcut
  have Ba5 := Lib.hid hba
  have Bn5 := Lib.hid hbn
  have Bz5 := Lib.hid hbz
  have F5 := Lib.hid hff
  clear hba hbn hbz hff hf hfo
  obtain ⟨c, hc⟩ : ∃ c, (fo && ls) = c := ⟨_, rfl⟩
  rw [hc] at HMA HMR ⊢
  clear hc
  obtain ⟨wq, hwq⟩ : ∃ W : World, W = wc := ⟨_, rfl⟩
  subst hwq
  cases c
  · have HV2 := Lib.hid (show MR = 0 from HMR.out.symm)
    cases pn
    · have HV1 := Lib.hid (show MA = updA a false n false from HMA.out.symm)
      have q6 := blk_cell Ba5.out 6 rfl; have q7 := blk_cell Ba5.out 7 rfl; have q8 := blk_cell Ba5.out 8 rfl; have q9 := blk_cell Ba5.out 9 rfl
      have n0 := blk_cell Bn5.out 0 rfl; have n1 := blk_cell Bn5.out 1 rfl
      have HPd := Lib.hid (nadd_any wq a.cq n ha.out.cq hn.out)
      obtain ⟨s, hs⟩ : ∃ s, nadd a.cq n = s := ⟨_, rfl⟩
      rw [hs] at HPd
      have HSs := Lib.hid hs
      clear hs
      go_wp2_with fail
      refine HPd.out.mono ?_
      rintro e w6 ⟨rfl, f6⟩
      have F6 := Lib.hid (F5.out.then_ f6 (fun _ h => h.elim))
      have Ba6 := Lib.hid (f6.blk Ba5.out (fun h => h))
      have Bz6 := Lib.hid (f6.blk Bz5.out (fun h => h))
      clear f6
      go_wp2_with (first
        | ((refine wpList_store_part rfl 24 (.tmp 50) (.tmp 48) rfl w.heap.size 8 #[.int .u64 s.hi, .int .u64 s.lo] rfl rfl Ba6.out (by show 8 + 2 ≤ 14; omega) rfl (by simp [Value.oneCell']) ?_); intro w7 hb7 f7; have Ba7 := Lib.hid (show w7.heap[w.heap.size]? = some (.cells #[.int .u64 a.id.hi, .int .u64 a.id.lo, .int .u64 a.dp.hi, .int .u64 a.dp.lo, .int .u64 a.dq.hi, .int .u64 a.dq.lo, .int .u64 a.cp.hi, .int .u64 a.cp.lo, .int .u64 s.hi, .int .u64 s.lo, .int .i64 a.ledger, .int .i64 a.code, .int .i64 a.flags, .int .i64 a.stamp] 26 (0, 0)) from hb7); have F7 := Lib.hid (F6.out.then_ f7 (fun j hj => .inr (Nat.le_of_eq hj.symm))); have Bz7 := Lib.hid (f7.blk Bz6.out (by omega)); clear hb7 f7)
        | ((with_reducible refine wpList_load_row_w ?lw 26 _ rfl w.heap.size rfl 26 _ _ _ Ba7.out Tryd.underlying26 rfl rfl ?_); (case lw => rfl))
        | ((refine wpList_store_row rfl 26 (.tmp 6) (.tmp 51) rfl (w.heap.size + 1 + 1) #[.int .u64 a.id.hi, .int .u64 a.id.lo, .int .u64 a.dp.hi, .int .u64 a.dp.lo, .int .u64 a.dq.hi, .int .u64 a.dq.lo, .int .u64 a.cp.hi, .int .u64 a.cp.lo, .int .u64 s.hi, .int .u64 s.lo, .int .i64 a.ledger, .int .i64 a.code, .int .i64 a.flags, .int .i64 a.stamp] rfl rfl Bz7.out rfl rfl (by simp [Value.oneCell']) ?_); intro w9 hb9 f9; have HB9 := Lib.hid hb9; have F9 := Lib.hid f9; clear hb9 f9)
        | fail)
      refine bodyPost_ret (results_cell2 (p := 6) (q := 7) rfl _ _ (w.heap.size + 1 + 1) 26 _ (0, 0) _ rfl HB9.out Tryd.underlying26 rfl rfl) rfl ?_
      exact ⟨by rw [HV1.out, HV2.out, ← HSs.out]; rfl, F7.out.then_ F9.out (fun k hk => .inr (by omega))⟩

    · have HV1 := Lib.hid (show MA = updA a false n true from HMA.out.symm)
      have q6 := blk_cell Ba5.out 6 rfl; have q7 := blk_cell Ba5.out 7 rfl; have q8 := blk_cell Ba5.out 8 rfl; have q9 := blk_cell Ba5.out 9 rfl
      have n0 := blk_cell Bn5.out 0 rfl; have n1 := blk_cell Bn5.out 1 rfl
      have HPd := Lib.hid (nadd_any wq a.cp n ha.out.cp hn.out)
      obtain ⟨s, hs⟩ : ∃ s, nadd a.cp n = s := ⟨_, rfl⟩
      rw [hs] at HPd
      have HSs := Lib.hid hs
      clear hs
      go_wp2_with fail
      refine HPd.out.mono ?_
      rintro e w6 ⟨rfl, f6⟩
      have F6 := Lib.hid (F5.out.then_ f6 (fun _ h => h.elim))
      have Ba6 := Lib.hid (f6.blk Ba5.out (fun h => h))
      have Bz6 := Lib.hid (f6.blk Bz5.out (fun h => h))
      clear f6
      go_wp2_with (first
        | ((refine wpList_store_part rfl 24 (.tmp 42) (.tmp 40) rfl w.heap.size 6 #[.int .u64 s.hi, .int .u64 s.lo] rfl rfl Ba6.out (by show 6 + 2 ≤ 14; omega) rfl (by simp [Value.oneCell']) ?_); intro w7 hb7 f7; have Ba7 := Lib.hid (show w7.heap[w.heap.size]? = some (.cells #[.int .u64 a.id.hi, .int .u64 a.id.lo, .int .u64 a.dp.hi, .int .u64 a.dp.lo, .int .u64 a.dq.hi, .int .u64 a.dq.lo, .int .u64 s.hi, .int .u64 s.lo, .int .u64 a.cq.hi, .int .u64 a.cq.lo, .int .i64 a.ledger, .int .i64 a.code, .int .i64 a.flags, .int .i64 a.stamp] 26 (0, 0)) from hb7); have F7 := Lib.hid (F6.out.then_ f7 (fun j hj => .inr (Nat.le_of_eq hj.symm))); have Bz7 := Lib.hid (f7.blk Bz6.out (by omega)); clear hb7 f7)
        | ((with_reducible refine wpList_load_row_w ?lw 26 _ rfl w.heap.size rfl 26 _ _ _ Ba7.out Tryd.underlying26 rfl rfl ?_); (case lw => rfl))
        | ((refine wpList_store_row rfl 26 (.tmp 6) (.tmp 51) rfl (w.heap.size + 1 + 1) #[.int .u64 a.id.hi, .int .u64 a.id.lo, .int .u64 a.dp.hi, .int .u64 a.dp.lo, .int .u64 a.dq.hi, .int .u64 a.dq.lo, .int .u64 s.hi, .int .u64 s.lo, .int .u64 a.cq.hi, .int .u64 a.cq.lo, .int .i64 a.ledger, .int .i64 a.code, .int .i64 a.flags, .int .i64 a.stamp] rfl rfl Bz7.out rfl rfl (by simp [Value.oneCell']) ?_); intro w9 hb9 f9; have HB9 := Lib.hid hb9; have F9 := Lib.hid f9; clear hb9 f9)
        | fail)
      refine bodyPost_ret (results_cell2 (p := 6) (q := 7) rfl _ _ (w.heap.size + 1 + 1) 26 _ (0, 0) _ rfl HB9.out Tryd.underlying26 rfl rfl) rfl ?_
      exact ⟨by rw [HV1.out, HV2.out, ← HSs.out]; rfl, F7.out.then_ F9.out (fun k hk => .inr (by omega))⟩

  · have HV1 := Lib.hid (show MA = a from HMA.out.symm)
    have HV2 := Lib.hid (show MR = 34 from HMR.out.symm)
    go_wp2_with (first
      | ((with_reducible refine wpList_load_row_w ?lw 26 _ rfl w.heap.size rfl 26 _ _ _ Ba5.out Tryd.underlying26 rfl rfl ?_); (case lw => rfl))
      | ((refine wpList_store_row rfl 26 (.tmp 6) (.tmp 33) rfl (w.heap.size + 1 + 1) #[.int .u64 a.id.hi, .int .u64 a.id.lo, .int .u64 a.dp.hi, .int .u64 a.dp.lo, .int .u64 a.dq.hi, .int .u64 a.dq.lo, .int .u64 a.cp.hi, .int .u64 a.cp.lo, .int .u64 a.cq.hi, .int .u64 a.cq.lo, .int .i64 a.ledger, .int .i64 a.code, .int .i64 a.flags, .int .i64 a.stamp] rfl rfl Bz5.out rfl rfl (by simp [Value.oneCell']) ?_); intro w9 hb9 f9; have HB9 := Lib.hid hb9; have F9 := Lib.hid f9; clear hb9 f9)
      | fail)
    refine bodyPost_ret (results_cell2 (p := 6) (q := 7) rfl _ _ (w.heap.size + 1 + 1) 26 _ (0, 0) _ rfl HB9.out Tryd.underlying26 rfl rfl) rfl ?_
    exact ⟨by rw [HV1.out, HV2.out]; rfl, F5.out.then_ F9.out (fun k hk => .inr (by omega))⟩

end Go.Proofs.YtjchjpmgbmeohaaDoor
