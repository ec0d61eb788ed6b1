/- books' Have, the document's. -/
import Derived.Test.YtjchjpmgbmeohaaDoorBkF
import Derived.Test.YtjchjpmgbmeohaaDoorAcct
import Derived.Deep.RegionLaw
import Derived.StillTailTactics
import Derived.Deep.RegionHeld3
set_option linter.unusedSimpArgs false
set_option linter.unusedVariables false
namespace Go.Proofs.YtjchjpmgbmeohaaDoor
open Go.RowKit

theorem blk_two {w : World} {g : Nat} {x y u v : Value} {t : TypeId} (h : w.heap[g]? = some (.cells #[x, y] t (0, 0))) : ((w.setCell ⟨g, 0, none⟩ u).setCell ⟨g, 1, none⟩ v).heap[g]? = some (.cells #[u, v] t (0, 0)) := by
  have h2 := blk_set (blk_set h 0 u) 1 v
  simpa using h2
theorem blk3 (w : World) (a b c d : Obj) : ((((w.alloc a).alloc b).alloc c).alloc d).heap[w.heap.size + 1 + 1 + 1]? = some d := by
  have h := heap_alloc_new (((w.alloc a).alloc b).alloc c) d
  simpa using h
def haveN (a : Acc) (debit : Bool) : Nm := if debit = true then nsub a.cq (ntot a.dp a.dq) else nsub a.dq (ntot a.cp a.cq)
set_option maxRecDepth 4000 in
set_option maxHeartbeats 6400000 in
theorem have_any (w : World) (a : Acc) (debit : Bool) (ha : a.ok) (hm : Most w) :
    Calls Tryd.prog 13 #[.agg #[.int .u64 a.id.hi, .int .u64 a.id.lo, .int .u64 a.dp.hi, .int .u64 a.dp.lo, .int .u64 a.dq.hi, .int .u64 a.dq.lo, .int .u64 a.cp.hi, .int .u64 a.cp.lo, .int .u64 a.cq.hi, .int .u64 a.cq.lo, .int .i64 a.ledger, .int .i64 a.code, .int .i64 a.flags, .int .i64 a.stamp], .bool debit] w fun e w' => e = .returned (.agg #[.int .u64 (haveN a debit).hi, .int .u64 (haveN a debit).lo]) ∧ Fr (fun _ => False) w w' := by
  have Ba := Lib.hid (blk_alloc (heap_alloc_new w (.cells #[.int .u64 a.id.hi, .int .u64 a.id.lo, .int .u64 a.dp.hi, .int .u64 a.dp.lo, .int .u64 a.dq.hi, .int .u64 a.dq.lo, .int .u64 a.cp.hi, .int .u64 a.cp.lo, .int .u64 a.cq.hi, .int .u64 a.cq.lo, .int .i64 a.ledger, .int .i64 a.code, .int .i64 a.flags, .int .i64 a.stamp] 26)) (.cells #[.int .u64 0, .int .u64 0] 24))
  have Bz := Lib.hid (blk1 w (.cells #[.int .u64 a.id.hi, .int .u64 a.id.lo, .int .u64 a.dp.hi, .int .u64 a.dp.lo, .int .u64 a.dq.hi, .int .u64 a.dq.lo, .int .u64 a.cp.hi, .int .u64 a.cp.lo, .int .u64 a.cq.hi, .int .u64 a.cq.lo, .int .i64 a.ledger, .int .i64 a.code, .int .i64 a.flags, .int .i64 a.stamp] 26) (.cells #[.int .u64 0, .int .u64 0] 24))
  have B2 := Lib.hid (blk2 w (.cells #[.int .u64 a.id.hi, .int .u64 a.id.lo, .int .u64 a.dp.hi, .int .u64 a.dp.lo, .int .u64 a.dq.hi, .int .u64 a.dq.lo, .int .u64 a.cp.hi, .int .u64 a.cp.lo, .int .u64 a.cq.hi, .int .u64 a.cq.lo, .int .i64 a.ledger, .int .i64 a.code, .int .i64 a.flags, .int .i64 a.stamp] 26) (.cells #[.int .u64 0, .int .u64 0] 24) (.cells #[.int .u64 0, .int .u64 0] 24))
  have B3 := Lib.hid (blk3 w (.cells #[.int .u64 a.id.hi, .int .u64 a.id.lo, .int .u64 a.dp.hi, .int .u64 a.dp.lo, .int .u64 a.dq.hi, .int .u64 a.dq.lo, .int .u64 a.cp.hi, .int .u64 a.cp.lo, .int .u64 a.cq.hi, .int .u64 a.cq.lo, .int .i64 a.ledger, .int .i64 a.code, .int .i64 a.flags, .int .i64 a.stamp] 26) (.cells #[.int .u64 0, .int .u64 0] 24) (.cells #[.int .u64 0, .int .u64 0] 24) (.cells #[.int .u64 0, .int .u64 0] 24))
  have FA := Lib.hid (((Fr.refl (fun _ => False) w).alloc (.cells #[.int .u64 a.id.hi, .int .u64 a.id.lo, .int .u64 a.dp.hi, .int .u64 a.dp.lo, .int .u64 a.dq.hi, .int .u64 a.dq.lo, .int .u64 a.cp.hi, .int .u64 a.cp.lo, .int .u64 a.cq.hi, .int .u64 a.cq.lo, .int .i64 a.ledger, .int .i64 a.code, .int .i64 a.flags, .int .i64 a.stamp] 26)).alloc (.cells #[.int .u64 0, .int .u64 0] 24))
  have HM := Lib.hid hm
  have HT1 := Lib.hid (fun W (h : Fr (fun _ => False) w W) => total_any W a.cp a.cq ha.cp ha.cq (HM.out.fr h (fun h => h)))
  have HT2 := Lib.hid (fun W (h : Fr (fun _ => False) w W) => total_any W a.dp a.dq ha.dp ha.dq (HM.out.fr h (fun h => h)))
  obtain ⟨t1, ht1⟩ : ∃ t, ntot a.cp a.cq = t := ⟨_, rfl⟩
  obtain ⟨t2, ht2⟩ : ∃ t, ntot a.dp a.dq = t := ⟨_, rfl⟩
  have k1 : t1.ok := ht1 ▸ ntot_ok ha.cp ha.cq
  have k2 : t2.ok := ht2 ▸ ntot_ok ha.dp ha.dq
  rw [ht1] at HT1
  rw [ht2] at HT2
  have HS1 := Lib.hid (fun W => nsub_any W a.dq t1 ha.dq k1)
  have HS2 := Lib.hid (fun W => nsub_any W a.cq t2 ha.cq k2)
  obtain ⟨R, hR⟩ : ∃ R, haveN a debit = R := ⟨_, rfl⟩
  rw [hR]
  unfold haveN at hR
  rw [ht1, ht2] at hR
  have HR := Lib.hid hR
  have q2 := blk_cell Ba.out 2 rfl; have q3 := blk_cell Ba.out 3 rfl; have q4 := blk_cell Ba.out 4 rfl; have q5 := blk_cell Ba.out 5 rfl; have q6 := blk_cell Ba.out 6 rfl; have q7 := blk_cell Ba.out 7 rfl; have q8 := blk_cell Ba.out 8 rfl; have q9 := blk_cell Ba.out 9 rfl
  clear hm ht1 ht2 k1 k2 hR ha
  have n1 : ¬ w.heap.size = w.heap.size + 1 + 1 := by omega
  have n2 : ¬ w.heap.size + 1 + 1 = w.heap.size := by omega
  have n3 : ¬ w.heap.size = w.heap.size + 1 + 1 + 1 := by omega
  have n4 : ¬ w.heap.size + 1 + 1 + 1 = w.heap.size := by omega
  have n5 : ¬ w.heap.size + 1 + 1 = w.heap.size + 1 + 1 + 1 := by omega
  have n6 : ¬ w.heap.size + 1 + 1 + 1 = w.heap.size + 1 + 1 := by omega
  go_enter Tryd.func13, Tryd.ntmps13
  go_upto_region 1 with fail
  go_cut [5, 6] from 9 (fun s5 s6 w' => ∃ g1 g2, s5 = .pointer (some ⟨g1, 0, none⟩) ∧ s6 = .pointer (some ⟨g2, 0, none⟩) ∧ g1 ≠ g2 ∧ w.heap.size + 1 < g1 ∧ w.heap.size + 1 < g2 ∧ w'.heap[g1]? = some (.cells #[.int .u64 a.dq.hi, .int .u64 a.dq.lo] 24 (0, 0)) ∧ w'.heap[g2]? = some (.cells #[.int .u64 t1.hi, .int .u64 t1.lo] 24 (0, 0)) ∧ w'.heap[w.heap.size]? = some (.cells #[.int .u64 a.id.hi, .int .u64 a.id.lo, .int .u64 a.dp.hi, .int .u64 a.dp.lo, .int .u64 a.dq.hi, .int .u64 a.dq.lo, .int .u64 a.cp.hi, .int .u64 a.cp.lo, .int .u64 a.cq.hi, .int .u64 a.cq.lo, .int .i64 a.ledger, .int .i64 a.code, .int .i64 a.flags, .int .i64 a.stamp] 26 (0, 0)) ∧ w'.heap[w.heap.size + 1]? = some (.cells #[.int .u64 0, .int .u64 0] 24 (0, 0)) ∧ Fr (fun _ => False) w w')
  case first =>
    go_region_held3 (fun w' => w'.cell? ⟨w.heap.size, 4, none⟩ = some (Value.int .u64 a.dq.hi) ∧ w'.cell? ⟨w.heap.size, 5, none⟩ = some (Value.int .u64 a.dq.lo) ∧ w'.cell? ⟨w.heap.size, 6, none⟩ = some (Value.int .u64 a.cp.hi) ∧ w'.cell? ⟨w.heap.size, 7, none⟩ = some (Value.int .u64 a.cp.lo) ∧ w'.cell? ⟨w.heap.size, 8, none⟩ = some (Value.int .u64 a.cq.hi) ∧ w'.cell? ⟨w.heap.size, 9, none⟩ = some (Value.int .u64 a.cq.lo))
      (first | exact ⟨q4, q5, q6, q7, q8, q9⟩ | go_keep)
      (first
        | (go_at_call 47; (with_reducible refine (HT1.out ((w.alloc (.cells #[.int .u64 a.id.hi, .int .u64 a.id.lo, .int .u64 a.dp.hi, .int .u64 a.dp.lo, .int .u64 a.dq.hi, .int .u64 a.dq.lo, .int .u64 a.cp.hi, .int .u64 a.cp.lo, .int .u64 a.cq.hi, .int .u64 a.cq.lo, .int .i64 a.ledger, .int .i64 a.code, .int .i64 a.flags, .int .i64 a.stamp] 26)).alloc (.cells #[.int .u64 0, .int .u64 0] 24)).drew FA.out.drew).mono ?_); rintro e w2 ⟨rfl, f2⟩; have F2 := Lib.hid (FA.out.drew.then_ f2 (fun _ h => h.elim)); have Ba2 := Lib.hid (f2.blk (blk_drew Ba.out) (fun h => h)); have Bz2 := Lib.hid (f2.blk (blk_drew Bz.out) (fun h => h)); have hsz : ((w.alloc (.cells #[.int .u64 a.id.hi, .int .u64 a.id.lo, .int .u64 a.dp.hi, .int .u64 a.dp.lo, .int .u64 a.dq.hi, .int .u64 a.dq.lo, .int .u64 a.cp.hi, .int .u64 a.cp.lo, .int .u64 a.cq.hi, .int .u64 a.cq.lo, .int .i64 a.ledger, .int .i64 a.code, .int .i64 a.flags, .int .i64 a.stamp] 26)).alloc (.cells #[.int .u64 0, .int .u64 0] 24)).heap.size = w.heap.size + 2 := (by simp); have hlz : w.heap.size + 2 ≤ w2.heap.size := hsz ▸ f2.size; have e4 : ¬ w.heap.size = w2.heap.size := (by omega); have e5 : ¬ w2.heap.size = w.heap.size := (by omega); have e6 : ¬ w.heap.size = w2.heap.size + 1 := (by omega); have e7 : ¬ w2.heap.size + 1 = w.heap.size := (by omega); have HK := Lib.hid hlz; clear hsz hlz; have c90 := blk_cell (heap_alloc_new w2 (.cells #[.int .u64 0, .int .u64 0] 24)) 0 rfl; have c91 := blk_cell (heap_alloc_new w2 (.cells #[.int .u64 0, .int .u64 0] 24)) 1 rfl; have d90 := blk_free (heap_alloc_new w2 (.cells #[.int .u64 0, .int .u64 0] 24)) 0; have d91 := blk_free (heap_alloc_new w2 (.cells #[.int .u64 0, .int .u64 0] 24)) 1; have q2 := blk_cell Ba2.out 2 rfl; have q3 := blk_cell Ba2.out 3 rfl; have q4 := blk_cell Ba2.out 4 rfl; have q5 := blk_cell Ba2.out 5 rfl; have q6 := blk_cell Ba2.out 6 rfl; have q7 := blk_cell Ba2.out 7 rfl; have q8 := blk_cell Ba2.out 8 rfl; have q9 := blk_cell Ba2.out 9 rfl; clear f2)
        | (go_at_call 47; (with_reducible refine (HT1.out ((((w.alloc (.cells #[.int .u64 a.id.hi, .int .u64 a.id.lo, .int .u64 a.dp.hi, .int .u64 a.dp.lo, .int .u64 a.dq.hi, .int .u64 a.dq.lo, .int .u64 a.cp.hi, .int .u64 a.cp.lo, .int .u64 a.cq.hi, .int .u64 a.cq.lo, .int .i64 a.ledger, .int .i64 a.code, .int .i64 a.flags, .int .i64 a.stamp] 26)).alloc (.cells #[.int .u64 0, .int .u64 0] 24)).alloc (.cells #[.int .u64 0, .int .u64 0] 24)).alloc (.cells #[.int .u64 0, .int .u64 0] 24)).drew ((FA.out.alloc (.cells #[.int .u64 0, .int .u64 0] 24)).alloc (.cells #[.int .u64 0, .int .u64 0] 24)).drew).mono ?_); rintro e w2 ⟨rfl, f2⟩; have F2 := Lib.hid (((FA.out.alloc (.cells #[.int .u64 0, .int .u64 0] 24)).alloc (.cells #[.int .u64 0, .int .u64 0] 24)).drew.then_ f2 (fun _ h => h.elim)); have Ba2 := Lib.hid (f2.blk (blk_drew (blk_alloc (blk_alloc Ba.out (.cells #[.int .u64 0, .int .u64 0] 24)) (.cells #[.int .u64 0, .int .u64 0] 24))) (fun h => h)); have Bz2 := Lib.hid (f2.blk (blk_drew (blk_alloc (blk_alloc Bz.out (.cells #[.int .u64 0, .int .u64 0] 24)) (.cells #[.int .u64 0, .int .u64 0] 24))) (fun h => h)); have hsz : ((((w.alloc (.cells #[.int .u64 a.id.hi, .int .u64 a.id.lo, .int .u64 a.dp.hi, .int .u64 a.dp.lo, .int .u64 a.dq.hi, .int .u64 a.dq.lo, .int .u64 a.cp.hi, .int .u64 a.cp.lo, .int .u64 a.cq.hi, .int .u64 a.cq.lo, .int .i64 a.ledger, .int .i64 a.code, .int .i64 a.flags, .int .i64 a.stamp] 26)).alloc (.cells #[.int .u64 0, .int .u64 0] 24)).alloc (.cells #[.int .u64 0, .int .u64 0] 24)).alloc (.cells #[.int .u64 0, .int .u64 0] 24)).heap.size = w.heap.size + 4 := (by simp); have hlz : w.heap.size + 4 ≤ w2.heap.size := hsz ▸ f2.size; have e4 : ¬ w.heap.size = w2.heap.size := (by omega); have e5 : ¬ w2.heap.size = w.heap.size := (by omega); have e6 : ¬ w.heap.size = w2.heap.size + 1 := (by omega); have e7 : ¬ w2.heap.size + 1 = w.heap.size := (by omega); have HK := Lib.hid hlz; clear hsz hlz; have hs2 : ((((w.alloc (.cells #[.int .u64 a.id.hi, .int .u64 a.id.lo, .int .u64 a.dp.hi, .int .u64 a.dp.lo, .int .u64 a.dq.hi, .int .u64 a.dq.lo, .int .u64 a.cp.hi, .int .u64 a.cp.lo, .int .u64 a.cq.hi, .int .u64 a.cq.lo, .int .i64 a.ledger, .int .i64 a.code, .int .i64 a.flags, .int .i64 a.stamp] 26)).alloc (.cells #[.int .u64 0, .int .u64 0] 24)).alloc (.cells #[.int .u64 0, .int .u64 0] 24)).alloc (.cells #[.int .u64 0, .int .u64 0] 24)).heap.size = w.heap.size + 4 := (by simp); have hl2 : w.heap.size + 4 ≤ w2.heap.size := hs2 ▸ f2.size; have e1 : ¬ w.heap.size + 1 + 1 = w2.heap.size := (by omega); have e2 : ¬ w2.heap.size = w.heap.size + 1 + 1 := (by omega); have e3 : ¬ w.heap.size + 1 + 1 = w2.heap.size + 1 := (by omega); clear hl2 hs2; have c90 := blk_cell (heap_alloc_new w2 (.cells #[.int .u64 0, .int .u64 0] 24)) 0 rfl; have c91 := blk_cell (heap_alloc_new w2 (.cells #[.int .u64 0, .int .u64 0] 24)) 1 rfl; have d90 := blk_free (heap_alloc_new w2 (.cells #[.int .u64 0, .int .u64 0] 24)) 0; have d91 := blk_free (heap_alloc_new w2 (.cells #[.int .u64 0, .int .u64 0] 24)) 1; have C2 := Lib.hid (f2.blk (blk_drew (blk_alloc B2.out (.cells #[.int .u64 0, .int .u64 0] 24))) (fun h => h)); have C3 := Lib.hid (f2.blk (blk_drew B3.out) (fun h => h)); have c20 := blk_cell C2.out 0 rfl; have c21 := blk_cell C2.out 1 rfl; have d20 := blk_free C2.out 0; have d21 := blk_free C2.out 1; have c30 := blk_cell C3.out 0 rfl; have c31 := blk_cell C3.out 1 rfl; have d30 := blk_free C3.out 0; have d31 := blk_free C3.out 1; have q2 := blk_cell Ba2.out 2 rfl; have q3 := blk_cell Ba2.out 3 rfl; have q4 := blk_cell Ba2.out 4 rfl; have q5 := blk_cell Ba2.out 5 rfl; have q6 := blk_cell Ba2.out 6 rfl; have q7 := blk_cell Ba2.out 7 rfl; have q8 := blk_cell Ba2.out 8 rfl; have q9 := blk_cell Ba2.out 9 rfl; clear f2)
        | (go_at_call 47; (with_reducible refine (HT1.out (((w.alloc (.cells #[.int .u64 a.id.hi, .int .u64 a.id.lo, .int .u64 a.dp.hi, .int .u64 a.dp.lo, .int .u64 a.dq.hi, .int .u64 a.dq.lo, .int .u64 a.cp.hi, .int .u64 a.cp.lo, .int .u64 a.cq.hi, .int .u64 a.cq.lo, .int .i64 a.ledger, .int .i64 a.code, .int .i64 a.flags, .int .i64 a.stamp] 26)).alloc (.cells #[.int .u64 0, .int .u64 0] 24)).alloc (.cells #[.int .u64 0, .int .u64 0] 24)).drew (FA.out.alloc (.cells #[.int .u64 0, .int .u64 0] 24)).drew).mono ?_); rintro e w2 ⟨rfl, f2⟩; have F2 := Lib.hid ((FA.out.alloc (.cells #[.int .u64 0, .int .u64 0] 24)).drew.then_ f2 (fun _ h => h.elim)); have Ba2 := Lib.hid (f2.blk (blk_drew (blk_alloc Ba.out (.cells #[.int .u64 0, .int .u64 0] 24))) (fun h => h)); have Bz2 := Lib.hid (f2.blk (blk_drew (blk_alloc Bz.out (.cells #[.int .u64 0, .int .u64 0] 24))) (fun h => h)); have hsz : (((w.alloc (.cells #[.int .u64 a.id.hi, .int .u64 a.id.lo, .int .u64 a.dp.hi, .int .u64 a.dp.lo, .int .u64 a.dq.hi, .int .u64 a.dq.lo, .int .u64 a.cp.hi, .int .u64 a.cp.lo, .int .u64 a.cq.hi, .int .u64 a.cq.lo, .int .i64 a.ledger, .int .i64 a.code, .int .i64 a.flags, .int .i64 a.stamp] 26)).alloc (.cells #[.int .u64 0, .int .u64 0] 24)).alloc (.cells #[.int .u64 0, .int .u64 0] 24)).heap.size = w.heap.size + 3 := (by simp); have hlz : w.heap.size + 3 ≤ w2.heap.size := hsz ▸ f2.size; have e4 : ¬ w.heap.size = w2.heap.size := (by omega); have e5 : ¬ w2.heap.size = w.heap.size := (by omega); have e6 : ¬ w.heap.size = w2.heap.size + 1 := (by omega); have e7 : ¬ w2.heap.size + 1 = w.heap.size := (by omega); have HK := Lib.hid hlz; clear hsz hlz; have hs2 : (((w.alloc (.cells #[.int .u64 a.id.hi, .int .u64 a.id.lo, .int .u64 a.dp.hi, .int .u64 a.dp.lo, .int .u64 a.dq.hi, .int .u64 a.dq.lo, .int .u64 a.cp.hi, .int .u64 a.cp.lo, .int .u64 a.cq.hi, .int .u64 a.cq.lo, .int .i64 a.ledger, .int .i64 a.code, .int .i64 a.flags, .int .i64 a.stamp] 26)).alloc (.cells #[.int .u64 0, .int .u64 0] 24)).alloc (.cells #[.int .u64 0, .int .u64 0] 24)).heap.size = w.heap.size + 3 := (by simp); have hl2 : w.heap.size + 3 ≤ w2.heap.size := hs2 ▸ f2.size; have e1 : ¬ w.heap.size + 1 + 1 = w2.heap.size := (by omega); have e2 : ¬ w2.heap.size = w.heap.size + 1 + 1 := (by omega); have e3 : ¬ w.heap.size + 1 + 1 = w2.heap.size + 1 := (by omega); clear hl2 hs2; have c90 := blk_cell (heap_alloc_new w2 (.cells #[.int .u64 0, .int .u64 0] 24)) 0 rfl; have c91 := blk_cell (heap_alloc_new w2 (.cells #[.int .u64 0, .int .u64 0] 24)) 1 rfl; have d90 := blk_free (heap_alloc_new w2 (.cells #[.int .u64 0, .int .u64 0] 24)) 0; have d91 := blk_free (heap_alloc_new w2 (.cells #[.int .u64 0, .int .u64 0] 24)) 1; have C2 := Lib.hid (f2.blk (blk_drew B2.out) (fun h => h)); have c20 := blk_cell C2.out 0 rfl; have c21 := blk_cell C2.out 1 rfl; have d20 := blk_free C2.out 0; have d21 := blk_free C2.out 1; have c2x0 := blk_cell (blk_alloc C2.out (.cells #[.int .u64 0, .int .u64 0] 24)) 0 rfl; have c2x1 := blk_cell (blk_alloc C2.out (.cells #[.int .u64 0, .int .u64 0] 24)) 1 rfl; have d2x0 := blk_free (blk_alloc C2.out (.cells #[.int .u64 0, .int .u64 0] 24)) 0; have d2x1 := blk_free (blk_alloc C2.out (.cells #[.int .u64 0, .int .u64 0] 24)) 1; have c2y0 := blk_cell (blk_alloc C2.out (.cells #[.int .u64 a.dq.hi, .int .u64 a.dq.lo] 24)) 0 rfl; have c2y1 := blk_cell (blk_alloc C2.out (.cells #[.int .u64 a.dq.hi, .int .u64 a.dq.lo] 24)) 1 rfl; have d2y0 := blk_free (blk_alloc C2.out (.cells #[.int .u64 a.dq.hi, .int .u64 a.dq.lo] 24)) 0; have d2y1 := blk_free (blk_alloc C2.out (.cells #[.int .u64 a.dq.hi, .int .u64 a.dq.lo] 24)) 1; have c2v0 := blk_cell (blk_alloc C2.out (.cells #[.int .u64 t1.hi, .int .u64 t1.lo] 24)) 0 rfl; have c2v1 := blk_cell (blk_alloc C2.out (.cells #[.int .u64 t1.hi, .int .u64 t1.lo] 24)) 1 rfl; have d2v0 := blk_free (blk_alloc C2.out (.cells #[.int .u64 t1.hi, .int .u64 t1.lo] 24)) 0; have d2v1 := blk_free (blk_alloc C2.out (.cells #[.int .u64 t1.hi, .int .u64 t1.lo] 24)) 1; have q2 := blk_cell Ba2.out 2 rfl; have q3 := blk_cell Ba2.out 3 rfl; have q4 := blk_cell Ba2.out 4 rfl; have q5 := blk_cell Ba2.out 5 rfl; have q6 := blk_cell Ba2.out 6 rfl; have q7 := blk_cell Ba2.out 7 rfl; have q8 := blk_cell Ba2.out 8 rfl; have q9 := blk_cell Ba2.out 9 rfl; clear f2))
    all_goals (go_wp2_with fail)
    all_goals go_meet
    all_goals
      have hk := HK.out
      refine ⟨_, _, rfl, rfl, by omega, by omega, by omega, ?_, ?_, ?_, ?_, ?_⟩
      · repeat (first | (with_reducible exact C2.out) | (with_reducible exact C3.out) | (with_reducible exact Ba2.out) | (with_reducible exact Bz2.out) | (with_reducible exact heap_alloc_new _ _) | (with_reducible exact blk1 _ _ _) | (with_reducible refine blk_two (x := .int .u64 0) (y := .int .u64 0) ?_) | (with_reducible refine blk_far2 ?_ (by omega) _) | (with_reducible refine blk_alloc ?_ _))
      · repeat (first | (with_reducible exact C2.out) | (with_reducible exact C3.out) | (with_reducible exact Ba2.out) | (with_reducible exact Bz2.out) | (with_reducible exact heap_alloc_new _ _) | (with_reducible exact blk1 _ _ _) | (with_reducible refine blk_two (x := .int .u64 0) (y := .int .u64 0) ?_) | (with_reducible refine blk_far2 ?_ (by omega) _) | (with_reducible refine blk_alloc ?_ _))
      · repeat (first | (with_reducible exact C2.out) | (with_reducible exact C3.out) | (with_reducible exact Ba2.out) | (with_reducible exact Bz2.out) | (with_reducible exact heap_alloc_new _ _) | (with_reducible exact blk1 _ _ _) | (with_reducible refine blk_two (x := .int .u64 0) (y := .int .u64 0) ?_) | (with_reducible refine blk_far2 ?_ (by omega) _) | (with_reducible refine blk_alloc ?_ _))
      · repeat (first | (with_reducible exact C2.out) | (with_reducible exact C3.out) | (with_reducible exact Ba2.out) | (with_reducible exact Bz2.out) | (with_reducible exact heap_alloc_new _ _) | (with_reducible exact blk1 _ _ _) | (with_reducible refine blk_two (x := .int .u64 0) (y := .int .u64 0) ?_) | (with_reducible refine blk_far2 ?_ (by omega) _) | (with_reducible refine blk_alloc ?_ _))
      · (repeat (first | (with_reducible exact Fr.refl _ _) | (with_reducible refine Fr.drew ?_) | (with_reducible refine Fr.drewN ?_ _) | (with_reducible refine Fr.alloc ?_ _) | (with_reducible refine Fr.set1 ?_ _) | (with_reducible refine Fr.setNew ?_ (by omega) _))) <;> exact F2.out
  case rest =>
  clear q2 q3 q4 q5 q6 q7 q8 q9 n1 n2 n3 n4 n5 n6 B2 B3
  obtain ⟨g1, g2, rfl, rfl, hne, hg1, hg2, hb1, hb2, hba, hbz, hf⟩ := hcut
  have HNe := Lib.hid hne
  have HG1 := Lib.hid hg1
  have HG2 := Lib.hid hg2
  have C1 := Lib.hid hb1
  have C2 := Lib.hid hb2
  have Ba := Lib.hid hba
  have Bz := Lib.hid hbz
  have FC := Lib.hid hf
  clear hne hg1 hg2 hb1 hb2 hba hbz hf
  cases debit
  · have HV := Lib.hid (show nsub a.dq t1 = R from by rw [← HR.out, if_neg (by decide)])
    rw [HV.out] at HS1
    have x0 := blk_cell C1.out 0 rfl; have x1 := blk_cell C1.out 1 rfl; have y0 := blk_cell C2.out 0 rfl; have y1 := blk_cell C2.out 1 rfl
    go_wp2_with fail
    refine (HS1.out _).mono ?_
    rintro e w3 ⟨rfl, f3⟩
    have F3 := Lib.hid ((FC.out.then_ f3 (fun _ h => h.elim)).alloc (.cells #[.int .u64 R.hi, .int .u64 R.lo] 24))
    have Bz3 := Lib.hid (blk_alloc (f3.blk Bz.out (fun h => h)) (.cells #[.int .u64 R.hi, .int .u64 R.lo] 24))
    clear f3
    go_wp2_with (first | ((refine wpList_store_row rfl 24 (.tmp 4) (.tmp 30) rfl (w.heap.size + 1) #[.int .u64 R.hi, .int .u64 R.lo] rfl rfl Bz3.out rfl rfl (by simp [Value.oneCell']) ?_); intro w9 hb9 f9; have HB9 := Lib.hid hb9; have F9 := Lib.hid f9; clear hb9 f9) | fail)
    refine bodyPost_ret (results_cell1 (p := 4) rfl _ _ (w.heap.size + 1) 24 _ (0, 0) _ rfl HB9.out Tryd.underlying24 rfl rfl) rfl ?_
    exact ⟨by first | (rfl; done) | simp, F3.out.then_ F9.out (fun k hk => .inr (by omega))⟩
  · have HV := Lib.hid (show nsub a.cq t2 = R from by rw [← HR.out, if_pos rfl])
    rw [HV.out] at HS2
    have q2 := blk_cell Ba.out 2 rfl; have q3 := blk_cell Ba.out 3 rfl; have q4 := blk_cell Ba.out 4 rfl; have q5 := blk_cell Ba.out 5 rfl; have q6 := blk_cell Ba.out 6 rfl; have q7 := blk_cell Ba.out 7 rfl; have q8 := blk_cell Ba.out 8 rfl; have q9 := blk_cell Ba.out 9 rfl
    have hn := HNe.out
    have hn' : ¬ g2 = g1 := fun e => hn e.symm
    have hg1 := HG1.out
    have hg2 := HG2.out
    have m1 : ¬ w.heap.size = g1 := by omega
    have m2 : ¬ w.heap.size = g2 := by omega
    have m3 : ¬ g1 = w.heap.size := by omega
    have m4 : ¬ g2 = w.heap.size := by omega
    clear hg1 hg2
    go_upto_region 3 with fail
    go_cut [] from 17 (fun w' => w'.heap[g1]? = some (.cells #[.int .u64 a.cq.hi, .int .u64 a.cq.lo] 24 (0, 0)) ∧ w'.heap[g2]? = some (.cells #[.int .u64 t2.hi, .int .u64 t2.lo] 24 (0, 0)) ∧ w'.heap[w.heap.size + 1]? = some (.cells #[.int .u64 0, .int .u64 0] 24 (0, 0)) ∧ Fr (fun _ => False) w w')
    case first =>
      go_region_held3 (fun w' => w'.cell? ⟨w.heap.size, 2, none⟩ = some (Value.int .u64 a.dp.hi) ∧ w'.cell? ⟨w.heap.size, 3, none⟩ = some (Value.int .u64 a.dp.lo) ∧ w'.cell? ⟨w.heap.size, 4, none⟩ = some (Value.int .u64 a.dq.hi) ∧ w'.cell? ⟨w.heap.size, 5, none⟩ = some (Value.int .u64 a.dq.lo) ∧ w'.cell? ⟨w.heap.size, 8, none⟩ = some (Value.int .u64 a.cq.hi) ∧ w'.cell? ⟨w.heap.size, 9, none⟩ = some (Value.int .u64 a.cq.lo))
        (first | exact ⟨q2, q3, q4, q5, q8, q9⟩ | go_keep)
        (first
          | (go_at_call 47; (with_reducible refine (HT2.out wc.drew FC.out.drew).mono ?_); rintro e w2 ⟨rfl, f2⟩; have F2 := Lib.hid (FC.out.drew.then_ f2 (fun _ h => h.elim)); have Ba2 := Lib.hid (f2.blk (blk_drew Ba.out) (fun h => h)); have Bz2 := Lib.hid (f2.blk (blk_drew Bz.out) (fun h => h)); have D1 := Lib.hid (f2.blk (blk_drew C1.out) (fun h => h)); have D2 := Lib.hid (f2.blk (blk_drew C2.out) (fun h => h)); have q2 := blk_cell Ba2.out 2 rfl; have q3 := blk_cell Ba2.out 3 rfl; have q4 := blk_cell Ba2.out 4 rfl; have q5 := blk_cell Ba2.out 5 rfl; have q6 := blk_cell Ba2.out 6 rfl; have q7 := blk_cell Ba2.out 7 rfl; have q8 := blk_cell Ba2.out 8 rfl; have q9 := blk_cell Ba2.out 9 rfl; have c10 := blk_cell D1.out 0 rfl; have c11 := blk_cell D1.out 1 rfl; have d10 := blk_free D1.out 0; have d11 := blk_free D1.out 1; have c20 := blk_cell D2.out 0 rfl; have c21 := blk_cell D2.out 1 rfl; have d20 := blk_free D2.out 0; have d21 := blk_free D2.out 1; clear f2))
      all_goals (go_wp2_with fail)
      all_goals go_meet
      all_goals
        have hg1 := HG1.out
        have hg2 := HG2.out
        refine ⟨?_, ?_, ?_, ?_⟩
        · repeat (first | (with_reducible exact D1.out) | (with_reducible exact D2.out) | (with_reducible exact Bz2.out) | (with_reducible refine blk_two (x := .int .u64 a.dq.hi) (y := .int .u64 a.dq.lo) ?_) | (with_reducible refine blk_far2 ?_ (by omega) _))
        · repeat (first | (with_reducible exact D1.out) | (with_reducible exact D2.out) | (with_reducible exact Bz2.out) | (with_reducible refine blk_two (x := .int .u64 t1.hi) (y := .int .u64 t1.lo) ?_) | (with_reducible refine blk_far2 ?_ (by omega) _))
        · repeat (first | (with_reducible exact D1.out) | (with_reducible exact D2.out) | (with_reducible exact Bz2.out) | (with_reducible refine blk_two (x := .int .u64 a.dq.hi) (y := .int .u64 a.dq.lo) ?_) | (with_reducible refine blk_far2 ?_ (by omega) _))
        · (repeat (first | (with_reducible exact Fr.refl _ _) | (with_reducible refine Fr.drew ?_) | (with_reducible refine Fr.drewN ?_ _) | (with_reducible refine Fr.alloc ?_ _) | (with_reducible refine Fr.set1 ?_ _) | (with_reducible refine Fr.setNew ?_ (by omega) _))) <;> exact F2.out
    case rest =>
    obtain ⟨hb1, hb2, hbz, hf⟩ := hcut
    have Bz2 := Lib.hid hbz
    have F2 := Lib.hid hf
    have x0 := blk_cell hb1 0 rfl; have x1 := blk_cell hb1 1 rfl; have y0 := blk_cell hb2 0 rfl; have y1 := blk_cell hb2 1 rfl
    clear hb1 hb2 hbz hf q2 q3 q4 q5 q6 q7 q8 q9
    go_wp2_with fail
    refine (HS2.out _).mono ?_
    rintro e w3 ⟨rfl, f3⟩
    have F3 := Lib.hid ((F2.out.then_ f3 (fun _ h => h.elim)).alloc (.cells #[.int .u64 R.hi, .int .u64 R.lo] 24))
    have Bz3 := Lib.hid (blk_alloc (f3.blk Bz2.out (fun h => h)) (.cells #[.int .u64 R.hi, .int .u64 R.lo] 24))
    clear f3
    go_wp2_with (first | ((refine wpList_store_row rfl 24 (.tmp 4) (.tmp 30) rfl (w.heap.size + 1) #[.int .u64 R.hi, .int .u64 R.lo] rfl rfl Bz3.out rfl rfl (by simp [Value.oneCell']) ?_); intro w9 hb9 f9; have HB9 := Lib.hid hb9; have F9 := Lib.hid f9; clear hb9 f9) | fail)
    refine bodyPost_ret (results_cell1 (p := 4) rfl _ _ (w.heap.size + 1) 24 _ (0, 0) _ rfl HB9.out Tryd.underlying24 rfl rfl) rfl ?_
    exact ⟨by first | (rfl; done) | simp, F3.out.then_ F9.out (fun k hk => .inr (by omega))⟩
end Go.Proofs.YtjchjpmgbmeohaaDoor
