/- The document's numbers, bit by bit. -/
import Derived.Test.YtjchjpmgbmeohaaDoorBkB
import Derived.Deep.RegionHeld3
import Derived.Deep.CutBlock
set_option linter.unusedSimpArgs false
set_option linter.unusedVariables false
namespace Go.Proofs.YtjchjpmgbmeohaaDoor
open Go.RowKit

theorem pow_64 : (2 : Int) ^ 64 = 18446744073709551616 := by decide +kernel
theorem pow_split (i : Nat) (h : 64 ≤ i) : (2 : Int) ^ i = 18446744073709551616 * 2 ^ (i - 64) := by
  have e : (2 : Int) ^ i = 2 ^ 64 * 2 ^ (i - 64) := by
    rw [← Int.pow_add]
    congr 1
    omega
  rw [e, pow_64]
theorem pow_pos' (i : Nat) : (0 : Int) < 2 ^ i := Int.pow_pos (by decide)
theorem bit_hi {a : Nm} (ha : a.ok) {i : Nat} (h : 64 ≤ i) : wrap64 ((a.hi / 2 ^ (i - 64)).tmod 2) = a.v / 2 ^ i % 2 := by
  have hp := pow_pos' (i - 64)
  have e1 : a.v / 2 ^ i = a.hi / 2 ^ (i - 64) := by
    rw [pow_split i h, ← Int.ediv_ediv_of_nonneg (by decide)]
    congr 1
    obtain ⟨h1, h2, h3, h4⟩ := ha
    unfold Nm.v
    omega
  have h0 : 0 ≤ a.hi / 2 ^ (i - 64) := Int.ediv_nonneg ha.hi0 (Int.le_of_lt hp)
  rw [e1, Int.tmod_eq_emod_of_nonneg h0]
  have h1 := Int.emod_nonneg (a.hi / 2 ^ (i - 64)) (show (2 : Int) ≠ 0 by decide)
  have h2 := Int.emod_lt_of_pos (a.hi / 2 ^ (i - 64)) (show (0 : Int) < 2 by decide)
  unfold wrap64
  omega
theorem bit_lo {a : Nm} (ha : a.ok) {i : Nat} (h : i < 64) : wrap64 ((a.lo / 2 ^ i).tmod 2) = a.v / 2 ^ i % 2 := by
  have hp := pow_pos' i
  have e1 : a.v / 2 ^ i = a.hi * 2 ^ (63 - i) * 2 + a.lo / 2 ^ i := by
    have e2 : a.v = (a.hi * 2 ^ (63 - i) * 2) * 2 ^ i + a.lo := by
      have e3 : (18446744073709551616 : Int) = 2 ^ (63 - i) * 2 * 2 ^ i := by
        rw [Int.mul_assoc, Int.mul_comm 2 (2 ^ i), ← Int.pow_succ, ← Int.pow_add, show 63 - i + (i + 1) = 64 by omega]
        exact pow_64.symm
      unfold Nm.v
      rw [e3]
      simp only [Int.mul_assoc]
    rw [e2, Int.add_comm, Int.add_mul_ediv_right _ _ (Int.ne_of_gt hp), Int.add_comm]
  have h0 : 0 ≤ a.lo / 2 ^ i := Int.ediv_nonneg ha.lo0 (Int.le_of_lt hp)
  rw [e1, Int.tmod_eq_emod_of_nonneg h0]
  obtain ⟨q, hq⟩ : ∃ q, a.hi * 2 ^ (63 - i) = q := ⟨_, rfl⟩
  obtain ⟨z, hz⟩ : ∃ z, a.lo / 2 ^ i = z := ⟨_, rfl⟩
  rw [hq, hz]
  unfold wrap64
  omega
def nbit (a : Nm) (i : Nat) : Int := a.v / 2 ^ i % 2
theorem nbit_01 (a : Nm) (i : Nat) : nbit a i = 0 ∨ nbit a i = 1 := by
  unfold nbit
  omega
theorem bit_any (w : World) (a : Nm) (ha : a.ok) (i : Nat) (hi : i < 128) :
    Calls Tryd.prog 92 #[.agg #[.int .u64 a.hi, .int .u64 a.lo], .int .i64 i] w fun e w' => e = .returned (.int .i64 (nbit a i)) ∧ Fr (fun _ => False) w w' := by
  unfold nbit
  by_cases h : 64 ≤ i
  · have hI : (64 : Int) ≤ i := by omega
    have w1 : IntKind.i64.wrap ((i : Int) - 64) = i - 64 := IntWalk.i64_in _ (by omega)
    have HB := Lib.hid (bit_hi ha h)
    go_enter Tryd.func92, Tryd.ntmps92
    go_wp2_with fail
    go_ret
    refine ⟨?_, by repeat (first | (with_reducible exact Fr.refl _ _) | (with_reducible refine Fr.drew ?_) | (with_reducible refine Fr.drewN ?_ _) | (with_reducible refine Fr.alloc ?_ _) | (with_reducible refine Fr.set1 ?_ _) | (with_reducible refine Fr.setNew ?_ (by omega) _))⟩
    rw [← HB.out]
    rfl
  · have hI : ¬ (64 : Int) ≤ i := by omega
    have HB := Lib.hid (bit_lo ha (show i < 64 by omega))
    go_enter Tryd.func92, Tryd.ntmps92
    go_wp2_with fail
    go_ret
    refine ⟨?_, by repeat (first | (with_reducible exact Fr.refl _ _) | (with_reducible refine Fr.drew ?_) | (with_reducible refine Fr.drewN ?_ _) | (with_reducible refine Fr.alloc ?_ _) | (with_reducible refine Fr.set1 ?_ _) | (with_reducible refine Fr.setNew ?_ (by omega) _))⟩
    rw [← HB.out]
    rfl
theorem pow_le63 {i : Nat} (h : i ≤ 63) : (2 : Int) ^ i ≤ 9223372036854775808 := by
  have h1 : 2 ^ i ≤ 2 ^ 63 := Nat.pow_le_pow_right (by decide) h
  have e : ((2 ^ i : Nat) : Int) = (2 : Int) ^ i := by rw [Int.natCast_pow]; rfl
  have e2 : (2 : Nat) ^ 63 = 9223372036854775808 := by decide +kernel
  rw [e2] at h1
  rw [← e]
  omega
theorem set_hi {a : Nm} (ha : a.ok) {i : Nat} (h : 64 ≤ i) (hi : i < 128) (hv : a.v < 2 ^ i) : (⟨IntKind.u64.wrap (a.hi + IntKind.u64.wrap (2 ^ (i - 64))), a.lo⟩ : Nm) = nof (a.v + 2 ^ i) := by
  have hp := pow_pos' (i - 64)
  have hq := pow_le63 (show i - 64 ≤ 63 by omega)
  rw [pow_split i h] at hv ⊢
  obtain ⟨p, hpe⟩ : ∃ p : Int, (2 : Int) ^ (i - 64) = p := ⟨_, rfl⟩
  rw [hpe] at hv hp hq ⊢
  obtain ⟨h1, h2, h3, h4⟩ := ha
  unfold Nm.v at hv ⊢
  simp only [nof, Nm.mk.injEq, IntKind.wrap_u64]
  omega
theorem set_lo {a : Nm} (ha : a.ok) {i : Nat} (h : i < 64) (hv : a.v < 2 ^ i) : (⟨a.hi, IntKind.u64.wrap (a.lo + IntKind.u64.wrap (2 ^ i))⟩ : Nm) = nof (a.v + 2 ^ i) := by
  have hp := pow_pos' i
  have hq := pow_le63 (show i ≤ 63 by omega)
  obtain ⟨p, hpe⟩ : ∃ p : Int, (2 : Int) ^ i = p := ⟨_, rfl⟩
  rw [hpe] at hv hp hq ⊢
  obtain ⟨h1, h2, h3, h4⟩ := ha
  unfold Nm.v at hv ⊢
  simp only [nof, Nm.mk.injEq, IntKind.wrap_u64]
  omega
theorem blk1 (w : World) (a b : Obj) : ((w.alloc a).alloc b).heap[w.heap.size + 1]? = some b := by
  have h := heap_alloc_new (w.alloc a) b
  simpa using h
/-- One result, a struct's block. -/
theorem results_cell1 {P : Program} {fn : Func} {p : Tmp} {ty : TypeId} (h : fn.results = #[.cell p ty]) (tmps : Array Value) (w : World) (g : Nat) (t : TypeId) (cs : Array Value) (fr : Nat × Nat) (d : TypeDesc)
    (hp : tmps.getD p undef = .pointer (some ⟨g, 0, none⟩)) (hg : w.heap[g]? = some (.cells cs t fr))
    (hu : P.underlying ty = some d) (hd : (match d with | .struct _ | .array _ _ => true | _ => false) = true) (hi : (P.info? ty).map (·.size) = some cs.size) :
    (results fn tmps).run P w = .ok (.agg cs) w := by
  have hp' : tmps[p]?.getD undef = .pointer (some ⟨g, 0, none⟩) := by simpa using hp
  simp [results, h, hp', asAddr, run_loadVar_row w g t ty cs fr d hg hu hd hi]
set_option maxRecDepth 4000 in
theorem set_any (w : World) (a : Nm) (ha : a.ok) (i : Nat) (hi : i < 128) (hv : a.v < 2 ^ i) :
    Calls Tryd.prog 94 #[.agg #[.int .u64 a.hi, .int .u64 a.lo], .int .i64 i] w fun e w' => e = .returned (.agg #[.int .u64 (nof (a.v + 2 ^ i)).hi, .int .u64 (nof (a.v + 2 ^ i)).lo]) ∧ Fr (fun _ => False) w w' := by
  by_cases h : 64 ≤ i
  · have hI : (64 : Int) ≤ i := by omega
    have w1 : IntKind.i64.wrap ((i : Int) - 64) = i - 64 := IntWalk.i64_in _ (by omega)
    rw [← set_hi ha h hi hv]
    go_enter Tryd.func94, Tryd.ntmps94
    go_wp2_with fail
    refine bodyPost_ret (results_cell1 (p := 4) rfl _ _ (w.heap.size + 1) 24 _ (0, 0) _ rfl (blk1 w _ _) Tryd.underlying24 rfl rfl) rfl ?_
    exact ⟨rfl, by repeat (first | (with_reducible exact Fr.refl _ _) | (with_reducible refine Fr.drew ?_) | (with_reducible refine Fr.drewN ?_ _) | (with_reducible refine Fr.alloc ?_ _) | (with_reducible refine Fr.set1 ?_ _) | (with_reducible refine Fr.setNew ?_ (by omega) _))⟩
  · have hI : ¬ (64 : Int) ≤ i := by omega
    rw [← set_lo ha (show i < 64 by omega) hv]
    go_enter Tryd.func94, Tryd.ntmps94
    go_wp2_with fail
    refine bodyPost_ret (results_cell1 (p := 4) rfl _ _ (w.heap.size + 1) 24 _ (0, 0) _ rfl (blk1 w _ _) Tryd.underlying24 rfl rfl) rfl ?_
    exact ⟨rfl, by repeat (first | (with_reducible exact Fr.refl _ _) | (with_reducible refine Fr.drew ?_) | (with_reducible refine Fr.drewN ?_ _) | (with_reducible refine Fr.alloc ?_ _) | (with_reducible refine Fr.set1 ?_ _) | (with_reducible refine Fr.setNew ?_ (by omega) _))⟩
end Go.Proofs.YtjchjpmgbmeohaaDoor
