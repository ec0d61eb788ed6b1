/- Numbers of 128 bits: what Add, Sub, Less and the document's Plus tell. -/
import Derived.Test.YtjchjpmgbmeohaaDoorNm
import Derived.Test.YtjchjpmgbmeohaaDoorWhole
import Derived.Laws.Externs
import Derived.Shelf.Spec.BitsCarry
set_option linter.unusedSimpArgs false
set_option linter.unusedVariables false
namespace Go.Proofs.YtjchjpmgbmeohaaDoor
open Go.RowKit

def Nm.v (x : Nm) : Int := x.hi * 18446744073709551616 + x.lo
def nof (n : Int) : Nm := ⟨n / 18446744073709551616, n % 18446744073709551616⟩
def nadd (a b : Nm) : Nm := if a.v + b.v < 340282366920938463463374607431768211456 then nof (a.v + b.v) else ⟨0, 0⟩
def nfit (a b : Nm) : Bool := decide (a.v + b.v < 340282366920938463463374607431768211456)
def nsub (a b : Nm) : Nm := if a.v < b.v then ⟨0, 0⟩ else nof (a.v - b.v)
def nless (a b : Nm) : Bool := decide (a.v < b.v)
theorem Nm.v_in {x : Nm} (h : x.ok) : 0 ≤ x.v ∧ x.v < 340282366920938463463374607431768211456 := by
  obtain ⟨h1, h2, h3, h4⟩ := h
  unfold Nm.v
  omega
theorem nof_ok {n : Int} (h0 : 0 ≤ n) (h1 : n < 340282366920938463463374607431768211456) : (nof n).ok := by
  refine ⟨?_, ?_, ?_, ?_⟩ <;> simp only [nof] <;> omega
theorem nof_v {n : Int} : (nof n).v = n := by simp only [nof, Nm.v]; omega
theorem Nm.of_v {x : Nm} (h : x.ok) : nof x.v = x := by
  obtain ⟨h1, h2, h3, h4⟩ := h
  cases x
  simp only [nof, Nm.v, Nm.mk.injEq]
  simp only at h1 h2 h3 h4
  omega
theorem nzero_ok : (⟨0, 0⟩ : Nm).ok := by refine ⟨?_, ?_, ?_, ?_⟩ <;> simp
theorem nadd_ok {a b : Nm} (ha : a.ok) (hb : b.ok) : (nadd a b).ok := by
  have h1 := Nm.v_in ha
  have h2 := Nm.v_in hb
  unfold nadd
  split
  · exact nof_ok (by omega) (by omega)
  · exact nzero_ok
theorem nsub_ok {a b : Nm} (ha : a.ok) (hb : b.ok) : (nsub a b).ok := by
  have h1 := Nm.v_in ha
  have h2 := Nm.v_in hb
  unfold nsub
  split
  · exact nzero_ok
  · exact nof_ok (by omega) (by omega)
theorem Tryd.add64 (x y c : Int) (hx : 0 ≤ x) (hy : 0 ≤ y) (hc0 : 0 ≤ c) (hc : c ≤ 1) (w : World) :
    (callFunc 91 #[.int .u64 x, .int .u64 y, .int .u64 c]).run Tryd.prog w = .ok (.value (.tuple #[.int .u64 ((x + y + c) % 18446744073709551616), .int .u64 ((x + y + c) / 18446744073709551616)])) w := by
  rw [run_callFunc_extern Tryd.func91 (by kernel_rfl) (by kernel_rfl) (by kernel_rfl) (e := add64Entry) (by kernel_rfl), run_add64 x y c hx hy hc0 hc]
  rfl
theorem Tryd.sub64 (x y b : Int) (hx : 0 ≤ x) (hy : 0 ≤ y) (hb0 : 0 ≤ b) (hb : b ≤ 1) (w : World) :
    (callFunc 93 #[.int .u64 x, .int .u64 y, .int .u64 b]).run Tryd.prog w = .ok (.value (.tuple #[.int .u64 (((x.toNat + 18446744073709551616 - y.toNat - b.toNat) % 18446744073709551616 : Nat) : Int), .int .u64 ((if x.toNat < y.toNat + b.toNat then 1 else 0 : Nat) : Int)])) w := by
  obtain ⟨X, rfl⟩ := Int.eq_ofNat_of_zero_le hx
  obtain ⟨Y, rfl⟩ := Int.eq_ofNat_of_zero_le hy
  obtain ⟨Z, rfl⟩ := Int.eq_ofNat_of_zero_le hb0
  rw [run_callFunc_extern Tryd.func93 (by kernel_rfl) (by kernel_rfl) (by kernel_rfl) (e := sub64Entry) (by kernel_rfl), run_sub64 X Y Z (by omega)]
  rfl

theorem blk2 (w : World) (a b c : Obj) : (((w.alloc a).alloc b).alloc c).heap[w.heap.size + 1 + 1]? = some c := by
  have h := heap_alloc_new ((w.alloc a).alloc b) c
  simpa using h
set_option maxRecDepth 4000 in
set_option maxHeartbeats 1600000 in
theorem nadd_any (w : World) (a b : Nm) (ha : a.ok) (hb : b.ok) :
    Calls Tryd.prog 44 #[.agg #[.int .u64 a.hi, .int .u64 a.lo], .agg #[.int .u64 b.hi, .int .u64 b.lo]] w fun e w' => e = .returned (.tuple #[.agg #[.int .u64 (nadd a b).hi, .int .u64 (nadd a b).lo], .bool (nfit a b)]) ∧ Fr (fun _ => False) w w' := by
  obtain ⟨lo, hlo⟩ : ∃ x, (a.lo + b.lo + 0) % 18446744073709551616 = x := ⟨_, rfl⟩
  obtain ⟨c, hc⟩ : ∃ x, (a.lo + b.lo + 0) / 18446744073709551616 = x := ⟨_, rfl⟩
  obtain ⟨hi, hhi⟩ : ∃ x, (a.hi + b.hi + c) % 18446744073709551616 = x := ⟨_, rfl⟩
  obtain ⟨d, hd⟩ : ∃ x, (a.hi + b.hi + c) / 18446744073709551616 = x := ⟨_, rfl⟩
  obtain ⟨a1, a2, a3, a4⟩ := ha
  obtain ⟨b1, b2, b3, b4⟩ := hb
  have hc0 : 0 ≤ c ∧ c ≤ 1 := by omega
  have h1 := fun W => Tryd.add64 a.lo b.lo 0 a3 b3 (by omega) (by omega) W
  have h2 := fun W => Tryd.add64 a.hi b.hi c a1 b1 hc0.1 hc0.2 W
  simp only [hlo, hc] at h1
  simp only [hhi, hd] at h2
  by_cases hd0 : d = 0
  · have hf : nfit a b = true := by unfold nfit Nm.v; exact decide_eq_true (by omega)
    have hn : nadd a b = ⟨hi, lo⟩ := by
      unfold nadd Nm.v nof
      rw [if_pos (by omega)]
      simp only [Nm.mk.injEq]
      omega
    rw [hf, hn]
    have hdb : (d != 0) = false := by rw [hd0]; rfl
    clear hlo hc hhi hd hf hn
    go_enter Tryd.func44, Tryd.ntmps44
    go_wp2_with fail
    refine bodyPost_ret (results_cell2 (p := 4) (q := 5) rfl _ _ (w.heap.size + 1 + 1) 24 _ (0, 0) _ rfl (blk2 w _ _ _) Tryd.underlying24 rfl rfl) rfl ?_
    exact ⟨rfl, by repeat (first | (with_reducible exact Fr.refl _ _) | (with_reducible refine Fr.drew ?_) | (with_reducible refine Fr.drewN ?_ _) | (with_reducible refine Fr.alloc ?_ _) | (with_reducible refine Fr.set1 ?_ _) | (with_reducible refine Fr.setNew ?_ (by omega) _))⟩
  · have hf : nfit a b = false := by unfold nfit Nm.v; exact decide_eq_false (by omega)
    have hn : nadd a b = ⟨0, 0⟩ := by
      unfold nadd Nm.v
      rw [if_neg (by omega)]
    rw [hf, hn]
    have hdb : (d != 0) = true := by simpa using hd0
    clear hlo hc hhi hd hf hn
    go_enter Tryd.func44, Tryd.ntmps44
    go_wp2_with fail
    refine bodyPost_ret (results_cell2 (p := 4) (q := 5) rfl _ _ (w.heap.size + 1 + 1) 24 _ (0, 0) _ rfl (blk2 w _ _ _) Tryd.underlying24 rfl rfl) rfl ?_
    exact ⟨rfl, by repeat (first | (with_reducible exact Fr.refl _ _) | (with_reducible refine Fr.drew ?_) | (with_reducible refine Fr.drewN ?_ _) | (with_reducible refine Fr.alloc ?_ _) | (with_reducible refine Fr.set1 ?_ _) | (with_reducible refine Fr.setNew ?_ (by omega) _))⟩
end Go.Proofs.YtjchjpmgbmeohaaDoor
