/- Package probe: what a table's cells are (plain). -/
import Derived.Test.YtjchjpmgbmeohaaDoorPrA
set_option linter.unusedSimpArgs false
set_option linter.unusedVariables false
namespace Go.Proofs.YtjchjpmgbmeohaaDoor
open Go.RowKit

structure PC where
  key : Nm
  at_ : Int
  kind : Int
def PC.cells (c : PC) : List Value := [.int .u64 c.key.hi, .int .u64 c.key.lo, .int .i64 c.at_, .int .u8 c.kind]
def PC.zero : PC := ⟨⟨0, 0⟩, 0, 0⟩
def PC.left : PC := ⟨⟨0, 0⟩, 0, 2⟩
/-- Where a name's path begins. -/
def home (n : Nat) (x : Nm) : Nat := (mix x % n).toNat
theorem home_lt {n : Nat} (h : 0 < n) (x : Nm) : home n x < n := by
  unfold home
  have h1 := Int.emod_nonneg (mix x) (show (n : Int) ≠ 0 by omega)
  have h2 := Int.emod_lt_of_pos (mix x) (show (0 : Int) < n by omega)
  omega
def knd (cs : List PC) (p : Nat) : Int := (cs[p]?.map (·.kind)).getD 0
/-- A place on the way from h: nothing ahead of it is free. -/
def Reach (cs : List PC) (h p : Nat) : Prop := ∃ d, d < cs.length ∧ p = (h + d) % cs.length ∧ ∀ j, j < d → knd cs ((h + j) % cs.length) ≠ 0
structure PInv (hm : Nat → Nm → Nat) (cs : List PC) : Prop where
  pow : ∃ e, cs.length = 2 ^ e ∧ 3 ≤ e ∧ e ≤ 30
  kinds : ∀ c ∈ cs, c.kind = 0 ∨ c.kind = 1 ∨ c.kind = 2
  uniq : ∀ (p q : Nat) (c d : PC), cs[p]? = some c → cs[q]? = some d → c.kind = 1 → d.kind = 1 → c.key = d.key → p = q
  path : ∀ (p : Nat) (c : PC), cs[p]? = some c → c.kind = 1 → Reach cs (hm cs.length c.key) p
theorem PInv.len {hm : Nat → Nm → Nat} {cs : List PC} (h : PInv hm cs) : 8 ≤ cs.length ∧ cs.length ≤ 1073741824 := by
  obtain ⟨e, h1, h2, h3⟩ := h.pow
  have a : 2 ^ 3 ≤ 2 ^ e := Nat.pow_le_pow_right (by decide) h2
  have b : 2 ^ e ≤ 2 ^ 30 := Nat.pow_le_pow_right (by decide) h3
  rw [h1]
  exact ⟨by simpa using a, by simpa using b⟩
def IsIn (cs : List PC) (x : Nm) : Prop := ∃ (p : Nat) (c : PC), cs[p]? = some c ∧ c.kind = 1 ∧ c.key = x
/-- What find tells. -/
def Fnd (hm : Nat → Nm → Nat) (cs : List PC) (x : Nm) (p : Nat) (b : Bool) : Prop :=
  p < cs.length ∧ ((b = true ∧ ∃ c : PC, cs[p]? = some c ∧ c.kind = 1 ∧ c.key = x) ∨ (b = false ∧ knd cs p ≠ 1 ∧ ¬ IsIn cs x ∧ Reach cs (hm cs.length x) p))
section
variable {hm : Nat → Nm → Nat} {cs : List PC} {x : Nm} {h j : Nat}
theorem knd_at {p : Nat} {c : PC} (hc : cs[p]? = some c) : knd cs p = c.kind := by simp [knd, hc]
theorem slot_lt (hn : 0 < cs.length) : (h + j) % cs.length < cs.length := Nat.mod_lt _ hn
/-- The free place that ends all ways. -/
theorem free_at {p : Nat} (hp : p < cs.length) (hh : h < cs.length) : ∃ d, d < cs.length ∧ (h + d) % cs.length = p := by
  by_cases hle : h ≤ p
  · exact ⟨p - h, by omega, by rw [show h + (p - h) = p by omega, Nat.mod_eq_of_lt hp]⟩
  · refine ⟨p + cs.length - h, by omega, ?_⟩
    rw [show h + (p + cs.length - h) = p + cs.length by omega, Nat.add_mod_right, Nat.mod_eq_of_lt hp]
/-- So far on the way. -/
structure Way (hm : Nat → Nm → Nat) (cs : List PC) (x : Nm) (j : Nat) (put : Option Nat) : Prop where
  pass : ∀ i, i < j → ∃ c : PC, cs[(hm cs.length x + i) % cs.length]? = some c ∧ c.kind ≠ 0 ∧ ¬ (c.kind = 1 ∧ c.key = x)
  puts : ∀ p, put = some p → p < cs.length ∧ knd cs p = 2 ∧ Reach cs (hm cs.length x) p
theorem way_zero : Way hm cs x 0 none := ⟨fun i h => by omega, fun p h => by cases h⟩
theorem way_nonfree {put : Option Nat} (h : Way hm cs x j put) : ∀ i, i < j → knd cs ((hm cs.length x + i) % cs.length) ≠ 0 := fun i hi => by
  obtain ⟨c, hc, hk, _⟩ := h.pass i hi
  rw [knd_at hc]; exact hk
theorem way_next {put put' : Option Nat} (h : Way hm cs x j put) {c : PC} (hc : cs[(hm cs.length x + j) % cs.length]? = some c) (hk : c.kind ≠ 0) (hx : ¬ (c.kind = 1 ∧ c.key = x)) (hj : j < cs.length)
    (hp : put' = put ∨ (put' = some ((hm cs.length x + j) % cs.length) ∧ c.kind = 2)) : Way hm cs x (j + 1) put' := by
  refine ⟨fun i hi => ?_, fun p e => ?_⟩
  · by_cases e : i = j
    · subst e; exact ⟨c, hc, hk, hx⟩
    · exact h.pass i (by omega)
  · rcases hp with rfl | ⟨hp, h2⟩
    · exact h.puts p e
    · rw [hp] at e
      cases e
      exact ⟨slot_lt (by omega), by rw [knd_at hc, h2], j, hj, rfl, way_nonfree h⟩
theorem way_absent {put : Option Nat} (hi : PInv hm cs) (h : Way hm cs x j put) (hfree : knd cs ((hm cs.length x + j) % cs.length) = 0) : ¬ IsIn cs x := by
  rintro ⟨p, c, hc, hk, rfl⟩
  obtain ⟨d, hd, hp, hnf⟩ := hi.path p c hc hk
  rcases Nat.lt_trichotomy d j with h1 | h1 | h1
  · obtain ⟨c', hc', _, hx⟩ := h.pass d h1
    rw [← hp, hc] at hc'
    cases hc'
    exact hx ⟨hk, rfl⟩
  · subst h1
    rw [← hp, knd_at hc, hk] at hfree
    cases hfree
  · exact hnf j h1 hfree
theorem way_end {put : Option Nat} (hi : PInv hm cs) (h : Way hm cs x j put) (hfree : knd cs ((hm cs.length x + j) % cs.length) = 0) (hj : j < cs.length) : Fnd hm cs x (put.getD ((hm cs.length x + j) % cs.length)) false := by
  have ha := way_absent hi h hfree
  have hn := way_nonfree h
  have hpt := h.puts
  unfold Fnd
  cases put with
  | none =>
    simp only [Option.getD_none]
    exact ⟨slot_lt (by omega), .inr ⟨trivial, by omega, ha, j, hj, rfl, hn⟩⟩
  | some p =>
    obtain ⟨h1, h2, h3⟩ := hpt p rfl
    simp only [Option.getD_some]
    exact ⟨h1, .inr ⟨trivial, by omega, ha, h3⟩⟩
end
end Go.Proofs.YtjchjpmgbmeohaaDoor
