/- A slice of items among the arguments. -/
import Derived.Test.YtpmebmkifdgjcaaItem
import Derived.Test.YtpmebmkifdgjcaaOpen
namespace Go.Proofs.Ytpmebmkifdgjcaa
open Go.RowKit Go.ChangeShapes Go.WideShapes Go.ChangeAt

theorem leafsItem : leafs Try.prog 5 37 = some [3, 3, 3, 33, 33, 4, 9] := by kernel_rfl
theorem ones : ∀ t' ∈ [3, 3, 3, 33, 33, 4, 9], Try.prog.cellsOf t' = 1 := by
  intro t' h
  simp only [List.mem_cons, List.not_mem_nil, or_false] at h
  rcases h with rfl | rfl | rfl | rfl | rfl | rfl | rfl <;> kernel_rfl
theorem strOf_nums (s : ByteArray) : strOfNums (numsOf s) = s := by
  apply ByteArray.ext
  apply Array.ext'
  rw [strOfNums_data, numsOf, List.map_map]
  conv => rhs; rw [← List.map_id s.data.toList]
  refine List.map_congr_left (fun c _ => ?_)
  simp
theorem numsOf_bytes (s : ByteArray) : Bytes (numsOf s) := by
  intro x hx
  obtain ⟨c, _, rfl⟩ := List.mem_map.1 hx
  have := c.toNat_lt
  constructor <;> omega
theorem wf_u64 {n : Int} (h : (Lit.int .u64 n).wf = true) : 0 ≤ n ∧ n < 18446744073709551616 := by
  simp only [Lit.wf, IntKind.min, IntKind.max, IntKind.signed, IntKind.bits, Bool.and_eq_true, decide_eq_true_eq] at h
  simp at h
  omega
theorem wf_i64 {n : Int} (h : (Lit.int .i64 n).wf = true) : -9223372036854775808 ≤ n ∧ n ≤ 9223372036854775807 := by
  simp only [Lit.wf, IntKind.min, IntKind.max, IntKind.signed, IntKind.bits, Bool.and_eq_true, decide_eq_true_eq] at h
  simp at h
  omega

theorem open_items {H : Type} {enc : TypeId × Value → H} {W : World} {sp : Nat → Bool} {held : Bool} {a : Option Addr} {len cap : Nat} {d : DataW H} {ps : List MemPlace} (h : DataW.Trod enc Try.prog W 0 sp held 22 (.slice a len cap) d ps) (hs : Sz Try.prog 22 d) :
    ∃ l : List It, l.length = len ∧ Row W a (l.flatMap It.cells) ∧ (a = none → l = []) ∧ (∀ x ∈ l, x.ok) ∧ l.length ≤ 140737488355328 ∧ (∀ x ∈ l, x.text.length ≤ 140737488355328) := by
  obtain ⟨fuel, hf⟩ := h
  rcases open_flat Try.underlying22 leafsItem ones (by kernel_rfl) (B := 64) (by kernel_rfl) hf hs with ⟨rfl, rfl, rfl⟩ | ⟨ad, rfl, _, _, hb, hel⟩
  · exact ⟨[], rfl, (fun j u hu => by simp at hu), fun _ => rfl, (fun x hx => nomatch hx), (by simp), (fun x hx => nomatch hx)⟩
  · obtain ⟨l, e, hq, hr⟩ := rows_of (α := It) (f := It.cells) (k := 7) (Q := fun x => x.ok ∧ x.text.length ≤ 140737488355328) (by decide) (fun _ => rfl) (fun i hi => by
      obtain ⟨cs, hall, hc⟩ := hel i hi
      cases hall with | cons l0 hall =>
      cases hall with | cons l1 hall =>
      cases hall with | cons l2 hall =>
      cases hall with | cons l3 hall =>
      cases hall with | cons l4 hall =>
      cases hall with | cons l5 hall =>
      cases hall with | cons l6 hall =>
      cases hall
      obtain ⟨n0, rfl, w0⟩ := l0.int Try.underlying3
      obtain ⟨n1, rfl, w1⟩ := l1.int Try.underlying3
      obtain ⟨n2, rfl, w2⟩ := l2.int Try.underlying3
      obtain ⟨n3, rfl, w3⟩ := l3.int Try.underlying33
      obtain ⟨n4, rfl, w4⟩ := l4.int Try.underlying33
      obtain ⟨n5, rfl⟩ := l5.bool Try.underlying4
      obtain ⟨s, rfl, hs6⟩ := l6.string Try.underlying9
      refine ⟨⟨n0, n1, n2, n3, n4, n5, numsOf s⟩, ⟨⟨(wf_u64 w3).1, (wf_u64 w3).2, (wf_u64 w4).1, (wf_u64 w4).2, numsOf_bytes s⟩, ?_⟩, fun j u hu => hc j u ?_⟩
      · show (numsOf s).length ≤ _
        rw [numsOf_length]; omega
      · simp only [It.cells, strOf_nums] at hu
        exact hu)
    exact ⟨l, e, hr, (fun h => by cases h), fun x hx => (hq x hx).1, by omega, fun x hx => (hq x hx).2⟩

theorem open_str {H : Type} {enc : TypeId × Value → H} {r : Reach} {b0 : Nat} {W : World} {sp : Nat → Bool} {held : Bool} {v : Value} {d : DataW H} {ps : List MemPlace} (hv : Value.okWide Try.prog W r b0 9 v) (h : DataW.Trod enc Try.prog W 0 sp held 9 v d ps) (hs : Sz Try.prog 9 d) :
    ∃ l : List Int, v = .string (strOfNums l) ∧ Bytes l ∧ l.length ≤ 140737488355328 := by
  obtain ⟨s, rfl⟩ := okWide_string Try.underlying9 hv
  obtain ⟨fuel, hf⟩ := h
  have hl : Leaf enc Try.prog W 0 sp held 9 (.string s) := ⟨fuel, _, hf, hs⟩
  obtain ⟨s', e, hz⟩ := hl.string Try.underlying9
  cases e
  refine ⟨numsOf s, by rw [strOf_nums], numsOf_bytes s, ?_⟩
  rw [numsOf_length]; omega
end Go.Proofs.Ytpmebmkifdgjcaa
