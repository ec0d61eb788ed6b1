/- A string among the arguments. -/
import Derived.Test.YtfmcimngogibkaaTapeX
import Derived.Test.YtfmcimngogibkaaOpen
set_option linter.unusedSimpArgs false
set_option linter.unusedVariables false
namespace Go.Proofs.Ytfmcimngogibkaa
open Go.RowKit Go.ChangeShapes Go.WideShapes Go.ChangeAt
theorem strOf_nums (s : ByteArray) : strOfNums (numsOf s) = s := by
  apply ByteArray.ext
  apply Array.ext'
  rw [strOfNums_data, numsOf, List.map_map]
  conv => rhs; rw [← List.map_id s.data.toList]
  refine List.map_congr_left (fun c _ => ?_)
  simp
theorem numsOf_bytes (s : ByteArray) : Bytes (numsOf s) := by
  intro x hx
  obtain ⟨c, _, rfl⟩ := List.mem_map.1 hx
  have := c.toNat_lt
  constructor <;> omega

set_option maxRecDepth 100000 in
theorem open_str {H : Type} {enc : TypeId × Value → H} {r : Reach} {b0 : Nat} {W : World} {sp : Nat → Bool} {held : Bool} {v : Value} {d : DataW H} {ps : List MemPlace} (hv : Value.okWide Try.prog W r b0 9 v) (h : DataW.Trod enc Try.prog W 0 sp held 9 v d ps) (hs : Sz Try.prog 9 d) :
    ∃ l : List Int, v = .string (strOfNums l) ∧ Bytes l ∧ l.length ≤ 140737488355328 := by
  obtain ⟨s, rfl⟩ := okWide_string Try.underlying9 hv
  obtain ⟨fuel, hf⟩ := h
  have hl : Leaf enc Try.prog W 0 sp held 9 (.string s) := ⟨fuel, _, hf, hs⟩
  obtain ⟨s', e, hz⟩ := hl.string Try.underlying9
  cases e
  refine ⟨numsOf s, by rw [strOf_nums], numsOf_bytes s, ?_⟩
  rw [numsOf_length]; omega
end Go.Proofs.Ytfmcimngogibkaa
