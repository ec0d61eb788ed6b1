/- A slice of calls among the arguments. -/
import Derived.Test.YtlfbgndaojcgdaaUndoE
import Derived.Test.YtlfbgndaojcgdaaOpen
namespace Go.Proofs.Ytlfbgndaojcgdaa
open Go.RowKit Go.ChangeShapes Go.WideShapes Go.ChangeAt

theorem leafsCal : leafs Try.prog 5 31 = some [3, 4, 3, 3] := by kernel_rfl
theorem onesCal : ∀ t' ∈ [3, 4, 3, 3], Try.prog.cellsOf t' = 1 := by
  intro t' h
  simp only [List.mem_cons, List.not_mem_nil, or_false] at h
  rcases h with rfl | rfl | rfl | rfl <;> kernel_rfl
theorem open_calls {H : Type} {enc : TypeId × Value → H} {W : World} {sp : Nat → Bool} {held : Bool} {a : Option Addr} {len cap : Nat} {d : DataW H} {ps : List MemPlace} (h : DataW.Trod enc Try.prog W 0 sp held 22 (.slice a len cap) d ps) (hs : Sz Try.prog 22 d) :
    ∃ l : List Cal, l.length = len ∧ Row W a (l.flatMap Cal.cells) ∧ l.length ≤ 140737488355328 := by
  obtain ⟨fuel, hf⟩ := h
  rcases open_flat Try.underlying22 leafsCal onesCal (by kernel_rfl) (B := 32) (by kernel_rfl) hf hs with ⟨rfl, rfl, rfl⟩ | ⟨ad, rfl, _, _, hb, hel⟩
  · exact ⟨[], rfl, (fun j u hu => by simp at hu), (by simp)⟩
  · obtain ⟨l, e, hq, hr⟩ := rows_of (α := Cal) (f := Cal.cells) (k := 4) (Q := fun _ => True) (by decide) (fun _ => rfl) (fun i hi => by
      obtain ⟨cs, hall, hc⟩ := hel i hi
      cases hall with | cons l0 hall =>
      cases hall with | cons l1 hall =>
      cases hall with | cons l2 hall =>
      cases hall with | cons l3 hall =>
      cases hall
      obtain ⟨n0, rfl, w0⟩ := l0.int Try.underlying3
      obtain ⟨n1, rfl⟩ := l1.bool Try.underlying4
      obtain ⟨n2, rfl, w2⟩ := l2.int Try.underlying3
      obtain ⟨n3, rfl, w3⟩ := l3.int Try.underlying3
      exact ⟨⟨n0, n1, n2, n3⟩, trivial, fun j u hu => hc j u hu⟩)
    exact ⟨l, e, hr, by omega⟩
end Go.Proofs.Ytlfbgndaojcgdaa
