/- A slice of calls among the arguments. -/
import Derived.Test.YtjegnhcpepkpoaaOrdU
import Derived.Test.YtjegnhcpepkpoaaOpen
namespace Go.Proofs.Ytjegnhcpepkpoaa
open Go.RowKit Go.ChangeShapes Go.WideShapes Go.ChangeAt

theorem leafsOC : leafs Try.prog 5 33 = some [3, 3, 3] := by kernel_rfl
theorem onesOC : ∀ t' ∈ [3, 3, 3], Try.prog.cellsOf t' = 1 := by
  intro t' h
  simp only [List.mem_cons, List.not_mem_nil, or_false] at h
  rcases h with rfl | rfl | rfl <;> kernel_rfl
theorem wf_i64 {n : Int} (h : (Lit.int .i64 n).wf = true) : -9223372036854775808 ≤ n ∧ n ≤ 9223372036854775807 := by
  simp only [Lit.wf, IntKind.min, IntKind.max, IntKind.signed, IntKind.bits, Bool.and_eq_true, decide_eq_true_eq] at h
  simp at h
  omega
theorem open_ocs {H : Type} {enc : TypeId × Value → H} {W : World} {sp : Nat → Bool} {held : Bool} {a : Option Addr} {len cap : Nat} {d : DataW H} {ps : List MemPlace} (h : DataW.Trod enc Try.prog W 0 sp held 22 (.slice a len cap) d ps) (hs : Sz Try.prog 22 d) :
    ∃ l : List OC, l.length = len ∧ Row W a (l.flatMap OC.cells) ∧ (∀ c ∈ l, -9223372036854775808 ≤ c.stamp) ∧ l.length ≤ 140737488355328 := by
  obtain ⟨fuel, hf⟩ := h
  rcases open_flat Try.underlying22 leafsOC onesOC (by kernel_rfl) (B := 24) (by kernel_rfl) hf hs with ⟨rfl, rfl, rfl⟩ | ⟨ad, rfl, _, _, hb, hel⟩
  · exact ⟨[], rfl, (fun j u hu => by simp at hu), (fun _ h => nomatch h), (by simp)⟩
  · obtain ⟨l, e, hq, hr⟩ := rows_of (α := OC) (f := OC.cells) (k := 3) (Q := fun c => -9223372036854775808 ≤ c.stamp) (by decide) (fun _ => rfl) (fun i hi => by
      obtain ⟨cs, hall, hc⟩ := hel i hi
      cases hall with | cons l0 hall =>
      cases hall with | cons l1 hall =>
      cases hall with | cons l2 hall =>
      cases hall
      obtain ⟨n0, rfl, w0⟩ := l0.int Try.underlying3
      obtain ⟨n1, rfl, w1⟩ := l1.int Try.underlying3
      obtain ⟨n2, rfl, w2⟩ := l2.int Try.underlying3
      exact ⟨⟨n0, n1, n2⟩, (wf_i64 w1).1, fun j u hu => hc j u hu⟩)
    exact ⟨l, e, hr, hq, by omega⟩
end Go.Proofs.Ytjegnhcpepkpoaa
