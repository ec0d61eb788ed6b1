/- Names among the arguments, in their bounds. -/
import Derived.Test.YthkmdhkifkapkaaPrT
import Derived.Test.YthkmdhkifkapkaaPrO
set_option linter.unusedSimpArgs false
set_option linter.unusedVariables false
namespace Go.Proofs.Ythkmdhkifkapkaa
open Go.RowKit Go.ChangeShapes Go.WideShapes Go.ChangeAt

theorem open_nmw {H : Type} {enc : TypeId × Value → H} {w : World} {base b0 : Nat} {spare : Nat → Bool} {held : Bool} {r : Go.Reach} {v : Value} {d : DataW H} {p : List MemPlace} (hv : Value.okWide Try.prog w r b0 25 v) (h : DataW.Trod enc Try.prog w base spare held 25 v d p) (hz : Sz Try.prog 25 d) :
    ∃ x : Nm, v = .agg #[.int .u64 x.hi, .int .u64 x.lo] ∧ x.wf := by
  obtain ⟨⟨cs⟩, rfl, hall⟩ := open_agg Try.underlying25 leafs_Nm ones_Nm (by kernel_rfl) hv h hz
  have g : All2 (Leaf enc Try.prog w base spare held) _ cs := hall
  clear hall hv h hz
  obtain _ | ⟨l0, g⟩ := g
  obtain _ | ⟨l1, g⟩ := g
  cases g
  obtain ⟨n0, rfl, o0⟩ := l0.int Try.underlying23
  obtain ⟨n1, rfl, o1⟩ := l1.int Try.underlying23
  exact ⟨⟨n0, n1⟩, rfl, o0, o1⟩
theorem leafsN5 : leafs Try.prog 5 25 = some [23, 23] := by kernel_rfl
theorem open_nms {H : Type} {enc : TypeId × Value → H} {W : World} {sp : Nat → Bool} {held : Bool} {a : Option Addr} {len cap : Nat} {d : DataW H} {ps : List MemPlace} (h : DataW.Trod enc Try.prog W 0 sp held 36 (.slice a len cap) d ps) (hs : Sz Try.prog 36 d) :
    ∃ l : List Nm, l.length = len ∧ Row W a (l.flatMap Nm.cells) ∧ ∀ x ∈ l, x.wf := by
  obtain ⟨fuel, hf⟩ := h
  rcases open_flat Try.underlying36 leafsN5 ones_Nm (by kernel_rfl) (B := 16) (by kernel_rfl) hf hs with ⟨rfl, rfl, rfl⟩ | ⟨ad, rfl, _, _, hb, hel⟩
  · exact ⟨[], rfl, (fun j u hu => by simp at hu), fun _ h => nomatch h⟩
  · obtain ⟨l, e, hq, hr⟩ := rows_of (α := Nm) (f := Nm.cells) (k := 2) (Q := Nm.wf) (by decide) (fun _ => rfl) (fun i hi => by
      obtain ⟨cs, hall, hc⟩ := hel i hi
      cases hall with | cons l0 hall =>
      cases hall with | cons l1 hall =>
      cases hall
      obtain ⟨n0, rfl, w0⟩ := l0.int Try.underlying23
      obtain ⟨n1, rfl, w1⟩ := l1.int Try.underlying23
      exact ⟨⟨n0, n1⟩, ⟨w0, w1⟩, fun j u hu => hc j u hu⟩)
    exact ⟨l, e, hr, hq⟩
end Go.Proofs.Ythkmdhkifkapkaa
