/- Names and calls among the arguments. -/
import Derived.Test.YthkmdhkifkapkaaPrN
import Derived.Test.YthkmdhkifkapkaaOpen
import Derived.ProofKit
import Derived.OpenShut
set_option linter.unusedSimpArgs false
set_option linter.unusedVariables false
namespace Go.Proofs.Ythkmdhkifkapkaa
open Go.RowKit Go.ChangeShapes Go.WideShapes Go.ChangeAt

theorem open_agg {H : Type} {enc : TypeId × Value → H} {P : Program} {w : World} {base b0 n : Nat} {spare : Nat → Bool} {held : Bool} {r : Go.Reach} {t : TypeId} {ts : List TypeId} {fs : Array Field} {v : Value} {d : DataW H} {p : List MemPlace}
    (hs : P.underlying t = some (.struct fs)) (hl : leafs P n t = some ts) (h1 : ∀ t' ∈ ts, P.cellsOf t' = 1) (hC : P.cellsOf t = ts.length) (hv : Value.okWide P w r b0 t v) (h : DataW.Trod enc P w base spare held t v d p) (hz : Sz P t d) :
    ∃ cs : Array Value, v = .agg cs ∧ All2 (Leaf enc P w base spare held) ts cs.toList := by
  obtain ⟨cs, rfl, hsz⟩ := okWide_struct hs hv
  obtain ⟨fuel, hf⟩ := h
  exact ⟨cs, rfl, leafs_all n fuel t ts cs.toList _ hl h1 (by rw [Array.length_toList, hsz, hC]) hf hz⟩
theorem leafs_Nm : leafs Try.prog 4 25 = some [23, 23] := by kernel_rfl
theorem ones_Nm : ∀ t' ∈ [23, 23], Try.prog.cellsOf t' = 1 := by
  intro t' h
  simp only [List.mem_cons, List.not_mem_nil, or_false] at h
  rcases h with rfl | rfl <;> kernel_rfl
theorem open_nm {H : Type} {enc : TypeId × Value → H} {w : World} {base b0 : Nat} {spare : Nat → Bool} {held : Bool} {r : Go.Reach} {v : Value} {d : DataW H} {p : List MemPlace} (hv : Value.okWide Try.prog w r b0 25 v) (h : DataW.Trod enc Try.prog w base spare held 25 v d p) (hz : Sz Try.prog 25 d) :
    ∃ x : Nm, v = .agg #[.int .u64 x.hi, .int .u64 x.lo] ∧ True := by
  obtain ⟨⟨cs⟩, rfl, hall⟩ := open_agg Try.underlying25 leafs_Nm ones_Nm (by kernel_rfl) hv h hz
  have g : All2 (Leaf enc Try.prog w base spare held) _ cs := hall
  clear hall hv h hz
  obtain _ | ⟨l0, g⟩ := g
  obtain _ | ⟨l1, g⟩ := g
  cases g
  obtain ⟨n0, rfl, o0⟩ := l0.int Try.underlying23
  obtain ⟨n1, rfl, o1⟩ := l1.int Try.underlying23
  exact ⟨⟨n0, n1⟩, rfl, trivial⟩
theorem leafsPK : leafs Try.prog 5 30 = some [3, 23, 23, 3] := by kernel_rfl
theorem onesPK : ∀ t' ∈ [3, 23, 23, 3], Try.prog.cellsOf t' = 1 := by
  intro t' h
  simp only [List.mem_cons, List.not_mem_nil, or_false] at h
  rcases h with rfl | rfl | rfl | rfl <;> kernel_rfl
theorem open_pks {H : Type} {enc : TypeId × Value → H} {W : World} {sp : Nat → Bool} {held : Bool} {a : Option Addr} {len cap : Nat} {d : DataW H} {ps : List MemPlace} (h : DataW.Trod enc Try.prog W 0 sp held 22 (.slice a len cap) d ps) (hs : Sz Try.prog 22 d) :
    ∃ l : List PK, l.length = len ∧ Row W a (l.flatMap PK.cells) ∧ l.length ≤ 140737488355328 := by
  obtain ⟨fuel, hf⟩ := h
  rcases open_flat Try.underlying22 leafsPK onesPK (by kernel_rfl) (B := 32) (by kernel_rfl) hf hs with ⟨rfl, rfl, rfl⟩ | ⟨ad, rfl, _, _, hb, hel⟩
  · exact ⟨[], rfl, (fun j u hu => by simp at hu), (by simp)⟩
  · obtain ⟨l, e, -, hr⟩ := rows_of (α := PK) (f := PK.cells) (k := 4) (Q := fun _ => True) (by decide) (fun _ => rfl) (fun i hi => by
      obtain ⟨cs, hall, hc⟩ := hel i hi
      cases hall with | cons l0 hall =>
      cases hall with | cons l1 hall =>
      cases hall with | cons l2 hall =>
      cases hall with | cons l3 hall =>
      cases hall
      obtain ⟨n0, rfl, w0⟩ := l0.int Try.underlying3
      obtain ⟨n1, rfl, w1⟩ := l1.int Try.underlying23
      obtain ⟨n2, rfl, w2⟩ := l2.int Try.underlying23
      obtain ⟨n3, rfl, w3⟩ := l3.int Try.underlying3
      exact ⟨⟨n0, ⟨n1, n2⟩, n3⟩, trivial, fun j u hu => hc j u hu⟩)
    exact ⟨l, e, hr, by omega⟩
end Go.Proofs.Ythkmdhkifkapkaa
