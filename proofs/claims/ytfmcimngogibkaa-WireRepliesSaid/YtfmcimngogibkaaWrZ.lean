/- A reply among the arguments. -/
import Derived.Test.YtfmcimngogibkaaWrY
import Derived.Test.YtfmcimngogibkaaWrO
set_option linter.unusedSimpArgs false
set_option linter.unusedVariables false
namespace Go.Proofs.Ytfmcimngogibkaa
open Go.RowKit Go.ChangeShapes Go.WideShapes Go.ChangeAt

section
variable {H : Type} {enc : TypeId × Value → H} {w : World} {spare : Nat → Bool} {held : Bool}
theorem leafs_rep : leafs Try.prog 5 47 = some [34, 45, 22, 23] := by kernel_rfl
set_option maxRecDepth 4000 in
theorem open_rep {b0 : Nat} {r : Reach} {v : Value} {d : DataW H} {p : List MemPlace} (hv : Value.okWide Try.prog w r b0 47 v) (h : DataW.Trod enc Try.prog w 0 spare held 47 v d p) (hz : Sz Try.prog 47 d) :
    ∃ q : Rep, RepIs w v q ∧ (∀ x ∈ q.accs, x.ok) ∧ (∀ x ∈ q.txs, x.ok) ∧ q.rs.length ≤ 140737488355328 ∧ q.accs.length ≤ 140737488355328 ∧ q.txs.length ≤ 140737488355328 := by
  obtain ⟨⟨cs⟩, rfl, hall⟩ := open_agg Try.underlying47 leafs_rep (one_of (us := [34, 45, 22, 23]) (by kernel_rfl) (by simp)) (by kernel_rfl) hv h hz
  have g : All2 (Leaf enc Try.prog w 0 spare held) _ cs := hall
  clear hall hv h hz
  obtain _ | ⟨l0, g⟩ := g
  obtain _ | ⟨l1, g⟩ := g
  obtain _ | ⟨l2, g⟩ := g
  obtain _ | ⟨l3, g⟩ := g
  cases g
  obtain ⟨n0, rfl, o0⟩ := l0.i64 Try.underlying34
  obtain ⟨a1, x1, c1, rfl, r1, q1, z1⟩ := leaf_ress l1
  obtain ⟨a2, x2, c2, rfl, r2, q2, z2⟩ := leaf_accs l2
  obtain ⟨a3, x3, c3, rfl, r3, q3, z3⟩ := leaf_txs l3
  exact ⟨⟨n0, x1, x2, x3⟩, ⟨a1, c1, a2, c2, a3, c3, rfl, r1, r2, r3⟩, q2, q3, z1, z2, z3⟩
end
end Go.Proofs.Ytfmcimngogibkaa
