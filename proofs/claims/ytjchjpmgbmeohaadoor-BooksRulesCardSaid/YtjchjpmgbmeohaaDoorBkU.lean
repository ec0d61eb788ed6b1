/- BooksRules: a number as an argument; both sides. -/
import Derived.Test.YtjchjpmgbmeohaaDoorBkT
import Derived.Test.YtjchjpmgbmeohaaDoorAcctO
set_option linter.unusedSimpArgs false
set_option linter.unusedVariables false
namespace Go.Proofs.YtjchjpmgbmeohaaDoor
open Go.ChangeShapes Go.WideShapes Go.ChangeAt Go.RowKit
set_option maxRecDepth 20000

theorem rules_any (w : World) (a : Acc) (n : Nm) (b pn : Bool) (hm : Most w) (ha : a.ok) (hn : n.ok) : Calls Tryd.prog 3 #[a.val, .agg #[.int .u64 n.hi, .int .u64 n.lo], .bool b, .bool pn] w fun e w' => e = .returned (.bool true) ∧ Fr (fun _ => False) w w' := by
  cases b
  · exact rulesF w a n pn hm ha hn
  · exact rulesT w a n pn hm ha hn
theorem leafs_Num : leafs Tryd.prog 4 24 = some [22, 22] := by kernel_rfl
theorem open_num {H : Type} {enc : TypeId × Value → H} {w : World} {base b0 : Nat} {spare : Nat → Bool} {held : Bool} {r : Go.Reach} {v : Value} {d : DataW H} {p : List MemPlace} (hv : Value.okWide Tryd.prog w r b0 24 v) (h : DataW.Trod enc Tryd.prog w base spare held 24 v d p) (hz : Sz Tryd.prog 24 d) :
    ∃ a : Nm, v = .agg #[.int .u64 a.hi, .int .u64 a.lo] ∧ a.ok := by
  obtain ⟨⟨cs⟩, rfl, hall⟩ := open_agg Tryd.underlying24 leafs_Num (by
    have h : ([22].all fun t => Tryd.prog.cellsOf t == 1) = true := by kernel_rfl
    intro t ht
    have := List.all_eq_true.1 h t (by simp at ht ⊢; omega)
    simpa using this) (by kernel_rfl) hv h hz
  have g : All2 (Leaf enc Tryd.prog w base spare held) _ cs := hall
  clear hall hv h hz
  obtain _ | ⟨l0, g⟩ := g
  obtain _ | ⟨l1, g⟩ := g
  cases g
  obtain ⟨n0, rfl, o0⟩ := l0.u64 Tryd.underlying22
  obtain ⟨n1, rfl, o1⟩ := l1.u64 Tryd.underlying22
  exact ⟨⟨n0, n1⟩, rfl, ⟨o0.1, o0.2, o1.1, o1.2⟩⟩
end Go.Proofs.YtjchjpmgbmeohaaDoor
