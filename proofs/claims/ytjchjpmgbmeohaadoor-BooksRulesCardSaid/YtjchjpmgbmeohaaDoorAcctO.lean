/- An account as an argument; what the listed variable reads as. -/
import Derived.Test.YtjchjpmgbmeohaaDoorAcct
import Derived.Test.YtjchjpmgbmeohaaDoorOpen
import Derived.Test.YtjchjpmgbmeohaaDoorRows
import Derived.ProofKit
import Derived.LaidMore
import Derived.OpenShut
import Derived.Stop.Joined
set_option linter.unusedSimpArgs false
set_option linter.unusedVariables false
namespace Go.Proofs.YtjchjpmgbmeohaaDoor
open Go.ChangeShapes Go.WideShapes Go.ChangeAt Go.RowKit
set_option maxRecDepth 20000

abbrev laids : List (String × DataW Unit) := [("bondstore/wide.Most", Rows.laid_bondstore_wide_Most)]
theorem gMost : Tryd.prog.globalNamed "bondstore/wide.Most" = some 0 := by kernel_rfl
theorem tMost : (Tryd.prog.globals[0]?).map (·.type) = some 24 := by kernel_rfl
theorem door_met (os : Os) (args : Array Value) : laidMetH Tryd.prog laids ((World.doorLaid Tryd.prog 400 os).forCall (fun _ _ => 0) ⟨#[], args, []⟩).memory :=
  laidMetH_of_parts3 (fuel := 8) (laidMet_of_run' 8 (by kernel_rfl) (by kernel_rfl)) (by kernel_rfl) (by kernel_rfl)
theorem most_of_laid {W : World} (h : laidMetH Tryd.prog laids W) : Most W := by
  rw [MakeChecks.laidMetH_plain _ _ _ (by kernel_rfl)] at h
  obtain ⟨ps, ⟨g0, t0, cs0, f0, p0, q0, hg0, ht0, hv0, hd0, _, _⟩, _, _⟩ := h
  obtain rfl := Option.some.inj (gMost.symm.trans hg0)
  obtain rfl := Option.some.inj (tMost.symm.trans ht0)
  obtain ⟨xs, k, rfl, hx, hcs, hxs, hel⟩ := DataW.trod_struct Tryd.underlying24 hd0
  have c1 : Tryd.prog.cellsOf 22 = 1 := by kernel_rfl
  have c2 : Tryd.prog.cellsOf 24 = 2 := by kernel_rfl
  have e0 : DataW.trod (fun _ => ()) Tryd.prog W 0 (fun _ => true) false k 22 ((cs0.toList.drop 0).take (Tryd.prog.cellsOf 22)) = xs[0]? := hel 0 _ rfl
  have e1 : DataW.trod (fun _ => ()) Tryd.prog W 0 (fun _ => true) false k 22 ((cs0.toList.drop 1).take (Tryd.prog.cellsOf 22)) = xs[1]? := hel 1 _ rfl
  rw [c1] at e0 e1
  rw [c2] at hcs
  obtain ⟨l⟩ := cs0
  match l, hcs, xs, hxs with
  | [u, v], _, [x0, x1], _ =>
    simp only [List.drop_zero, List.take_succ_cons, List.take_zero, List.drop_succ_cons, List.getElem?_cons_zero, List.getElem?_cons_succ] at e0 e1
    obtain ⟨n0, u0, v0, _⟩ := DataW.trod_int Tryd.underlying22 e0
    obtain ⟨n1, u1, v1, _⟩ := DataW.trod_int Tryd.underlying22 e1
    simp only [List.cons.injEq, and_true] at u0 u1
    subst u0 u1
    subst v0 v1
    simp only [Rows.laid_bondstore_wide_Most, Prod.mk.injEq, List.map_cons, List.map_nil, DataW.agg.injEq, List.cons.injEq, DataW.lit.injEq, Lit.int.injEq, and_true, true_and] at hx
    obtain ⟨⟨rfl, rfl⟩, _⟩ := hx
    exact ⟨by have := World.var?_cell hg0 hv0 0; simpa [M64] using this, by have := World.var?_cell hg0 hv0 1; simpa [M64] using this⟩

/-- A struct by value: its cells, leaf by leaf. -/
theorem open_agg {H : Type} {enc : TypeId × Value → H} {P : Program} {w : World} {base b0 n : Nat} {spare : Nat → Bool} {held : Bool} {r : Reach} {t : TypeId} {ts : List TypeId} {fs : Array Field} {v : Value} {d : DataW H} {p : List MemPlace}
    (hs : P.underlying t = some (.struct fs)) (hl : leafs P n t = some ts) (h1 : ∀ t' ∈ ts, P.cellsOf t' = 1) (hC : P.cellsOf t = ts.length) (hv : Value.okWide P w r b0 t v) (h : DataW.Trod enc P w base spare held t v d p) (hz : Sz P t d) :
    ∃ cs : Array Value, v = .agg cs ∧ All2 (Leaf enc P w base spare held) ts cs.toList := by
  obtain ⟨cs, rfl, hsz⟩ := okWide_struct hs hv
  obtain ⟨fuel, hf⟩ := h
  exact ⟨cs, rfl, leafs_all n fuel t ts cs.toList _ hl h1 (by rw [Array.length_toList, hsz, hC]) hf hz⟩
theorem Leaf.u64 {H : Type} {enc : TypeId × Value → H} {P : Program} {w : World} {base : Nat} {spare : Nat → Bool} {held : Bool} {t : TypeId} {c : Value} (hu : P.underlying t = some (.int .u64)) (h : Leaf enc P w base spare held t c) : ∃ n, c = .int .u64 n ∧ 0 ≤ n ∧ n < 18446744073709551616 := by
  obtain ⟨n, e, hw⟩ := h.int hu
  refine ⟨n, e, ?_⟩
  simp only [Lit.wf, IntKind.min, IntKind.max, IntKind.signed, IntKind.bits, Bool.and_eq_true, decide_eq_true_eq] at hw
  simp at hw
  omega
theorem Leaf.i64 {H : Type} {enc : TypeId × Value → H} {P : Program} {w : World} {base : Nat} {spare : Nat → Bool} {held : Bool} {t : TypeId} {c : Value} (hu : P.underlying t = some (.int .i64)) (h : Leaf enc P w base spare held t c) : ∃ n, c = .int .i64 n ∧ -9223372036854775808 ≤ n ∧ n ≤ 9223372036854775807 := by
  obtain ⟨n, e, hw⟩ := h.int hu
  refine ⟨n, e, ?_⟩
  simp only [Lit.wf, IntKind.min, IntKind.max, IntKind.signed, IntKind.bits, Bool.and_eq_true, decide_eq_true_eq] at hw
  simp at hw
  omega

theorem leafs_Acc : leafs Tryd.prog 4 26 = some [22, 22, 22, 22, 22, 22, 22, 22, 22, 22, 3, 3, 3, 3] := by kernel_rfl
theorem open_acc {H : Type} {enc : TypeId × Value → H} {w : World} {base b0 : Nat} {spare : Nat → Bool} {held : Bool} {r : Reach} {v : Value} {d : DataW H} {p : List MemPlace} (hv : Value.okWide Tryd.prog w r b0 26 v) (h : DataW.Trod enc Tryd.prog w base spare held 26 v d p) (hz : Sz Tryd.prog 26 d) :
    ∃ a : Acc, v = a.val ∧ a.ok := by
  obtain ⟨⟨cs⟩, rfl, hall⟩ := open_agg Tryd.underlying26 leafs_Acc (by
    have h : ([22, 3].all fun t => Tryd.prog.cellsOf t == 1) = true := by kernel_rfl
    intro t ht
    have := List.all_eq_true.1 h t (by simp at ht ⊢; omega)
    simpa using this) (by kernel_rfl) hv h hz
  have g : All2 (Leaf enc Tryd.prog w base spare held) _ cs := hall
  clear hall hv h hz
  obtain _ | ⟨l0, g⟩ := g
  obtain _ | ⟨l1, g⟩ := g
  obtain _ | ⟨l2, g⟩ := g
  obtain _ | ⟨l3, g⟩ := g
  obtain _ | ⟨l4, g⟩ := g
  obtain _ | ⟨l5, g⟩ := g
  obtain _ | ⟨l6, g⟩ := g
  obtain _ | ⟨l7, g⟩ := g
  obtain _ | ⟨l8, g⟩ := g
  obtain _ | ⟨l9, g⟩ := g
  obtain _ | ⟨l10, g⟩ := g
  obtain _ | ⟨l11, g⟩ := g
  obtain _ | ⟨l12, g⟩ := g
  obtain _ | ⟨l13, g⟩ := g
  cases g
  obtain ⟨n0, rfl, o0⟩ := l0.u64 Tryd.underlying22
  obtain ⟨n1, rfl, o1⟩ := l1.u64 Tryd.underlying22
  obtain ⟨n2, rfl, o2⟩ := l2.u64 Tryd.underlying22
  obtain ⟨n3, rfl, o3⟩ := l3.u64 Tryd.underlying22
  obtain ⟨n4, rfl, o4⟩ := l4.u64 Tryd.underlying22
  obtain ⟨n5, rfl, o5⟩ := l5.u64 Tryd.underlying22
  obtain ⟨n6, rfl, o6⟩ := l6.u64 Tryd.underlying22
  obtain ⟨n7, rfl, o7⟩ := l7.u64 Tryd.underlying22
  obtain ⟨n8, rfl, o8⟩ := l8.u64 Tryd.underlying22
  obtain ⟨n9, rfl, o9⟩ := l9.u64 Tryd.underlying22
  obtain ⟨n10, rfl, o10⟩ := l10.i64 Tryd.underlying3
  obtain ⟨n11, rfl, o11⟩ := l11.i64 Tryd.underlying3
  obtain ⟨n12, rfl, o12⟩ := l12.i64 Tryd.underlying3
  obtain ⟨n13, rfl, o13⟩ := l13.i64 Tryd.underlying3
  exact ⟨⟨⟨n0, n1⟩, ⟨n2, n3⟩, ⟨n4, n5⟩, ⟨n6, n7⟩, ⟨n8, n9⟩, n10, n11, n12, n13⟩, rfl, ⟨⟨o0.1, o0.2, o1.1, o1.2⟩, ⟨o2.1, o2.2, o3.1, o3.2⟩, ⟨o4.1, o4.2, o5.1, o5.2⟩, ⟨o6.1, o6.2, o7.1, o7.2⟩, ⟨o8.1, o8.2, o9.1, o9.2⟩, o10, o11, o12, o13⟩⟩
end Go.Proofs.YtjchjpmgbmeohaaDoor
