/- Requests and replies among the arguments. -/
import Derived.Test.YtfmcimngogibkaaWrM
import Derived.Test.YtfmcimngogibkaaOpen
import Derived.Test.YtfmcimngogibkaaWf
set_option linter.unusedSimpArgs false
set_option linter.unusedVariables false
namespace Go.Proofs.Ytfmcimngogibkaa
open Go.RowKit Go.ChangeShapes Go.WideShapes Go.ChangeAt

/-- A struct by value: its cells, leaf by leaf. -/
theorem open_agg {H : Type} {enc : TypeId × Value → H} {P : Program} {w : World} {base b0 n : Nat} {spare : Nat → Bool} {held : Bool} {r : Reach} {t : TypeId} {ts : List TypeId} {fs : Array Field} {v : Value} {d : DataW H} {p : List MemPlace}
    (hs : P.underlying t = some (.struct fs)) (hl : leafs P n t = some ts) (h1 : ∀ t' ∈ ts, P.cellsOf t' = 1) (hC : P.cellsOf t = ts.length) (hv : Value.okWide P w r b0 t v) (h : DataW.Trod enc P w base spare held t v d p) (hz : Sz P t d) :
    ∃ cs : Array Value, v = .agg cs ∧ All2 (Leaf enc P w base spare held) ts cs.toList := by
  obtain ⟨cs, rfl, hsz⟩ := okWide_struct hs hv
  obtain ⟨fuel, hf⟩ := h
  exact ⟨cs, rfl, leafs_all n fuel t ts cs.toList _ hl h1 (by rw [Array.length_toList, hsz, hC]) hf hz⟩
theorem Leaf.u64 {H : Type} {enc : TypeId × Value → H} {P : Program} {w : World} {base : Nat} {spare : Nat → Bool} {held : Bool} {t : TypeId} {c : Value} (hu : P.underlying t = some (.int .u64)) (h : Leaf enc P w base spare held t c) : ∃ n, c = .int .u64 n ∧ 0 ≤ n ∧ n < 18446744073709551616 := by
  obtain ⟨n, e, hw⟩ := h.int hu
  refine ⟨n, e, ?_⟩
  simp only [Lit.wf, IntKind.min, IntKind.max, IntKind.signed, IntKind.bits, Bool.and_eq_true, decide_eq_true_eq] at hw
  simp at hw
  omega
theorem Leaf.i64 {H : Type} {enc : TypeId × Value → H} {P : Program} {w : World} {base : Nat} {spare : Nat → Bool} {held : Bool} {t : TypeId} {c : Value} (hu : P.underlying t = some (.int .i64)) (h : Leaf enc P w base spare held t c) : ∃ n, c = .int .i64 n ∧ -9223372036854775808 ≤ n ∧ n ≤ 9223372036854775807 := by
  obtain ⟨n, e, hw⟩ := h.int hu
  exact ⟨n, e, wf_int hw⟩
section
variable {H : Type} {enc : TypeId × Value → H} {P : Program} {w : World} {spare : Nat → Bool} {held : Bool}
/-- A slice of structs. -/
theorem Leaf.row {α : Type} {f : α → List Value} {Q : α → Prop} {t e : TypeId} {ts : List TypeId} {n B : Nat} {c : Value} (hu : P.underlying t = some (.slice e)) (hlf : leafs P n e = some ts) (h1 : ∀ t' ∈ ts, P.cellsOf t' = 1) (hce : P.cellsOf e = ts.length) (hB : P.bytesOf e = B) (hB0 : 0 < B) (hts : 0 < ts.length)
    (hf : ∀ x, (f x).length = ts.length) (hel : ∀ cs, All2 (Leaf enc P w 0 spare held) ts cs → ∃ x, cs = f x ∧ Q x) (h : Leaf enc P w 0 spare held t c) :
    ∃ (a : Option Addr) (l : List α) (cap : Nat), c = .slice a l.length cap ∧ Row w a (l.flatMap f) ∧ (∀ x ∈ l, Q x) ∧ l.length ≤ 140737488355328 := by
  obtain ⟨fuel, y, hy, hz⟩ := h
  have hc : ∃ a len cap, c = .slice a len cap := by
    rcases Deep.open_slice hu hy with ⟨hcs, _⟩ | ⟨ad, l, c', m, n2, D, Pl, hcs, _⟩
    · simp only [List.cons.injEq, and_true] at hcs
      exact ⟨_, _, _, hcs⟩
    · simp only [List.cons.injEq, and_true] at hcs
      exact ⟨_, _, _, hcs⟩
  obtain ⟨a, len, cap, rfl⟩ := hc
  rcases open_flat hu hlf h1 hce hB hy hz with ⟨rfl, rfl, rfl⟩ | ⟨ad, rfl, _, _, hb, he⟩
  · exact ⟨none, ([] : List α), 0, rfl, (fun j u hu => by simp at hu), (fun _ h => by simp at h), by simp⟩
  · obtain ⟨l, e1, hq, hr⟩ := rows_of (α := α) (f := f) (k := ts.length) (Q := Q) hts hf (fun i hi => by
      obtain ⟨cs, hall, hc⟩ := he i hi
      obtain ⟨x, rfl, hx⟩ := hel cs hall
      exact ⟨x, hx, fun j u hu => hc j u hu⟩)
    refine ⟨some ad, l, cap, by rw [e1], hr, hq, ?_⟩
    rw [e1]
    have : len * 1 ≤ len * B := Nat.mul_le_mul_left _ hB0
    omega
end
theorem one_of {P : Program} {us ts : List TypeId} (h : (us.all fun t => P.cellsOf t == 1) = true) (hs : ∀ t ∈ ts, t ∈ us) : ∀ t ∈ ts, P.cellsOf t = 1 := fun t ht => by
  have := List.all_eq_true.1 h t (hs t ht)
  simpa using this
section
variable {H : Type} {enc : TypeId × Value → H} {w : World} {spare : Nat → Bool} {held : Bool}
theorem leafs_acc : leafs Try.prog 5 58 = some [25, 25, 25, 25, 25, 25, 25, 25, 25, 25, 3, 3, 3, 3] := by kernel_rfl
theorem all2_acc {cs : List Value} (g : All2 (Leaf enc Try.prog w 0 spare held) [25, 25, 25, 25, 25, 25, 25, 25, 25, 25, 3, 3, 3, 3] cs) : ∃ x : Acc, cs = Acc.cells x ∧ Acc.ok x := by
  obtain _ | ⟨l0, g⟩ := g
  obtain _ | ⟨l1, g⟩ := g
  obtain _ | ⟨l2, g⟩ := g
  obtain _ | ⟨l3, g⟩ := g
  obtain _ | ⟨l4, g⟩ := g
  obtain _ | ⟨l5, g⟩ := g
  obtain _ | ⟨l6, g⟩ := g
  obtain _ | ⟨l7, g⟩ := g
  obtain _ | ⟨l8, g⟩ := g
  obtain _ | ⟨l9, g⟩ := g
  obtain _ | ⟨l10, g⟩ := g
  obtain _ | ⟨l11, g⟩ := g
  obtain _ | ⟨l12, g⟩ := g
  obtain _ | ⟨l13, g⟩ := g
  cases g
  obtain ⟨n0, rfl, o0⟩ := l0.u64 Try.underlying25
  obtain ⟨n1, rfl, o1⟩ := l1.u64 Try.underlying25
  obtain ⟨n2, rfl, o2⟩ := l2.u64 Try.underlying25
  obtain ⟨n3, rfl, o3⟩ := l3.u64 Try.underlying25
  obtain ⟨n4, rfl, o4⟩ := l4.u64 Try.underlying25
  obtain ⟨n5, rfl, o5⟩ := l5.u64 Try.underlying25
  obtain ⟨n6, rfl, o6⟩ := l6.u64 Try.underlying25
  obtain ⟨n7, rfl, o7⟩ := l7.u64 Try.underlying25
  obtain ⟨n8, rfl, o8⟩ := l8.u64 Try.underlying25
  obtain ⟨n9, rfl, o9⟩ := l9.u64 Try.underlying25
  obtain ⟨n10, rfl, o10⟩ := l10.i64 Try.underlying3
  obtain ⟨n11, rfl, o11⟩ := l11.i64 Try.underlying3
  obtain ⟨n12, rfl, o12⟩ := l12.i64 Try.underlying3
  obtain ⟨n13, rfl, o13⟩ := l13.i64 Try.underlying3
  exact ⟨⟨⟨n0, n1⟩, ⟨n2, n3⟩, ⟨n4, n5⟩, ⟨n6, n7⟩, ⟨n8, n9⟩, n10, n11, n12, n13⟩, rfl, ⟨⟨o0.1, o0.2, o1.1, o1.2⟩, ⟨o2.1, o2.2, o3.1, o3.2⟩, ⟨o4.1, o4.2, o5.1, o5.2⟩, ⟨o6.1, o6.2, o7.1, o7.2⟩, ⟨o8.1, o8.2, o9.1, o9.2⟩, o10, o11, o12, o13⟩⟩
theorem leaf_accs {c : Value} (h : Leaf enc Try.prog w 0 spare held 22 c) : ∃ (a : Option Addr) (l : List Acc) (cap : Nat), c = .slice a l.length cap ∧ Row w a (l.flatMap Acc.cells) ∧ (∀ x ∈ l, Acc.ok x) ∧ l.length ≤ 140737488355328 :=
  h.row Try.underlying22 leafs_acc (one_of (us := [25, 3]) (by kernel_rfl) (by simp)) (by kernel_rfl) (B := 112) (by kernel_rfl) (by decide) (by decide) (fun _ => rfl) (fun _ hall => all2_acc hall)
theorem leafs_tx : leafs Try.prog 5 61 = some [25, 25, 25, 25, 25, 25, 25, 25, 25, 25, 3, 3, 3, 3, 3, 3] := by kernel_rfl
theorem all2_tx {cs : List Value} (g : All2 (Leaf enc Try.prog w 0 spare held) [25, 25, 25, 25, 25, 25, 25, 25, 25, 25, 3, 3, 3, 3, 3, 3] cs) : ∃ x : Tx, cs = Tx.cells x ∧ Tx.ok x := by
  obtain _ | ⟨l0, g⟩ := g
  obtain _ | ⟨l1, g⟩ := g
  obtain _ | ⟨l2, g⟩ := g
  obtain _ | ⟨l3, g⟩ := g
  obtain _ | ⟨l4, g⟩ := g
  obtain _ | ⟨l5, g⟩ := g
  obtain _ | ⟨l6, g⟩ := g
  obtain _ | ⟨l7, g⟩ := g
  obtain _ | ⟨l8, g⟩ := g
  obtain _ | ⟨l9, g⟩ := g
  obtain _ | ⟨l10, g⟩ := g
  obtain _ | ⟨l11, g⟩ := g
  obtain _ | ⟨l12, g⟩ := g
  obtain _ | ⟨l13, g⟩ := g
  obtain _ | ⟨l14, g⟩ := g
  obtain _ | ⟨l15, g⟩ := g
  cases g
  obtain ⟨n0, rfl, o0⟩ := l0.u64 Try.underlying25
  obtain ⟨n1, rfl, o1⟩ := l1.u64 Try.underlying25
  obtain ⟨n2, rfl, o2⟩ := l2.u64 Try.underlying25
  obtain ⟨n3, rfl, o3⟩ := l3.u64 Try.underlying25
  obtain ⟨n4, rfl, o4⟩ := l4.u64 Try.underlying25
  obtain ⟨n5, rfl, o5⟩ := l5.u64 Try.underlying25
  obtain ⟨n6, rfl, o6⟩ := l6.u64 Try.underlying25
  obtain ⟨n7, rfl, o7⟩ := l7.u64 Try.underlying25
  obtain ⟨n8, rfl, o8⟩ := l8.u64 Try.underlying25
  obtain ⟨n9, rfl, o9⟩ := l9.u64 Try.underlying25
  obtain ⟨n10, rfl, o10⟩ := l10.i64 Try.underlying3
  obtain ⟨n11, rfl, o11⟩ := l11.i64 Try.underlying3
  obtain ⟨n12, rfl, o12⟩ := l12.i64 Try.underlying3
  obtain ⟨n13, rfl, o13⟩ := l13.i64 Try.underlying3
  obtain ⟨n14, rfl, o14⟩ := l14.i64 Try.underlying3
  obtain ⟨n15, rfl, o15⟩ := l15.i64 Try.underlying3
  exact ⟨⟨⟨n0, n1⟩, ⟨n2, n3⟩, ⟨n4, n5⟩, ⟨n6, n7⟩, ⟨n8, n9⟩, n10, n11, n12, n13, n14, n15⟩, rfl, ⟨⟨o0.1, o0.2, o1.1, o1.2⟩, ⟨o2.1, o2.2, o3.1, o3.2⟩, ⟨o4.1, o4.2, o5.1, o5.2⟩, ⟨o6.1, o6.2, o7.1, o7.2⟩, ⟨o8.1, o8.2, o9.1, o9.2⟩, o10, o11, o12, o13, o14, o15⟩⟩
theorem leaf_txs {c : Value} (h : Leaf enc Try.prog w 0 spare held 23 c) : ∃ (a : Option Addr) (l : List Tx) (cap : Nat), c = .slice a l.length cap ∧ Row w a (l.flatMap Tx.cells) ∧ (∀ x ∈ l, Tx.ok x) ∧ l.length ≤ 140737488355328 :=
  h.row Try.underlying23 leafs_tx (one_of (us := [25, 3]) (by kernel_rfl) (by simp)) (by kernel_rfl) (B := 128) (by kernel_rfl) (by decide) (by decide) (fun _ => rfl) (fun _ hall => all2_tx hall)
theorem leafs_nm : leafs Try.prog 5 27 = some [25, 25] := by kernel_rfl
theorem all2_nm {cs : List Value} (g : All2 (Leaf enc Try.prog w 0 spare held) [25, 25] cs) : ∃ x : Nm, cs = Nm.cells x ∧ Nm.ok x := by
  obtain _ | ⟨l0, g⟩ := g
  obtain _ | ⟨l1, g⟩ := g
  cases g
  obtain ⟨n0, rfl, o0⟩ := l0.u64 Try.underlying25
  obtain ⟨n1, rfl, o1⟩ := l1.u64 Try.underlying25
  exact ⟨⟨n0, n1⟩, rfl, ⟨o0.1, o0.2, o1.1, o1.2⟩⟩
theorem leaf_nms {c : Value} (h : Leaf enc Try.prog w 0 spare held 24 c) : ∃ (a : Option Addr) (l : List Nm) (cap : Nat), c = .slice a l.length cap ∧ Row w a (l.flatMap Nm.cells) ∧ (∀ x ∈ l, Nm.ok x) ∧ l.length ≤ 140737488355328 :=
  h.row Try.underlying24 leafs_nm (one_of (us := [25]) (by kernel_rfl) (by simp)) (by kernel_rfl) (B := 16) (by kernel_rfl) (by decide) (by decide) (fun _ => rfl) (fun _ hall => all2_nm hall)
def i64ok (n : Int) : Prop := -9223372036854775808 ≤ n ∧ n ≤ 9223372036854775807
theorem leafs_res : leafs Try.prog 5 90 = some [90] := by kernel_rfl
theorem all2_res {cs : List Value} (g : All2 (Leaf enc Try.prog w 0 spare held) [90] cs) : ∃ x : Int, cs = iCells x ∧ i64ok x := by
  obtain _ | ⟨l0, g⟩ := g
  cases g
  obtain ⟨n0, rfl, o0⟩ := l0.i64 Try.underlying90
  exact ⟨n0, rfl, o0⟩
theorem leaf_ress {c : Value} (h : Leaf enc Try.prog w 0 spare held 45 c) : ∃ (a : Option Addr) (l : List Int) (cap : Nat), c = .slice a l.length cap ∧ Row w a (l.flatMap iCells) ∧ (∀ x ∈ l, i64ok x) ∧ l.length ≤ 140737488355328 :=
  h.row Try.underlying45 leafs_res (one_of (us := [90]) (by kernel_rfl) (by simp)) (by kernel_rfl) (B := 8) (by kernel_rfl) (by decide) (by decide) (fun _ => rfl) (fun _ hall => all2_res hall)

theorem leafs_req : leafs Try.prog 5 31 = some [3, 22, 23, 3, 24, 25, 25, 3, 3, 4, 4, 4, 3] := by kernel_rfl
set_option maxRecDepth 4000 in
theorem open_req {b0 : Nat} {r : Reach} {v : Value} {d : DataW H} {p : List MemPlace} (hv : Value.okWide Try.prog w r b0 31 v) (h : DataW.Trod enc Try.prog w 0 spare held 31 v d p) (hz : Sz Try.prog 31 d) :
    ∃ q : Req, ReqIs w v q ∧ q.ok ∧ i64ok q.op ∧ i64ok q.now ∧ i64ok q.flt.from_ ∧ i64ok q.flt.upto ∧ i64ok q.flt.lim ∧ q.accs.length ≤ 140737488355328 ∧ q.txs.length ≤ 140737488355328 ∧ q.ids.length ≤ 140737488355328 := by
  obtain ⟨⟨cs⟩, rfl, hall⟩ := open_agg Try.underlying31 leafs_req (one_of (us := [3, 22, 23, 24, 25, 4]) (by kernel_rfl) (by simp)) (by kernel_rfl) hv h hz
  have g : All2 (Leaf enc Try.prog w 0 spare held) _ cs := hall
  clear hall hv h hz
  obtain _ | ⟨l0, g⟩ := g
  obtain _ | ⟨l1, g⟩ := g
  obtain _ | ⟨l2, g⟩ := g
  obtain _ | ⟨l3, g⟩ := g
  obtain _ | ⟨l4, g⟩ := g
  obtain _ | ⟨l5, g⟩ := g
  obtain _ | ⟨l6, g⟩ := g
  obtain _ | ⟨l7, g⟩ := g
  obtain _ | ⟨l8, g⟩ := g
  obtain _ | ⟨l9, g⟩ := g
  obtain _ | ⟨l10, g⟩ := g
  obtain _ | ⟨l11, g⟩ := g
  obtain _ | ⟨l12, g⟩ := g
  cases g
  obtain ⟨n0, rfl, o0⟩ := l0.i64 Try.underlying3
  obtain ⟨a1, x1, c1, rfl, r1, q1, z1⟩ := leaf_accs l1
  obtain ⟨a2, x2, c2, rfl, r2, q2, z2⟩ := leaf_txs l2
  obtain ⟨n3, rfl, o3⟩ := l3.i64 Try.underlying3
  obtain ⟨a4, x4, c4, rfl, r4, q4, z4⟩ := leaf_nms l4
  obtain ⟨n5, rfl, o5⟩ := l5.u64 Try.underlying25
  obtain ⟨n6, rfl, o6⟩ := l6.u64 Try.underlying25
  obtain ⟨n7, rfl, o7⟩ := l7.i64 Try.underlying3
  obtain ⟨n8, rfl, o8⟩ := l8.i64 Try.underlying3
  obtain ⟨n9, rfl⟩ := l9.bool Try.underlying4
  obtain ⟨n10, rfl⟩ := l10.bool Try.underlying4
  obtain ⟨n11, rfl⟩ := l11.bool Try.underlying4
  obtain ⟨n12, rfl, o12⟩ := l12.i64 Try.underlying3
  exact ⟨⟨n0, x1, x2, n3, x4, ⟨⟨n5, n6⟩, n7, n8, n9, n10, n11, n12⟩⟩, ⟨a1, c1, a2, c2, a4, c4, rfl, r1, r2, r4⟩, ⟨q1, q2, q4, ⟨o5.1, o5.2, o6.1, o6.2⟩⟩, o0, o3, o7, o8, o12, z1, z2, z4⟩
end
end Go.Proofs.Ytfmcimngogibkaa
