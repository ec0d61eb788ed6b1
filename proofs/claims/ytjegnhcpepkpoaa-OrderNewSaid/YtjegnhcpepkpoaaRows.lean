/-
  No cell of these rows narrows 'for every input' (looked for: loops, veiled, ifaces, maps, wideKeys, modest, calm, conditions, laid).
  DERIVED. THE GIVEN ROWS OF THIS SEAT. 4 by the template 'for every input the law returns true; each argument reads behind the call as it read before'; 0 by the template 'total and deterministic' (their statements: YtjegnhcpepkpoaaTotals.lean).
  GIVEN WITH THE SEED: the statements are not yours to turn. If you find one false, say at which input.
  Laid BY PROGRAM, IN A SANDBOX (cutbox-rows.mjs): the forced cells as the released guide's own fill.sh prints them over the translation 5d2201fa6744bc92… (all of the seat's roots in one cut). By AI agents, Wed Nov 11 2026. No macro, syntax, notation, axiom, sorry.
-/
import Derived.Test.YtjegnhcpepkpoaaChecked
import GoSem.Claim
import GoSem.ClaimJoined
import GoSem.ClaimMapViews
import Derived.JoinedTies
import Derived.KernelRfl
namespace Go.Proofs.Ytjegnhcpepkpoaa
/- THE CELL 'sum', in the pinned program and in every row, IS THE sha256 OF THE DUMP (.gsa) THAT YtjegnhcpepkpoaaProg.lean LOADS. Nothing in Lean hashes anything: it is a label: what it is worth is what the hold of that sum in a sandbox is worth. -/
noncomputable def Try.pinned : Pinned := { name := "ytjegnhcpepkpoaa", sum := "5d2201fa6744bc922dd0a225cbdf8b8e5ee43a83f2bccc9e986c851c2e2b1cb3", checked := Try.checked }
namespace Rows
def none {H : Type} : Left H := { results := [], args := [] }

/-- 'bondstorelaw12.OrderDoes': WHATEVER THE INPUT: true; the input reads as it did. -/
def orderDoesSpec : ChangeSpec := { name := "orderDoes", fn := fun _ => fun
  | [d1, d2, d3] => { results := [.lit (.bool true)], args := [d1, d2, d3] }
  | _ => none }
def orderDoesRow : OpenClaim := { program := "ytjegnhcpepkpoaa", sum := "5d2201fa6744bc922dd0a225cbdf8b8e5ee43a83f2bccc9e986c851c2e2b1cb3", func := "bondstore/bondstorelaw12.OrderDoes", spec := "orderDoes", unfollowed := true, recurses := true, apart := false }
def OrderDoesSaid : Prop := orderDoesRow.holds Try.pinned (OpenSpec.ofChange orderDoesSpec)

/-- ITS FALSE NEIGHBOUR: 'it returns false'. Refute it at one input. -/
def orderDoesWrong : ChangeSpec := { name := "orderDoes", fn := fun _ => fun
  | [d1, d2, d3] => { results := [.lit (.bool false)], args := [d1, d2, d3] }
  | _ => none }
def OrderDoesWrongFalsely : Prop := orderDoesRow.holds Try.pinned (OpenSpec.ofChange orderDoesWrong)

/-- 'bondstorelaw12.OrderParts': WHATEVER THE INPUT: true; the input reads as it did. -/
def orderPartsSpec : ChangeSpec := { name := "orderParts", fn := fun _ => fun
  | [d1, d2, d3, d4] => { results := [.lit (.bool true)], args := [d1, d2, d3, d4] }
  | _ => none }
def orderPartsRow : OpenClaim := { program := "ytjegnhcpepkpoaa", sum := "5d2201fa6744bc922dd0a225cbdf8b8e5ee43a83f2bccc9e986c851c2e2b1cb3", func := "bondstore/bondstorelaw12.OrderParts", spec := "orderParts", unfollowed := true, recurses := true, apart := false }
def OrderPartsSaid : Prop := orderPartsRow.holds Try.pinned (OpenSpec.ofChange orderPartsSpec)

/-- ITS FALSE NEIGHBOUR: 'it returns false'. Refute it at one input. -/
def orderPartsWrong : ChangeSpec := { name := "orderParts", fn := fun _ => fun
  | [d1, d2, d3, d4] => { results := [.lit (.bool false)], args := [d1, d2, d3, d4] }
  | _ => none }
def OrderPartsWrongFalsely : Prop := orderPartsRow.holds Try.pinned (OpenSpec.ofChange orderPartsWrong)

/-- 'bondstorelaw12.OrderNew': WHATEVER THE INPUT: true; the input reads as it did. -/
def orderNewSpec : ChangeSpec := { name := "orderNew", fn := fun _ => fun
  | [d] => { results := [.lit (.bool true)], args := [d] }
  | _ => none }
def orderNewRow : OpenClaim := { program := "ytjegnhcpepkpoaa", sum := "5d2201fa6744bc922dd0a225cbdf8b8e5ee43a83f2bccc9e986c851c2e2b1cb3", func := "bondstore/bondstorelaw12.OrderNew", spec := "orderNew", unfollowed := true, recurses := true, apart := false }
def OrderNewSaid : Prop := orderNewRow.holds Try.pinned (OpenSpec.ofChange orderNewSpec)

/-- ITS FALSE NEIGHBOUR: 'it returns false'. Refute it at one input. -/
def orderNewWrong : ChangeSpec := { name := "orderNew", fn := fun _ => fun
  | [d] => { results := [.lit (.bool false)], args := [d] }
  | _ => none }
def OrderNewWrongFalsely : Prop := orderNewRow.holds Try.pinned (OpenSpec.ofChange orderNewWrong)

/-- 'bondstorelaw12.OrderWhole': WHATEVER THE INPUT: true; the input reads as it did. -/
def orderWholeSpec : ChangeSpec := { name := "orderWhole", fn := fun _ => fun
  | [d1, d2, d3] => { results := [.lit (.bool true)], args := [d1, d2, d3] }
  | _ => none }
def orderWholeRow : OpenClaim := { program := "ytjegnhcpepkpoaa", sum := "5d2201fa6744bc922dd0a225cbdf8b8e5ee43a83f2bccc9e986c851c2e2b1cb3", func := "bondstore/bondstorelaw12.OrderWhole", spec := "orderWhole", unfollowed := true, recurses := true, apart := false }
def OrderWholeSaid : Prop := orderWholeRow.holds Try.pinned (OpenSpec.ofChange orderWholeSpec)

/-- ITS FALSE NEIGHBOUR: 'it returns false'. Refute it at one input. -/
def orderWholeWrong : ChangeSpec := { name := "orderWhole", fn := fun _ => fun
  | [d1, d2, d3] => { results := [.lit (.bool false)], args := [d1, d2, d3] }
  | _ => none }
def OrderWholeWrongFalsely : Prop := orderWholeRow.holds Try.pinned (OpenSpec.ofChange orderWholeWrong)

/- THE SECOND FORM. 'bulk': how many values and letters a reading holds, each counted each time it is reached (what is shared counts as often as it is met; a slice's spare places count too). A statement '..UptoSaid' is the law's where the arguments, and the package variables that the reading takes, are together of bulk at most 1048576: NARROWER than '..Said'. Prove '..Said' where nothing that the law and all that it calls make is longer than what came in: it says more and counts as full. Else prove '..UptoSaid'. A law counts once. -/
mutual
def uptoBulk {H : Type} : DataW H → Nat
  | .lit (.string bytes) => bytes.length + 1
  | .lit _ => 1
  | .nil => 1
  | .ptr d => uptoBulk d + 1
  | .slice elems spare => uptoBulkAll elems + uptoBulkAll spare + 1
  | .agg parts => uptoBulkAll parts + 1
  | .iface _ d => uptoBulk d + 1
  | .map entries => uptoBulkEntries entries + 1
  | .held _ => 1
def uptoBulkAll {H : Type} : List (DataW H) → Nat
  | [] => 0
  | d :: r => uptoBulk d + uptoBulkAll r
def uptoBulkEntries {H : Type} : List (Lit × DataW H) → Nat
  | [] => 0
  | x :: r => uptoBulkEntry x + uptoBulkEntries r
def uptoBulkEntry {H : Type} : Lit × DataW H → Nat
  | (.string bytes, d) => bytes.length + uptoBulk d + 1
  | (_, d) => uptoBulk d + 1
 end
def uptoSmall : (H : Type) → List (DataW H) → Bool := fun _ ds => decide (uptoBulkAll ds ≤ 1048576)
def OpenSpec.upto (s : _root_.Go.ChangeSpec) : _root_.Go.OpenSpec := { _root_.Go.OpenSpec.ofChange s with cond := some uptoSmall }

/-- 'bondstorelaw12.OrderDoes', WHERE WHAT IT READS IS OF BULK AT MOST 1048576: true; the input reads as it did. -/
def orderDoesUptoRow : OpenClaim := { program := "ytjegnhcpepkpoaa", sum := "5d2201fa6744bc922dd0a225cbdf8b8e5ee43a83f2bccc9e986c851c2e2b1cb3", func := "bondstore/bondstorelaw12.OrderDoes", spec := "orderDoes", unfollowed := true, recurses := true, apart := false, narrowed := true }
def OrderDoesUptoSaid : Prop := orderDoesUptoRow.holds Try.pinned (OpenSpec.upto orderDoesSpec)

/-- 'bondstorelaw12.OrderParts', WHERE WHAT IT READS IS OF BULK AT MOST 1048576: true; the input reads as it did. -/
def orderPartsUptoRow : OpenClaim := { program := "ytjegnhcpepkpoaa", sum := "5d2201fa6744bc922dd0a225cbdf8b8e5ee43a83f2bccc9e986c851c2e2b1cb3", func := "bondstore/bondstorelaw12.OrderParts", spec := "orderParts", unfollowed := true, recurses := true, apart := false, narrowed := true }
def OrderPartsUptoSaid : Prop := orderPartsUptoRow.holds Try.pinned (OpenSpec.upto orderPartsSpec)

/-- 'bondstorelaw12.OrderNew', WHERE WHAT IT READS IS OF BULK AT MOST 1048576: true; the input reads as it did. -/
def orderNewUptoRow : OpenClaim := { program := "ytjegnhcpepkpoaa", sum := "5d2201fa6744bc922dd0a225cbdf8b8e5ee43a83f2bccc9e986c851c2e2b1cb3", func := "bondstore/bondstorelaw12.OrderNew", spec := "orderNew", unfollowed := true, recurses := true, apart := false, narrowed := true }
def OrderNewUptoSaid : Prop := orderNewUptoRow.holds Try.pinned (OpenSpec.upto orderNewSpec)

/-- 'bondstorelaw12.OrderWhole', WHERE WHAT IT READS IS OF BULK AT MOST 1048576: true; the input reads as it did. -/
def orderWholeUptoRow : OpenClaim := { program := "ytjegnhcpepkpoaa", sum := "5d2201fa6744bc922dd0a225cbdf8b8e5ee43a83f2bccc9e986c851c2e2b1cb3", func := "bondstore/bondstorelaw12.OrderWhole", spec := "orderWhole", unfollowed := true, recurses := true, apart := false, narrowed := true }
def OrderWholeUptoSaid : Prop := orderWholeUptoRow.holds Try.pinned (OpenSpec.upto orderWholeSpec)

end Rows
end Go.Proofs.Ytjegnhcpepkpoaa
