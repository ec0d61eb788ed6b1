/-
  No cell of these rows narrows 'for every input' (looked for: loops, veiled, ifaces, maps, wideKeys, modest, calm, conditions, laid).
  DERIVED. THE GIVEN ROWS OF THIS SEAT. 4 by the template 'for every input the law returns true; each argument reads behind the call as it read before'; 0 by the template 'total and deterministic' (their statements: YtpmebmkifdgjcaaTotals.lean).
  GIVEN WITH THE SEED: the statements are not yours to turn. If you find one false, say at which input.
  Laid BY PROGRAM, IN A SANDBOX (cutbox-rows.mjs): the forced cells as the released guide's own fill.sh prints them over the translation 108cb1922f70468e… (all of the seat's roots in one cut). By AI agents, Wed Nov 11 2026. No macro, syntax, notation, axiom, sorry.
-/
import Derived.Test.YtpmebmkifdgjcaaChecked
import GoSem.Claim
import GoSem.ClaimJoined
import GoSem.ClaimMapViews
import Derived.JoinedTies
import Derived.KernelRfl
namespace Go.Proofs.Ytpmebmkifdgjcaa
/- THE CELL 'sum', in the pinned program and in every row, IS THE sha256 OF THE DUMP (.gsa) THAT YtpmebmkifdgjcaaProg.lean LOADS. Nothing in Lean hashes anything: it is a label: what it is worth is what the hold of that sum in a sandbox is worth. -/
noncomputable def Try.pinned : Pinned := { name := "ytpmebmkifdgjcaa", sum := "108cb1922f70468ee1f7efe4bd696970ca1b9a3aeec17b6b3753c4ea9748cb95", checked := Try.checked }
namespace Rows
def none {H : Type} : Left H := { results := [], args := [] }

/-- 'bondstorelaw03.TapeJoins': WHATEVER THE INPUT: true; the input reads as it did. -/
def tapeJoinsSpec : ChangeSpec := { name := "tapeJoins", fn := fun _ => fun
  | [d1, d2] => { results := [.lit (.bool true)], args := [d1, d2] }
  | _ => none }
def tapeJoinsRow : OpenClaim := { program := "ytpmebmkifdgjcaa", sum := "108cb1922f70468ee1f7efe4bd696970ca1b9a3aeec17b6b3753c4ea9748cb95", func := "bondstore/bondstorelaw03.TapeJoins", spec := "tapeJoins", apart := false }
def TapeJoinsSaid : Prop := tapeJoinsRow.holds Try.pinned (OpenSpec.ofChange tapeJoinsSpec)

/-- ITS FALSE NEIGHBOUR: 'it returns false'. Refute it at one input. -/
def tapeJoinsWrong : ChangeSpec := { name := "tapeJoins", fn := fun _ => fun
  | [d1, d2] => { results := [.lit (.bool false)], args := [d1, d2] }
  | _ => none }
def TapeJoinsWrongFalsely : Prop := tapeJoinsRow.holds Try.pinned (OpenSpec.ofChange tapeJoinsWrong)

/-- 'bondstorelaw03.TapeTakes': WHATEVER THE INPUT: true; the input reads as it did. -/
def tapeTakesSpec : ChangeSpec := { name := "tapeTakes", fn := fun _ => fun
  | [d1, d2] => { results := [.lit (.bool true)], args := [d1, d2] }
  | _ => none }
def tapeTakesRow : OpenClaim := { program := "ytpmebmkifdgjcaa", sum := "108cb1922f70468ee1f7efe4bd696970ca1b9a3aeec17b6b3753c4ea9748cb95", func := "bondstore/bondstorelaw03.TapeTakes", spec := "tapeTakes", apart := false }
def TapeTakesSaid : Prop := tapeTakesRow.holds Try.pinned (OpenSpec.ofChange tapeTakesSpec)

/-- ITS FALSE NEIGHBOUR: 'it returns false'. Refute it at one input. -/
def tapeTakesWrong : ChangeSpec := { name := "tapeTakes", fn := fun _ => fun
  | [d1, d2] => { results := [.lit (.bool false)], args := [d1, d2] }
  | _ => none }
def TapeTakesWrongFalsely : Prop := tapeTakesRow.holds Try.pinned (OpenSpec.ofChange tapeTakesWrong)

/-- 'bondstorelaw03.TapeCuts': WHATEVER THE INPUT: true; the input reads as it did. -/
def tapeCutsSpec : ChangeSpec := { name := "tapeCuts", fn := fun _ => fun
  | [d1, d2] => { results := [.lit (.bool true)], args := [d1, d2] }
  | _ => none }
def tapeCutsRow : OpenClaim := { program := "ytpmebmkifdgjcaa", sum := "108cb1922f70468ee1f7efe4bd696970ca1b9a3aeec17b6b3753c4ea9748cb95", func := "bondstore/bondstorelaw03.TapeCuts", spec := "tapeCuts", apart := false }
def TapeCutsSaid : Prop := tapeCutsRow.holds Try.pinned (OpenSpec.ofChange tapeCutsSpec)

/-- ITS FALSE NEIGHBOUR: 'it returns false'. Refute it at one input. -/
def tapeCutsWrong : ChangeSpec := { name := "tapeCuts", fn := fun _ => fun
  | [d1, d2] => { results := [.lit (.bool false)], args := [d1, d2] }
  | _ => none }
def TapeCutsWrongFalsely : Prop := tapeCutsRow.holds Try.pinned (OpenSpec.ofChange tapeCutsWrong)

/-- 'bondstorelaw03.TapePuts': WHATEVER THE INPUT: true; the input reads as it did. -/
def tapePutsSpec : ChangeSpec := { name := "tapePuts", fn := fun _ => fun
  | [d] => { results := [.lit (.bool true)], args := [d] }
  | _ => none }
def tapePutsRow : OpenClaim := { program := "ytpmebmkifdgjcaa", sum := "108cb1922f70468ee1f7efe4bd696970ca1b9a3aeec17b6b3753c4ea9748cb95", func := "bondstore/bondstorelaw03.TapePuts", spec := "tapePuts", apart := false }
def TapePutsSaid : Prop := tapePutsRow.holds Try.pinned (OpenSpec.ofChange tapePutsSpec)

/-- ITS FALSE NEIGHBOUR: 'it returns false'. Refute it at one input. -/
def tapePutsWrong : ChangeSpec := { name := "tapePuts", fn := fun _ => fun
  | [d] => { results := [.lit (.bool false)], args := [d] }
  | _ => none }
def TapePutsWrongFalsely : Prop := tapePutsRow.holds Try.pinned (OpenSpec.ofChange tapePutsWrong)

/- THE SECOND FORM. 'bulk': how many values and letters a reading holds, each counted each time it is reached (what is shared counts as often as it is met; a slice's spare places count too). A statement '..UptoSaid' is the law's where the arguments, and the package variables that the reading takes, are together of bulk at most 1048576: NARROWER than '..Said'. Prove '..Said' where nothing that the law and all that it calls make is longer than what came in: it says more and counts as full. Else prove '..UptoSaid'. A law counts once. -/
mutual
def uptoBulk {H : Type} : DataW H → Nat
  | .lit (.string bytes) => bytes.length + 1
  | .lit _ => 1
  | .nil => 1
  | .ptr d => uptoBulk d + 1
  | .slice elems spare => uptoBulkAll elems + uptoBulkAll spare + 1
  | .agg parts => uptoBulkAll parts + 1
  | .iface _ d => uptoBulk d + 1
  | .map entries => uptoBulkEntries entries + 1
  | .held _ => 1
def uptoBulkAll {H : Type} : List (DataW H) → Nat
  | [] => 0
  | d :: r => uptoBulk d + uptoBulkAll r
def uptoBulkEntries {H : Type} : List (Lit × DataW H) → Nat
  | [] => 0
  | x :: r => uptoBulkEntry x + uptoBulkEntries r
def uptoBulkEntry {H : Type} : Lit × DataW H → Nat
  | (.string bytes, d) => bytes.length + uptoBulk d + 1
  | (_, d) => uptoBulk d + 1
 end
def uptoSmall : (H : Type) → List (DataW H) → Bool := fun _ ds => decide (uptoBulkAll ds ≤ 1048576)
def OpenSpec.upto (s : _root_.Go.ChangeSpec) : _root_.Go.OpenSpec := { _root_.Go.OpenSpec.ofChange s with cond := some uptoSmall }

/-- 'bondstorelaw03.TapeJoins', WHERE WHAT IT READS IS OF BULK AT MOST 1048576: true; the input reads as it did. -/
def tapeJoinsUptoRow : OpenClaim := { program := "ytpmebmkifdgjcaa", sum := "108cb1922f70468ee1f7efe4bd696970ca1b9a3aeec17b6b3753c4ea9748cb95", func := "bondstore/bondstorelaw03.TapeJoins", spec := "tapeJoins", apart := false, narrowed := true }
def TapeJoinsUptoSaid : Prop := tapeJoinsUptoRow.holds Try.pinned (OpenSpec.upto tapeJoinsSpec)

/-- 'bondstorelaw03.TapeTakes', WHERE WHAT IT READS IS OF BULK AT MOST 1048576: true; the input reads as it did. -/
def tapeTakesUptoRow : OpenClaim := { program := "ytpmebmkifdgjcaa", sum := "108cb1922f70468ee1f7efe4bd696970ca1b9a3aeec17b6b3753c4ea9748cb95", func := "bondstore/bondstorelaw03.TapeTakes", spec := "tapeTakes", apart := false, narrowed := true }
def TapeTakesUptoSaid : Prop := tapeTakesUptoRow.holds Try.pinned (OpenSpec.upto tapeTakesSpec)

/-- 'bondstorelaw03.TapeCuts', WHERE WHAT IT READS IS OF BULK AT MOST 1048576: true; the input reads as it did. -/
def tapeCutsUptoRow : OpenClaim := { program := "ytpmebmkifdgjcaa", sum := "108cb1922f70468ee1f7efe4bd696970ca1b9a3aeec17b6b3753c4ea9748cb95", func := "bondstore/bondstorelaw03.TapeCuts", spec := "tapeCuts", apart := false, narrowed := true }
def TapeCutsUptoSaid : Prop := tapeCutsUptoRow.holds Try.pinned (OpenSpec.upto tapeCutsSpec)

/-- 'bondstorelaw03.TapePuts', WHERE WHAT IT READS IS OF BULK AT MOST 1048576: true; the input reads as it did. -/
def tapePutsUptoRow : OpenClaim := { program := "ytpmebmkifdgjcaa", sum := "108cb1922f70468ee1f7efe4bd696970ca1b9a3aeec17b6b3753c4ea9748cb95", func := "bondstore/bondstorelaw03.TapePuts", spec := "tapePuts", apart := false, narrowed := true }
def TapePutsUptoSaid : Prop := tapePutsUptoRow.holds Try.pinned (OpenSpec.upto tapePutsSpec)

end Rows
end Go.Proofs.Ytpmebmkifdgjcaa
