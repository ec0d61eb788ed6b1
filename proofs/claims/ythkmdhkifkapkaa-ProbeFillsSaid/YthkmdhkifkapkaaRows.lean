/-
  No cell of these rows narrows 'for every input' (looked for: loops, veiled, ifaces, maps, wideKeys, modest, calm, conditions, laid).
  DERIVED. THE GIVEN ROWS OF THIS SEAT. 3 by the template 'for every input the law returns true; each argument reads behind the call as it read before'; 0 by the template 'total and deterministic' (their statements: YthkmdhkifkapkaaTotals.lean).
  GIVEN WITH THE SEED: the statements are not yours to turn. If you find one false, say at which input.
  Laid BY PROGRAM, IN A SANDBOX (cutbox-rows.mjs): the forced cells as the released guide's own fill.sh prints them over the translation 5ca5247b50abff32… (all of the seat's roots in one cut). By AI agents, Wed Nov 11 2026. No macro, syntax, notation, axiom, sorry.
-/
import Derived.Test.YthkmdhkifkapkaaChecked
import GoSem.Claim
import GoSem.ClaimJoined
import GoSem.ClaimMapViews
import Derived.JoinedTies
import Derived.KernelRfl
namespace Go.Proofs.Ythkmdhkifkapkaa
/- THE CELL 'sum', in the pinned program and in every row, IS THE sha256 OF THE DUMP (.gsa) THAT YthkmdhkifkapkaaProg.lean LOADS. Nothing in Lean hashes anything: it is a label: what it is worth is what the hold of that sum in a sandbox is worth. -/
noncomputable def Try.pinned : Pinned := { name := "ythkmdhkifkapkaa", sum := "5ca5247b50abff32cfd4b03f3b82480744452a701ba9d4e08ba2feb7ed98df61", checked := Try.checked }
namespace Rows
def none {H : Type} : Left H := { results := [], args := [] }

/-- 'bondstorelaw11.ProbeApart': WHATEVER THE INPUT: true; the input reads as it did. -/
def probeApartSpec : ChangeSpec := { name := "probeApart", fn := fun _ => fun
  | [d1, d2] => { results := [.lit (.bool true)], args := [d1, d2] }
  | _ => none }
def probeApartRow : OpenClaim := { program := "ythkmdhkifkapkaa", sum := "5ca5247b50abff32cfd4b03f3b82480744452a701ba9d4e08ba2feb7ed98df61", func := "bondstore/bondstorelaw11.ProbeApart", spec := "probeApart", plainKeys := false, apart := false }
def ProbeApartSaid : Prop := probeApartRow.holds Try.pinned (OpenSpec.ofChange probeApartSpec)

/-- ITS FALSE NEIGHBOUR: 'it returns false'. Refute it at one input. -/
def probeApartWrong : ChangeSpec := { name := "probeApart", fn := fun _ => fun
  | [d1, d2] => { results := [.lit (.bool false)], args := [d1, d2] }
  | _ => none }
def ProbeApartWrongFalsely : Prop := probeApartRow.holds Try.pinned (OpenSpec.ofChange probeApartWrong)

/-- 'bondstorelaw11.ProbeFills': WHATEVER THE INPUT: true; the input reads as it did. -/
def probeFillsSpec : ChangeSpec := { name := "probeFills", fn := fun _ => fun
  | [d1, d2] => { results := [.lit (.bool true)], args := [d1, d2] }
  | _ => none }
def probeFillsRow : OpenClaim := { program := "ythkmdhkifkapkaa", sum := "5ca5247b50abff32cfd4b03f3b82480744452a701ba9d4e08ba2feb7ed98df61", func := "bondstore/bondstorelaw11.ProbeFills", spec := "probeFills", plainKeys := false, apart := false }
def ProbeFillsSaid : Prop := probeFillsRow.holds Try.pinned (OpenSpec.ofChange probeFillsSpec)

/-- ITS FALSE NEIGHBOUR: 'it returns false'. Refute it at one input. -/
def probeFillsWrong : ChangeSpec := { name := "probeFills", fn := fun _ => fun
  | [d1, d2] => { results := [.lit (.bool false)], args := [d1, d2] }
  | _ => none }
def ProbeFillsWrongFalsely : Prop := probeFillsRow.holds Try.pinned (OpenSpec.ofChange probeFillsWrong)

/-- 'bondstorelaw11.ProbeDoes': WHATEVER THE INPUT: true; the input reads as it did. -/
def probeDoesSpec : ChangeSpec := { name := "probeDoes", fn := fun _ => fun
  | [d] => { results := [.lit (.bool true)], args := [d] }
  | _ => none }
def probeDoesRow : OpenClaim := { program := "ythkmdhkifkapkaa", sum := "5ca5247b50abff32cfd4b03f3b82480744452a701ba9d4e08ba2feb7ed98df61", func := "bondstore/bondstorelaw11.ProbeDoes", spec := "probeDoes", plainKeys := false, apart := false }
def ProbeDoesSaid : Prop := probeDoesRow.holds Try.pinned (OpenSpec.ofChange probeDoesSpec)

/-- ITS FALSE NEIGHBOUR: 'it returns false'. Refute it at one input. -/
def probeDoesWrong : ChangeSpec := { name := "probeDoes", fn := fun _ => fun
  | [d] => { results := [.lit (.bool false)], args := [d] }
  | _ => none }
def ProbeDoesWrongFalsely : Prop := probeDoesRow.holds Try.pinned (OpenSpec.ofChange probeDoesWrong)

/- THE SECOND FORM. 'bulk': how many values and letters a reading holds, each counted each time it is reached (what is shared counts as often as it is met; a slice's spare places count too). A statement '..UptoSaid' is the law's where the arguments, and the package variables that the reading takes, are together of bulk at most 1048576: NARROWER than '..Said'. Prove '..Said' where nothing that the law and all that it calls make is longer than what came in: it says more and counts as full. Else prove '..UptoSaid'. A law counts once. -/
mutual
def uptoBulk {H : Type} : DataW H → Nat
  | .lit (.string bytes) => bytes.length + 1
  | .lit _ => 1
  | .nil => 1
  | .ptr d => uptoBulk d + 1
  | .slice elems spare => uptoBulkAll elems + uptoBulkAll spare + 1
  | .agg parts => uptoBulkAll parts + 1
  | .iface _ d => uptoBulk d + 1
  | .map entries => uptoBulkEntries entries + 1
  | .held _ => 1
def uptoBulkAll {H : Type} : List (DataW H) → Nat
  | [] => 0
  | d :: r => uptoBulk d + uptoBulkAll r
def uptoBulkEntries {H : Type} : List (Lit × DataW H) → Nat
  | [] => 0
  | x :: r => uptoBulkEntry x + uptoBulkEntries r
def uptoBulkEntry {H : Type} : Lit × DataW H → Nat
  | (.string bytes, d) => bytes.length + uptoBulk d + 1
  | (_, d) => uptoBulk d + 1
 end
def uptoSmall : (H : Type) → List (DataW H) → Bool := fun _ ds => decide (uptoBulkAll ds ≤ 1048576)
def OpenSpec.upto (s : _root_.Go.ChangeSpec) : _root_.Go.OpenSpec := { _root_.Go.OpenSpec.ofChange s with cond := some uptoSmall }

/-- 'bondstorelaw11.ProbeApart', WHERE WHAT IT READS IS OF BULK AT MOST 1048576: true; the input reads as it did. -/
def probeApartUptoRow : OpenClaim := { program := "ythkmdhkifkapkaa", sum := "5ca5247b50abff32cfd4b03f3b82480744452a701ba9d4e08ba2feb7ed98df61", func := "bondstore/bondstorelaw11.ProbeApart", spec := "probeApart", plainKeys := false, apart := false, narrowed := true }
def ProbeApartUptoSaid : Prop := probeApartUptoRow.holds Try.pinned (OpenSpec.upto probeApartSpec)

/-- 'bondstorelaw11.ProbeFills', WHERE WHAT IT READS IS OF BULK AT MOST 1048576: true; the input reads as it did. -/
def probeFillsUptoRow : OpenClaim := { program := "ythkmdhkifkapkaa", sum := "5ca5247b50abff32cfd4b03f3b82480744452a701ba9d4e08ba2feb7ed98df61", func := "bondstore/bondstorelaw11.ProbeFills", spec := "probeFills", plainKeys := false, apart := false, narrowed := true }
def ProbeFillsUptoSaid : Prop := probeFillsUptoRow.holds Try.pinned (OpenSpec.upto probeFillsSpec)

/-- 'bondstorelaw11.ProbeDoes', WHERE WHAT IT READS IS OF BULK AT MOST 1048576: true; the input reads as it did. -/
def probeDoesUptoRow : OpenClaim := { program := "ythkmdhkifkapkaa", sum := "5ca5247b50abff32cfd4b03f3b82480744452a701ba9d4e08ba2feb7ed98df61", func := "bondstore/bondstorelaw11.ProbeDoes", spec := "probeDoes", plainKeys := false, apart := false, narrowed := true }
def ProbeDoesUptoSaid : Prop := probeDoesUptoRow.holds Try.pinned (OpenSpec.upto probeDoesSpec)

end Rows
end Go.Proofs.Ythkmdhkifkapkaa
