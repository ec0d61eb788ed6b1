/-
  NARROWER THAN 'FOR EVERY INPUT', by the rows' own cells (each row's printed sentence says how): XferChecks: laid · XferKinds: laid · XferAgain: laid · XferSame: laid · XferTakes: laid · XferBytes: laid.
  DERIVED. THE GIVEN ROWS OF THIS SEAT. 6 by the template 'for every input the law returns true; each argument reads behind the call as it read before'; 0 by the template 'total and deterministic' (their statements: YtiabpnhkihbkjaaDoorTotals.lean).
  GIVEN WITH THE SEED: the statements are not yours to turn. If you find one false, say at which input.
  Laid BY PROGRAM, IN A SANDBOX (cutbox-rows.mjs): the forced cells as the released guide's own fill.sh prints them over the translation a4ebdbd808faf8fe… (all of the seat's roots in one cut). By AI agents, Wed Nov 11 2026. No macro, syntax, notation, axiom, sorry.
-/
import Derived.Test.YtiabpnhkihbkjaaDoorChecked
import GoSem.Claim
import GoSem.ClaimJoined
import GoSem.ClaimMapViews
import Derived.JoinedTies
import Derived.KernelRfl
namespace Go.Proofs.YtiabpnhkihbkjaaDoor
/- THE CELL 'sum', in the pinned program and in every row, IS THE sha256 OF THE DUMP (.gsa) THAT YtiabpnhkihbkjaaDoorProg.lean LOADS. Nothing in Lean hashes anything: it is a label: what it is worth is what the hold of that sum in a sandbox is worth. -/
noncomputable def Tryd.pinned : Pinned := { name := "ytiabpnhkihbkjaadoor", sum := "a4ebdbd808faf8fea0a446f044278ddaceaf049721c085d4e0945001b96d4c50", checked := Tryd.checked }
namespace Rows
def none {H : Type} : Left H := { results := [], args := [] }

/- WHAT THE LISTED PACKAGE-LEVEL VARIABLES READ AS WHEN THE CALL BEGINS. Each datum BY PROGRAM (the guide's laid-datum.mjs) off the statement by which the dump's own 'gosem.cut.vars' lays the variable. In a bare row this is a premise. The card (YtiabpnhkihbkjaaDoorCards.lean) ties it to the program's text. -/
def laid_bondstore_wide_Most {H : Type} : DataW H := .agg [.lit (.int .u64 18446744073709551615), .lit (.int .u64 18446744073709551615)]

/-- 'bondstorelaw10.XferChecks': WHATEVER THE INPUT: true; the input reads as it did. -/
def xferChecksSpec : ChangeSpec := { name := "xferChecks", fn := fun _ => fun
  | [d] => { results := [.lit (.bool true)], args := [d] }
  | _ => none }
def xferChecksRow : OpenClaim := { program := "ytiabpnhkihbkjaadoor", sum := "a4ebdbd808faf8fea0a446f044278ddaceaf049721c085d4e0945001b96d4c50", func := "bondstore/bondstorelaw10.XferChecks", spec := "xferChecks", named := ["bondstore/wide.Most"], apart := false, laid := [("bondstore/wide.Most", laid_bondstore_wide_Most)] }
def XferChecksSaid : Prop := xferChecksRow.holds Tryd.pinned (OpenSpec.ofChange xferChecksSpec)

/-- ITS FALSE NEIGHBOUR: 'it returns false'. Refute it at one input. -/
def xferChecksWrong : ChangeSpec := { name := "xferChecks", fn := fun _ => fun
  | [d] => { results := [.lit (.bool false)], args := [d] }
  | _ => none }
def XferChecksWrongFalsely : Prop := xferChecksRow.holds Tryd.pinned (OpenSpec.ofChange xferChecksWrong)

/-- 'bondstorelaw10.XferKinds': WHATEVER THE INPUT: true; the input reads as it did. -/
def xferKindsSpec : ChangeSpec := { name := "xferKinds", fn := fun _ => fun
  | [d] => { results := [.lit (.bool true)], args := [d] }
  | _ => none }
def xferKindsRow : OpenClaim := { program := "ytiabpnhkihbkjaadoor", sum := "a4ebdbd808faf8fea0a446f044278ddaceaf049721c085d4e0945001b96d4c50", func := "bondstore/bondstorelaw10.XferKinds", spec := "xferKinds", named := ["bondstore/wide.Most"], apart := false, laid := [("bondstore/wide.Most", laid_bondstore_wide_Most)] }
def XferKindsSaid : Prop := xferKindsRow.holds Tryd.pinned (OpenSpec.ofChange xferKindsSpec)

/-- ITS FALSE NEIGHBOUR: 'it returns false'. Refute it at one input. -/
def xferKindsWrong : ChangeSpec := { name := "xferKinds", fn := fun _ => fun
  | [d] => { results := [.lit (.bool false)], args := [d] }
  | _ => none }
def XferKindsWrongFalsely : Prop := xferKindsRow.holds Tryd.pinned (OpenSpec.ofChange xferKindsWrong)

/-- 'bondstorelaw10.XferAgain': WHATEVER THE INPUT: true; the input reads as it did. -/
def xferAgainSpec : ChangeSpec := { name := "xferAgain", fn := fun _ => fun
  | [d1, d2] => { results := [.lit (.bool true)], args := [d1, d2] }
  | _ => none }
def xferAgainRow : OpenClaim := { program := "ytiabpnhkihbkjaadoor", sum := "a4ebdbd808faf8fea0a446f044278ddaceaf049721c085d4e0945001b96d4c50", func := "bondstore/bondstorelaw10.XferAgain", spec := "xferAgain", named := ["bondstore/wide.Most"], apart := false, laid := [("bondstore/wide.Most", laid_bondstore_wide_Most)] }
def XferAgainSaid : Prop := xferAgainRow.holds Tryd.pinned (OpenSpec.ofChange xferAgainSpec)

/-- ITS FALSE NEIGHBOUR: 'it returns false'. Refute it at one input. -/
def xferAgainWrong : ChangeSpec := { name := "xferAgain", fn := fun _ => fun
  | [d1, d2] => { results := [.lit (.bool false)], args := [d1, d2] }
  | _ => none }
def XferAgainWrongFalsely : Prop := xferAgainRow.holds Tryd.pinned (OpenSpec.ofChange xferAgainWrong)

/-- 'bondstorelaw10.XferSame': WHATEVER THE INPUT: true; the input reads as it did. -/
def xferSameSpec : ChangeSpec := { name := "xferSame", fn := fun _ => fun
  | [d1, d2] => { results := [.lit (.bool true)], args := [d1, d2] }
  | _ => none }
def xferSameRow : OpenClaim := { program := "ytiabpnhkihbkjaadoor", sum := "a4ebdbd808faf8fea0a446f044278ddaceaf049721c085d4e0945001b96d4c50", func := "bondstore/bondstorelaw10.XferSame", spec := "xferSame", named := ["bondstore/wide.Most"], apart := false, laid := [("bondstore/wide.Most", laid_bondstore_wide_Most)] }
def XferSameSaid : Prop := xferSameRow.holds Tryd.pinned (OpenSpec.ofChange xferSameSpec)

/-- ITS FALSE NEIGHBOUR: 'it returns false'. Refute it at one input. -/
def xferSameWrong : ChangeSpec := { name := "xferSame", fn := fun _ => fun
  | [d1, d2] => { results := [.lit (.bool false)], args := [d1, d2] }
  | _ => none }
def XferSameWrongFalsely : Prop := xferSameRow.holds Tryd.pinned (OpenSpec.ofChange xferSameWrong)

/-- 'bondstorelaw10.XferTakes': WHATEVER THE INPUT: true; the input reads as it did. -/
def xferTakesSpec : ChangeSpec := { name := "xferTakes", fn := fun _ => fun
  | [d] => { results := [.lit (.bool true)], args := [d] }
  | _ => none }
def xferTakesRow : OpenClaim := { program := "ytiabpnhkihbkjaadoor", sum := "a4ebdbd808faf8fea0a446f044278ddaceaf049721c085d4e0945001b96d4c50", func := "bondstore/bondstorelaw10.XferTakes", spec := "xferTakes", named := ["bondstore/wide.Most"], apart := false, laid := [("bondstore/wide.Most", laid_bondstore_wide_Most)] }
def XferTakesSaid : Prop := xferTakesRow.holds Tryd.pinned (OpenSpec.ofChange xferTakesSpec)

/-- ITS FALSE NEIGHBOUR: 'it returns false'. Refute it at one input. -/
def xferTakesWrong : ChangeSpec := { name := "xferTakes", fn := fun _ => fun
  | [d] => { results := [.lit (.bool false)], args := [d] }
  | _ => none }
def XferTakesWrongFalsely : Prop := xferTakesRow.holds Tryd.pinned (OpenSpec.ofChange xferTakesWrong)

/-- 'bondstorelaw10.XferBytes': WHATEVER THE INPUT: true; the input reads as it did. -/
def xferBytesSpec : ChangeSpec := { name := "xferBytes", fn := fun _ => fun
  | [d1, d2] => { results := [.lit (.bool true)], args := [d1, d2] }
  | _ => none }
def xferBytesRow : OpenClaim := { program := "ytiabpnhkihbkjaadoor", sum := "a4ebdbd808faf8fea0a446f044278ddaceaf049721c085d4e0945001b96d4c50", func := "bondstore/bondstorelaw10.XferBytes", spec := "xferBytes", named := ["bondstore/wide.Most"], apart := false, laid := [("bondstore/wide.Most", laid_bondstore_wide_Most)] }
def XferBytesSaid : Prop := xferBytesRow.holds Tryd.pinned (OpenSpec.ofChange xferBytesSpec)

/-- ITS FALSE NEIGHBOUR: 'it returns false'. Refute it at one input. -/
def xferBytesWrong : ChangeSpec := { name := "xferBytes", fn := fun _ => fun
  | [d1, d2] => { results := [.lit (.bool false)], args := [d1, d2] }
  | _ => none }
def XferBytesWrongFalsely : Prop := xferBytesRow.holds Tryd.pinned (OpenSpec.ofChange xferBytesWrong)

/- THE SECOND FORM. 'bulk': how many values and letters a reading holds, each counted each time it is reached (what is shared counts as often as it is met; a slice's spare places count too). A statement '..UptoSaid' is the law's where the arguments, and the package variables that the reading takes, are together of bulk at most 1048576: NARROWER than '..Said'. Prove '..Said' where nothing that the law and all that it calls make is longer than what came in: it says more and counts as full. Else prove '..UptoSaid'. A law counts once. -/
mutual
def uptoBulk {H : Type} : DataW H → Nat
  | .lit (.string bytes) => bytes.length + 1
  | .lit _ => 1
  | .nil => 1
  | .ptr d => uptoBulk d + 1
  | .slice elems spare => uptoBulkAll elems + uptoBulkAll spare + 1
  | .agg parts => uptoBulkAll parts + 1
  | .iface _ d => uptoBulk d + 1
  | .map entries => uptoBulkEntries entries + 1
  | .held _ => 1
def uptoBulkAll {H : Type} : List (DataW H) → Nat
  | [] => 0
  | d :: r => uptoBulk d + uptoBulkAll r
def uptoBulkEntries {H : Type} : List (Lit × DataW H) → Nat
  | [] => 0
  | x :: r => uptoBulkEntry x + uptoBulkEntries r
def uptoBulkEntry {H : Type} : Lit × DataW H → Nat
  | (.string bytes, d) => bytes.length + uptoBulk d + 1
  | (_, d) => uptoBulk d + 1
 end
def uptoSmall : (H : Type) → List (DataW H) → Bool := fun _ ds => decide (uptoBulkAll ds ≤ 1048576)
def OpenSpec.upto (s : _root_.Go.ChangeSpec) : _root_.Go.OpenSpec := { _root_.Go.OpenSpec.ofChange s with cond := some uptoSmall }

/-- 'bondstorelaw10.XferChecks', WHERE WHAT IT READS IS OF BULK AT MOST 1048576: true; the input reads as it did. -/
def xferChecksUptoRow : OpenClaim := { program := "ytiabpnhkihbkjaadoor", sum := "a4ebdbd808faf8fea0a446f044278ddaceaf049721c085d4e0945001b96d4c50", func := "bondstore/bondstorelaw10.XferChecks", spec := "xferChecks", named := ["bondstore/wide.Most"], apart := false, laid := [("bondstore/wide.Most", laid_bondstore_wide_Most)], narrowed := true }
def XferChecksUptoSaid : Prop := xferChecksUptoRow.holds Tryd.pinned (OpenSpec.upto xferChecksSpec)

/-- 'bondstorelaw10.XferKinds', WHERE WHAT IT READS IS OF BULK AT MOST 1048576: true; the input reads as it did. -/
def xferKindsUptoRow : OpenClaim := { program := "ytiabpnhkihbkjaadoor", sum := "a4ebdbd808faf8fea0a446f044278ddaceaf049721c085d4e0945001b96d4c50", func := "bondstore/bondstorelaw10.XferKinds", spec := "xferKinds", named := ["bondstore/wide.Most"], apart := false, laid := [("bondstore/wide.Most", laid_bondstore_wide_Most)], narrowed := true }
def XferKindsUptoSaid : Prop := xferKindsUptoRow.holds Tryd.pinned (OpenSpec.upto xferKindsSpec)

/-- 'bondstorelaw10.XferAgain', WHERE WHAT IT READS IS OF BULK AT MOST 1048576: true; the input reads as it did. -/
def xferAgainUptoRow : OpenClaim := { program := "ytiabpnhkihbkjaadoor", sum := "a4ebdbd808faf8fea0a446f044278ddaceaf049721c085d4e0945001b96d4c50", func := "bondstore/bondstorelaw10.XferAgain", spec := "xferAgain", named := ["bondstore/wide.Most"], apart := false, laid := [("bondstore/wide.Most", laid_bondstore_wide_Most)], narrowed := true }
def XferAgainUptoSaid : Prop := xferAgainUptoRow.holds Tryd.pinned (OpenSpec.upto xferAgainSpec)

/-- 'bondstorelaw10.XferSame', WHERE WHAT IT READS IS OF BULK AT MOST 1048576: true; the input reads as it did. -/
def xferSameUptoRow : OpenClaim := { program := "ytiabpnhkihbkjaadoor", sum := "a4ebdbd808faf8fea0a446f044278ddaceaf049721c085d4e0945001b96d4c50", func := "bondstore/bondstorelaw10.XferSame", spec := "xferSame", named := ["bondstore/wide.Most"], apart := false, laid := [("bondstore/wide.Most", laid_bondstore_wide_Most)], narrowed := true }
def XferSameUptoSaid : Prop := xferSameUptoRow.holds Tryd.pinned (OpenSpec.upto xferSameSpec)

/-- 'bondstorelaw10.XferTakes', WHERE WHAT IT READS IS OF BULK AT MOST 1048576: true; the input reads as it did. -/
def xferTakesUptoRow : OpenClaim := { program := "ytiabpnhkihbkjaadoor", sum := "a4ebdbd808faf8fea0a446f044278ddaceaf049721c085d4e0945001b96d4c50", func := "bondstore/bondstorelaw10.XferTakes", spec := "xferTakes", named := ["bondstore/wide.Most"], apart := false, laid := [("bondstore/wide.Most", laid_bondstore_wide_Most)], narrowed := true }
def XferTakesUptoSaid : Prop := xferTakesUptoRow.holds Tryd.pinned (OpenSpec.upto xferTakesSpec)

/-- 'bondstorelaw10.XferBytes', WHERE WHAT IT READS IS OF BULK AT MOST 1048576: true; the input reads as it did. -/
def xferBytesUptoRow : OpenClaim := { program := "ytiabpnhkihbkjaadoor", sum := "a4ebdbd808faf8fea0a446f044278ddaceaf049721c085d4e0945001b96d4c50", func := "bondstore/bondstorelaw10.XferBytes", spec := "xferBytes", named := ["bondstore/wide.Most"], apart := false, laid := [("bondstore/wide.Most", laid_bondstore_wide_Most)], narrowed := true }
def XferBytesUptoSaid : Prop := xferBytesUptoRow.holds Tryd.pinned (OpenSpec.upto xferBytesSpec)

end Rows
end Go.Proofs.YtiabpnhkihbkjaaDoor
