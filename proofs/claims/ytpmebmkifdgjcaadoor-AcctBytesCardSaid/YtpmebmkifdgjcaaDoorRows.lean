/-
  NARROWER THAN 'FOR EVERY INPUT', by the rows' own cells (each row's printed sentence says how): AcctChecks: laid · AcctAgain: laid · AcctSame: laid · AcctTakes: laid · AcctBytes: laid.
  DERIVED. THE GIVEN ROWS OF THIS SEAT. 5 by the template 'for every input the law returns true; each argument reads behind the call as it read before'; 0 by the template 'total and deterministic' (their statements: YtpmebmkifdgjcaaDoorTotals.lean).
  GIVEN WITH THE SEED: the statements are not yours to turn. If you find one false, say at which input.
  Laid BY PROGRAM, IN A SANDBOX (cutbox-rows.mjs): the forced cells as the released guide's own fill.sh prints them over the translation 0ed1eccf541b89bd… (all of the seat's roots in one cut). By AI agents, Wed Nov 11 2026. No macro, syntax, notation, axiom, sorry.
-/
import Derived.Test.YtpmebmkifdgjcaaDoorChecked
import GoSem.Claim
import GoSem.ClaimJoined
import GoSem.ClaimMapViews
import Derived.JoinedTies
import Derived.KernelRfl
namespace Go.Proofs.YtpmebmkifdgjcaaDoor
/- THE CELL 'sum', in the pinned program and in every row, IS THE sha256 OF THE DUMP (.gsa) THAT YtpmebmkifdgjcaaDoorProg.lean LOADS. Nothing in Lean hashes anything: it is a label: what it is worth is what the hold of that sum in a sandbox is worth. -/
noncomputable def Tryd.pinned : Pinned := { name := "ytpmebmkifdgjcaadoor", sum := "0ed1eccf541b89bd96b5ace0aac8121a920ef3d4b4b29391979f716b8b0b5e5a", checked := Tryd.checked }
namespace Rows
def none {H : Type} : Left H := { results := [], args := [] }

/- WHAT THE LISTED PACKAGE-LEVEL VARIABLES READ AS WHEN THE CALL BEGINS. Each datum BY PROGRAM (the guide's laid-datum.mjs) off the statement by which the dump's own 'gosem.cut.vars' lays the variable. In a bare row this is a premise. The card (YtpmebmkifdgjcaaDoorCards.lean) ties it to the program's text. -/
def laid_bondstore_wide_Most {H : Type} : DataW H := .agg [.lit (.int .u64 18446744073709551615), .lit (.int .u64 18446744073709551615)]

/-- 'bondstorelaw09.AcctChecks': WHATEVER THE INPUT: true; the input reads as it did. -/
def acctChecksSpec : ChangeSpec := { name := "acctChecks", fn := fun _ => fun
  | [d] => { results := [.lit (.bool true)], args := [d] }
  | _ => none }
def acctChecksRow : OpenClaim := { program := "ytpmebmkifdgjcaadoor", sum := "0ed1eccf541b89bd96b5ace0aac8121a920ef3d4b4b29391979f716b8b0b5e5a", func := "bondstore/bondstorelaw09.AcctChecks", spec := "acctChecks", named := ["bondstore/wide.Most"], apart := false, laid := [("bondstore/wide.Most", laid_bondstore_wide_Most)] }
def AcctChecksSaid : Prop := acctChecksRow.holds Tryd.pinned (OpenSpec.ofChange acctChecksSpec)

/-- ITS FALSE NEIGHBOUR: 'it returns false'. Refute it at one input. -/
def acctChecksWrong : ChangeSpec := { name := "acctChecks", fn := fun _ => fun
  | [d] => { results := [.lit (.bool false)], args := [d] }
  | _ => none }
def AcctChecksWrongFalsely : Prop := acctChecksRow.holds Tryd.pinned (OpenSpec.ofChange acctChecksWrong)

/-- 'bondstorelaw09.AcctAgain': WHATEVER THE INPUT: true; the input reads as it did. -/
def acctAgainSpec : ChangeSpec := { name := "acctAgain", fn := fun _ => fun
  | [d1, d2] => { results := [.lit (.bool true)], args := [d1, d2] }
  | _ => none }
def acctAgainRow : OpenClaim := { program := "ytpmebmkifdgjcaadoor", sum := "0ed1eccf541b89bd96b5ace0aac8121a920ef3d4b4b29391979f716b8b0b5e5a", func := "bondstore/bondstorelaw09.AcctAgain", spec := "acctAgain", named := ["bondstore/wide.Most"], apart := false, laid := [("bondstore/wide.Most", laid_bondstore_wide_Most)] }
def AcctAgainSaid : Prop := acctAgainRow.holds Tryd.pinned (OpenSpec.ofChange acctAgainSpec)

/-- ITS FALSE NEIGHBOUR: 'it returns false'. Refute it at one input. -/
def acctAgainWrong : ChangeSpec := { name := "acctAgain", fn := fun _ => fun
  | [d1, d2] => { results := [.lit (.bool false)], args := [d1, d2] }
  | _ => none }
def AcctAgainWrongFalsely : Prop := acctAgainRow.holds Tryd.pinned (OpenSpec.ofChange acctAgainWrong)

/-- 'bondstorelaw09.AcctSame': WHATEVER THE INPUT: true; the input reads as it did. -/
def acctSameSpec : ChangeSpec := { name := "acctSame", fn := fun _ => fun
  | [d1, d2] => { results := [.lit (.bool true)], args := [d1, d2] }
  | _ => none }
def acctSameRow : OpenClaim := { program := "ytpmebmkifdgjcaadoor", sum := "0ed1eccf541b89bd96b5ace0aac8121a920ef3d4b4b29391979f716b8b0b5e5a", func := "bondstore/bondstorelaw09.AcctSame", spec := "acctSame", named := ["bondstore/wide.Most"], apart := false, laid := [("bondstore/wide.Most", laid_bondstore_wide_Most)] }
def AcctSameSaid : Prop := acctSameRow.holds Tryd.pinned (OpenSpec.ofChange acctSameSpec)

/-- ITS FALSE NEIGHBOUR: 'it returns false'. Refute it at one input. -/
def acctSameWrong : ChangeSpec := { name := "acctSame", fn := fun _ => fun
  | [d1, d2] => { results := [.lit (.bool false)], args := [d1, d2] }
  | _ => none }
def AcctSameWrongFalsely : Prop := acctSameRow.holds Tryd.pinned (OpenSpec.ofChange acctSameWrong)

/-- 'bondstorelaw09.AcctTakes': WHATEVER THE INPUT: true; the input reads as it did. -/
def acctTakesSpec : ChangeSpec := { name := "acctTakes", fn := fun _ => fun
  | [d] => { results := [.lit (.bool true)], args := [d] }
  | _ => none }
def acctTakesRow : OpenClaim := { program := "ytpmebmkifdgjcaadoor", sum := "0ed1eccf541b89bd96b5ace0aac8121a920ef3d4b4b29391979f716b8b0b5e5a", func := "bondstore/bondstorelaw09.AcctTakes", spec := "acctTakes", named := ["bondstore/wide.Most"], apart := false, laid := [("bondstore/wide.Most", laid_bondstore_wide_Most)] }
def AcctTakesSaid : Prop := acctTakesRow.holds Tryd.pinned (OpenSpec.ofChange acctTakesSpec)

/-- ITS FALSE NEIGHBOUR: 'it returns false'. Refute it at one input. -/
def acctTakesWrong : ChangeSpec := { name := "acctTakes", fn := fun _ => fun
  | [d] => { results := [.lit (.bool false)], args := [d] }
  | _ => none }
def AcctTakesWrongFalsely : Prop := acctTakesRow.holds Tryd.pinned (OpenSpec.ofChange acctTakesWrong)

/-- 'bondstorelaw09.AcctBytes': WHATEVER THE INPUT: true; the input reads as it did. -/
def acctBytesSpec : ChangeSpec := { name := "acctBytes", fn := fun _ => fun
  | [d1, d2] => { results := [.lit (.bool true)], args := [d1, d2] }
  | _ => none }
def acctBytesRow : OpenClaim := { program := "ytpmebmkifdgjcaadoor", sum := "0ed1eccf541b89bd96b5ace0aac8121a920ef3d4b4b29391979f716b8b0b5e5a", func := "bondstore/bondstorelaw09.AcctBytes", spec := "acctBytes", named := ["bondstore/wide.Most"], apart := false, laid := [("bondstore/wide.Most", laid_bondstore_wide_Most)] }
def AcctBytesSaid : Prop := acctBytesRow.holds Tryd.pinned (OpenSpec.ofChange acctBytesSpec)

/-- ITS FALSE NEIGHBOUR: 'it returns false'. Refute it at one input. -/
def acctBytesWrong : ChangeSpec := { name := "acctBytes", fn := fun _ => fun
  | [d1, d2] => { results := [.lit (.bool false)], args := [d1, d2] }
  | _ => none }
def AcctBytesWrongFalsely : Prop := acctBytesRow.holds Tryd.pinned (OpenSpec.ofChange acctBytesWrong)

/- THE SECOND FORM. 'bulk': how many values and letters a reading holds, each counted each time it is reached (what is shared counts as often as it is met; a slice's spare places count too). A statement '..UptoSaid' is the law's where the arguments, and the package variables that the reading takes, are together of bulk at most 1048576: NARROWER than '..Said'. Prove '..Said' where nothing that the law and all that it calls make is longer than what came in: it says more and counts as full. Else prove '..UptoSaid'. A law counts once. -/
mutual
def uptoBulk {H : Type} : DataW H → Nat
  | .lit (.string bytes) => bytes.length + 1
  | .lit _ => 1
  | .nil => 1
  | .ptr d => uptoBulk d + 1
  | .slice elems spare => uptoBulkAll elems + uptoBulkAll spare + 1
  | .agg parts => uptoBulkAll parts + 1
  | .iface _ d => uptoBulk d + 1
  | .map entries => uptoBulkEntries entries + 1
  | .held _ => 1
def uptoBulkAll {H : Type} : List (DataW H) → Nat
  | [] => 0
  | d :: r => uptoBulk d + uptoBulkAll r
def uptoBulkEntries {H : Type} : List (Lit × DataW H) → Nat
  | [] => 0
  | x :: r => uptoBulkEntry x + uptoBulkEntries r
def uptoBulkEntry {H : Type} : Lit × DataW H → Nat
  | (.string bytes, d) => bytes.length + uptoBulk d + 1
  | (_, d) => uptoBulk d + 1
 end
def uptoSmall : (H : Type) → List (DataW H) → Bool := fun _ ds => decide (uptoBulkAll ds ≤ 1048576)
def OpenSpec.upto (s : _root_.Go.ChangeSpec) : _root_.Go.OpenSpec := { _root_.Go.OpenSpec.ofChange s with cond := some uptoSmall }

/-- 'bondstorelaw09.AcctChecks', WHERE WHAT IT READS IS OF BULK AT MOST 1048576: true; the input reads as it did. -/
def acctChecksUptoRow : OpenClaim := { program := "ytpmebmkifdgjcaadoor", sum := "0ed1eccf541b89bd96b5ace0aac8121a920ef3d4b4b29391979f716b8b0b5e5a", func := "bondstore/bondstorelaw09.AcctChecks", spec := "acctChecks", named := ["bondstore/wide.Most"], apart := false, laid := [("bondstore/wide.Most", laid_bondstore_wide_Most)], narrowed := true }
def AcctChecksUptoSaid : Prop := acctChecksUptoRow.holds Tryd.pinned (OpenSpec.upto acctChecksSpec)

/-- 'bondstorelaw09.AcctAgain', WHERE WHAT IT READS IS OF BULK AT MOST 1048576: true; the input reads as it did. -/
def acctAgainUptoRow : OpenClaim := { program := "ytpmebmkifdgjcaadoor", sum := "0ed1eccf541b89bd96b5ace0aac8121a920ef3d4b4b29391979f716b8b0b5e5a", func := "bondstore/bondstorelaw09.AcctAgain", spec := "acctAgain", named := ["bondstore/wide.Most"], apart := false, laid := [("bondstore/wide.Most", laid_bondstore_wide_Most)], narrowed := true }
def AcctAgainUptoSaid : Prop := acctAgainUptoRow.holds Tryd.pinned (OpenSpec.upto acctAgainSpec)

/-- 'bondstorelaw09.AcctSame', WHERE WHAT IT READS IS OF BULK AT MOST 1048576: true; the input reads as it did. -/
def acctSameUptoRow : OpenClaim := { program := "ytpmebmkifdgjcaadoor", sum := "0ed1eccf541b89bd96b5ace0aac8121a920ef3d4b4b29391979f716b8b0b5e5a", func := "bondstore/bondstorelaw09.AcctSame", spec := "acctSame", named := ["bondstore/wide.Most"], apart := false, laid := [("bondstore/wide.Most", laid_bondstore_wide_Most)], narrowed := true }
def AcctSameUptoSaid : Prop := acctSameUptoRow.holds Tryd.pinned (OpenSpec.upto acctSameSpec)

/-- 'bondstorelaw09.AcctTakes', WHERE WHAT IT READS IS OF BULK AT MOST 1048576: true; the input reads as it did. -/
def acctTakesUptoRow : OpenClaim := { program := "ytpmebmkifdgjcaadoor", sum := "0ed1eccf541b89bd96b5ace0aac8121a920ef3d4b4b29391979f716b8b0b5e5a", func := "bondstore/bondstorelaw09.AcctTakes", spec := "acctTakes", named := ["bondstore/wide.Most"], apart := false, laid := [("bondstore/wide.Most", laid_bondstore_wide_Most)], narrowed := true }
def AcctTakesUptoSaid : Prop := acctTakesUptoRow.holds Tryd.pinned (OpenSpec.upto acctTakesSpec)

/-- 'bondstorelaw09.AcctBytes', WHERE WHAT IT READS IS OF BULK AT MOST 1048576: true; the input reads as it did. -/
def acctBytesUptoRow : OpenClaim := { program := "ytpmebmkifdgjcaadoor", sum := "0ed1eccf541b89bd96b5ace0aac8121a920ef3d4b4b29391979f716b8b0b5e5a", func := "bondstore/bondstorelaw09.AcctBytes", spec := "acctBytes", named := ["bondstore/wide.Most"], apart := false, laid := [("bondstore/wide.Most", laid_bondstore_wide_Most)], narrowed := true }
def AcctBytesUptoSaid : Prop := acctBytesUptoRow.holds Tryd.pinned (OpenSpec.upto acctBytesSpec)

end Rows
end Go.Proofs.YtpmebmkifdgjcaaDoor
