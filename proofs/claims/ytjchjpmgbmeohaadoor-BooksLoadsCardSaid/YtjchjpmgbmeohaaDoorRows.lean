/-
  NARROWER THAN 'FOR EVERY INPUT', by the rows' own cells (each row's printed sentence says how): BooksRules: laid · BooksFull: laid · BooksBetween: laid · BooksBack: laid · BooksLoads: laid · BooksDoes: laid.
  DERIVED. THE GIVEN ROWS OF THIS SEAT. 6 by the template 'for every input the law returns true; each argument reads behind the call as it read before'; 0 by the template 'total and deterministic' (their statements: YtjchjpmgbmeohaaDoorTotals.lean).
  GIVEN WITH THE SEED: the statements are not yours to turn. If you find one false, say at which input.
  Laid BY PROGRAM, IN A SANDBOX (cutbox-rows.mjs): the forced cells as the released guide's own fill.sh prints them over the translation 6b0c74d605615895… (all of the seat's roots in one cut). By AI agents, Wed Nov 11 2026. No macro, syntax, notation, axiom, sorry.
-/
import Derived.Test.YtjchjpmgbmeohaaDoorChecked
import GoSem.Claim
import GoSem.ClaimJoined
import GoSem.ClaimMapViews
import Derived.JoinedTies
import Derived.KernelRfl
namespace Go.Proofs.YtjchjpmgbmeohaaDoor
/- THE CELL 'sum', in the pinned program and in every row, IS THE sha256 OF THE DUMP (.gsa) THAT YtjchjpmgbmeohaaDoorProg.lean LOADS. Nothing in Lean hashes anything: it is a label: what it is worth is what the hold of that sum in a sandbox is worth. -/
noncomputable def Tryd.pinned : Pinned := { name := "ytjchjpmgbmeohaadoor", sum := "6b0c74d605615895c64af864208eec6824d52313b3bf2ccbbe85ead1e53197b7", checked := Tryd.checked }
namespace Rows
def none {H : Type} : Left H := { results := [], args := [] }

/- WHAT THE LISTED PACKAGE-LEVEL VARIABLES READ AS WHEN THE CALL BEGINS. Each datum BY PROGRAM (the guide's laid-datum.mjs) off the statement by which the dump's own 'gosem.cut.vars' lays the variable. In a bare row this is a premise. The card (YtjchjpmgbmeohaaDoorCards.lean) ties it to the program's text. -/
def laid_bondstore_wide_Most {H : Type} : DataW H := .agg [.lit (.int .u64 18446744073709551615), .lit (.int .u64 18446744073709551615)]

/-- 'bondstorelaw15.BooksRules': WHATEVER THE INPUT: true; the input reads as it did. -/
def booksRulesSpec : ChangeSpec := { name := "booksRules", fn := fun _ => fun
  | [d1, d2, d3, d4] => { results := [.lit (.bool true)], args := [d1, d2, d3, d4] }
  | _ => none }
def booksRulesRow : OpenClaim := { program := "ytjchjpmgbmeohaadoor", sum := "6b0c74d605615895c64af864208eec6824d52313b3bf2ccbbe85ead1e53197b7", func := "bondstore/bondstorelaw15.BooksRules", spec := "booksRules", inPlace := ["math/bits.Add64", "math/bits.Sub64"], named := ["bondstore/wide.Most"], apart := false, laid := [("bondstore/wide.Most", laid_bondstore_wide_Most)] }
def BooksRulesSaid : Prop := booksRulesRow.holds Tryd.pinned (OpenSpec.ofChange booksRulesSpec)

/-- ITS FALSE NEIGHBOUR: 'it returns false'. Refute it at one input. -/
def booksRulesWrong : ChangeSpec := { name := "booksRules", fn := fun _ => fun
  | [d1, d2, d3, d4] => { results := [.lit (.bool false)], args := [d1, d2, d3, d4] }
  | _ => none }
def BooksRulesWrongFalsely : Prop := booksRulesRow.holds Tryd.pinned (OpenSpec.ofChange booksRulesWrong)

/-- 'bondstorelaw15.BooksFull': WHATEVER THE INPUT: true; the input reads as it did. -/
def booksFullSpec : ChangeSpec := { name := "booksFull", fn := fun _ => fun
  | [d1, d2] => { results := [.lit (.bool true)], args := [d1, d2] }
  | _ => none }
def booksFullRow : OpenClaim := { program := "ytjchjpmgbmeohaadoor", sum := "6b0c74d605615895c64af864208eec6824d52313b3bf2ccbbe85ead1e53197b7", func := "bondstore/bondstorelaw15.BooksFull", spec := "booksFull", inPlace := ["math/bits.Add64", "math/bits.Sub64"], unfollowed := true, recurses := true, named := ["bondstore/wide.Most"], apart := false, laid := [("bondstore/wide.Most", laid_bondstore_wide_Most)] }
def BooksFullSaid : Prop := booksFullRow.holds Tryd.pinned (OpenSpec.ofChange booksFullSpec)

/-- ITS FALSE NEIGHBOUR: 'it returns false'. Refute it at one input. -/
def booksFullWrong : ChangeSpec := { name := "booksFull", fn := fun _ => fun
  | [d1, d2] => { results := [.lit (.bool false)], args := [d1, d2] }
  | _ => none }
def BooksFullWrongFalsely : Prop := booksFullRow.holds Tryd.pinned (OpenSpec.ofChange booksFullWrong)

/-- 'bondstorelaw15.BooksBetween': WHATEVER THE INPUT: true; the input reads as it did. -/
def booksBetweenSpec : ChangeSpec := { name := "booksBetween", fn := fun _ => fun
  | [d1, d2, d3, d4] => { results := [.lit (.bool true)], args := [d1, d2, d3, d4] }
  | _ => none }
def booksBetweenRow : OpenClaim := { program := "ytjchjpmgbmeohaadoor", sum := "6b0c74d605615895c64af864208eec6824d52313b3bf2ccbbe85ead1e53197b7", func := "bondstore/bondstorelaw15.BooksBetween", spec := "booksBetween", inPlace := ["math/bits.Add64", "math/bits.Sub64"], unfollowed := true, recurses := true, named := ["bondstore/wide.Most"], apart := false, laid := [("bondstore/wide.Most", laid_bondstore_wide_Most)] }
def BooksBetweenSaid : Prop := booksBetweenRow.holds Tryd.pinned (OpenSpec.ofChange booksBetweenSpec)

/-- ITS FALSE NEIGHBOUR: 'it returns false'. Refute it at one input. -/
def booksBetweenWrong : ChangeSpec := { name := "booksBetween", fn := fun _ => fun
  | [d1, d2, d3, d4] => { results := [.lit (.bool false)], args := [d1, d2, d3, d4] }
  | _ => none }
def BooksBetweenWrongFalsely : Prop := booksBetweenRow.holds Tryd.pinned (OpenSpec.ofChange booksBetweenWrong)

/-- 'bondstorelaw15.BooksBack': WHATEVER THE INPUT: true; the input reads as it did. -/
def booksBackSpec : ChangeSpec := { name := "booksBack", fn := fun _ => fun
  | [d1, d2, d3] => { results := [.lit (.bool true)], args := [d1, d2, d3] }
  | _ => none }
def booksBackRow : OpenClaim := { program := "ytjchjpmgbmeohaadoor", sum := "6b0c74d605615895c64af864208eec6824d52313b3bf2ccbbe85ead1e53197b7", func := "bondstore/bondstorelaw15.BooksBack", spec := "booksBack", inPlace := ["math/bits.Add64", "math/bits.Sub64"], unfollowed := true, recurses := true, named := ["bondstore/wide.Most"], apart := false, laid := [("bondstore/wide.Most", laid_bondstore_wide_Most)] }
def BooksBackSaid : Prop := booksBackRow.holds Tryd.pinned (OpenSpec.ofChange booksBackSpec)

/-- ITS FALSE NEIGHBOUR: 'it returns false'. Refute it at one input. -/
def booksBackWrong : ChangeSpec := { name := "booksBack", fn := fun _ => fun
  | [d1, d2, d3] => { results := [.lit (.bool false)], args := [d1, d2, d3] }
  | _ => none }
def BooksBackWrongFalsely : Prop := booksBackRow.holds Tryd.pinned (OpenSpec.ofChange booksBackWrong)

/-- 'bondstorelaw15.BooksLoads': WHATEVER THE INPUT: true; the input reads as it did. -/
def booksLoadsSpec : ChangeSpec := { name := "booksLoads", fn := fun _ => fun
  | [d1, d2] => { results := [.lit (.bool true)], args := [d1, d2] }
  | _ => none }
def booksLoadsRow : OpenClaim := { program := "ytjchjpmgbmeohaadoor", sum := "6b0c74d605615895c64af864208eec6824d52313b3bf2ccbbe85ead1e53197b7", func := "bondstore/bondstorelaw15.BooksLoads", spec := "booksLoads", inPlace := ["math/bits.Add64", "math/bits.Sub64"], unfollowed := true, recurses := true, named := ["bondstore/wide.Most"], apart := false, laid := [("bondstore/wide.Most", laid_bondstore_wide_Most)] }
def BooksLoadsSaid : Prop := booksLoadsRow.holds Tryd.pinned (OpenSpec.ofChange booksLoadsSpec)

/-- ITS FALSE NEIGHBOUR: 'it returns false'. Refute it at one input. -/
def booksLoadsWrong : ChangeSpec := { name := "booksLoads", fn := fun _ => fun
  | [d1, d2] => { results := [.lit (.bool false)], args := [d1, d2] }
  | _ => none }
def BooksLoadsWrongFalsely : Prop := booksLoadsRow.holds Tryd.pinned (OpenSpec.ofChange booksLoadsWrong)

/-- 'bondstorelaw15.BooksDoes': WHATEVER THE INPUT: true; the input reads as it did. -/
def booksDoesSpec : ChangeSpec := { name := "booksDoes", fn := fun _ => fun
  | [d1, d2] => { results := [.lit (.bool true)], args := [d1, d2] }
  | _ => none }
def booksDoesRow : OpenClaim := { program := "ytjchjpmgbmeohaadoor", sum := "6b0c74d605615895c64af864208eec6824d52313b3bf2ccbbe85ead1e53197b7", func := "bondstore/bondstorelaw15.BooksDoes", spec := "booksDoes", inPlace := ["math/bits.Add64", "math/bits.Sub64"], unfollowed := true, recurses := true, named := ["bondstore/wide.Most"], apart := false, laid := [("bondstore/wide.Most", laid_bondstore_wide_Most)] }
def BooksDoesSaid : Prop := booksDoesRow.holds Tryd.pinned (OpenSpec.ofChange booksDoesSpec)

/-- ITS FALSE NEIGHBOUR: 'it returns false'. Refute it at one input. -/
def booksDoesWrong : ChangeSpec := { name := "booksDoes", fn := fun _ => fun
  | [d1, d2] => { results := [.lit (.bool false)], args := [d1, d2] }
  | _ => none }
def BooksDoesWrongFalsely : Prop := booksDoesRow.holds Tryd.pinned (OpenSpec.ofChange booksDoesWrong)

/- THE SECOND FORM. 'bulk': how many values and letters a reading holds, each counted each time it is reached (what is shared counts as often as it is met; a slice's spare places count too). A statement '..UptoSaid' is the law's where the arguments, and the package variables that the reading takes, are together of bulk at most 1048576: NARROWER than '..Said'. Prove '..Said' where nothing that the law and all that it calls make is longer than what came in: it says more and counts as full. Else prove '..UptoSaid'. A law counts once. -/
mutual
def uptoBulk {H : Type} : DataW H → Nat
  | .lit (.string bytes) => bytes.length + 1
  | .lit _ => 1
  | .nil => 1
  | .ptr d => uptoBulk d + 1
  | .slice elems spare => uptoBulkAll elems + uptoBulkAll spare + 1
  | .agg parts => uptoBulkAll parts + 1
  | .iface _ d => uptoBulk d + 1
  | .map entries => uptoBulkEntries entries + 1
  | .held _ => 1
def uptoBulkAll {H : Type} : List (DataW H) → Nat
  | [] => 0
  | d :: r => uptoBulk d + uptoBulkAll r
def uptoBulkEntries {H : Type} : List (Lit × DataW H) → Nat
  | [] => 0
  | x :: r => uptoBulkEntry x + uptoBulkEntries r
def uptoBulkEntry {H : Type} : Lit × DataW H → Nat
  | (.string bytes, d) => bytes.length + uptoBulk d + 1
  | (_, d) => uptoBulk d + 1
 end
def uptoSmall : (H : Type) → List (DataW H) → Bool := fun _ ds => decide (uptoBulkAll ds ≤ 1048576)
def OpenSpec.upto (s : _root_.Go.ChangeSpec) : _root_.Go.OpenSpec := { _root_.Go.OpenSpec.ofChange s with cond := some uptoSmall }

/-- 'bondstorelaw15.BooksRules', WHERE WHAT IT READS IS OF BULK AT MOST 1048576: true; the input reads as it did. -/
def booksRulesUptoRow : OpenClaim := { program := "ytjchjpmgbmeohaadoor", sum := "6b0c74d605615895c64af864208eec6824d52313b3bf2ccbbe85ead1e53197b7", func := "bondstore/bondstorelaw15.BooksRules", spec := "booksRules", inPlace := ["math/bits.Add64", "math/bits.Sub64"], named := ["bondstore/wide.Most"], apart := false, laid := [("bondstore/wide.Most", laid_bondstore_wide_Most)], narrowed := true }
def BooksRulesUptoSaid : Prop := booksRulesUptoRow.holds Tryd.pinned (OpenSpec.upto booksRulesSpec)

/-- 'bondstorelaw15.BooksFull', WHERE WHAT IT READS IS OF BULK AT MOST 1048576: true; the input reads as it did. -/
def booksFullUptoRow : OpenClaim := { program := "ytjchjpmgbmeohaadoor", sum := "6b0c74d605615895c64af864208eec6824d52313b3bf2ccbbe85ead1e53197b7", func := "bondstore/bondstorelaw15.BooksFull", spec := "booksFull", inPlace := ["math/bits.Add64", "math/bits.Sub64"], unfollowed := true, recurses := true, named := ["bondstore/wide.Most"], apart := false, laid := [("bondstore/wide.Most", laid_bondstore_wide_Most)], narrowed := true }
def BooksFullUptoSaid : Prop := booksFullUptoRow.holds Tryd.pinned (OpenSpec.upto booksFullSpec)

/-- 'bondstorelaw15.BooksBetween', WHERE WHAT IT READS IS OF BULK AT MOST 1048576: true; the input reads as it did. -/
def booksBetweenUptoRow : OpenClaim := { program := "ytjchjpmgbmeohaadoor", sum := "6b0c74d605615895c64af864208eec6824d52313b3bf2ccbbe85ead1e53197b7", func := "bondstore/bondstorelaw15.BooksBetween", spec := "booksBetween", inPlace := ["math/bits.Add64", "math/bits.Sub64"], unfollowed := true, recurses := true, named := ["bondstore/wide.Most"], apart := false, laid := [("bondstore/wide.Most", laid_bondstore_wide_Most)], narrowed := true }
def BooksBetweenUptoSaid : Prop := booksBetweenUptoRow.holds Tryd.pinned (OpenSpec.upto booksBetweenSpec)

/-- 'bondstorelaw15.BooksBack', WHERE WHAT IT READS IS OF BULK AT MOST 1048576: true; the input reads as it did. -/
def booksBackUptoRow : OpenClaim := { program := "ytjchjpmgbmeohaadoor", sum := "6b0c74d605615895c64af864208eec6824d52313b3bf2ccbbe85ead1e53197b7", func := "bondstore/bondstorelaw15.BooksBack", spec := "booksBack", inPlace := ["math/bits.Add64", "math/bits.Sub64"], unfollowed := true, recurses := true, named := ["bondstore/wide.Most"], apart := false, laid := [("bondstore/wide.Most", laid_bondstore_wide_Most)], narrowed := true }
def BooksBackUptoSaid : Prop := booksBackUptoRow.holds Tryd.pinned (OpenSpec.upto booksBackSpec)

/-- 'bondstorelaw15.BooksLoads', WHERE WHAT IT READS IS OF BULK AT MOST 1048576: true; the input reads as it did. -/
def booksLoadsUptoRow : OpenClaim := { program := "ytjchjpmgbmeohaadoor", sum := "6b0c74d605615895c64af864208eec6824d52313b3bf2ccbbe85ead1e53197b7", func := "bondstore/bondstorelaw15.BooksLoads", spec := "booksLoads", inPlace := ["math/bits.Add64", "math/bits.Sub64"], unfollowed := true, recurses := true, named := ["bondstore/wide.Most"], apart := false, laid := [("bondstore/wide.Most", laid_bondstore_wide_Most)], narrowed := true }
def BooksLoadsUptoSaid : Prop := booksLoadsUptoRow.holds Tryd.pinned (OpenSpec.upto booksLoadsSpec)

/-- 'bondstorelaw15.BooksDoes', WHERE WHAT IT READS IS OF BULK AT MOST 1048576: true; the input reads as it did. -/
def booksDoesUptoRow : OpenClaim := { program := "ytjchjpmgbmeohaadoor", sum := "6b0c74d605615895c64af864208eec6824d52313b3bf2ccbbe85ead1e53197b7", func := "bondstore/bondstorelaw15.BooksDoes", spec := "booksDoes", inPlace := ["math/bits.Add64", "math/bits.Sub64"], unfollowed := true, recurses := true, named := ["bondstore/wide.Most"], apart := false, laid := [("bondstore/wide.Most", laid_bondstore_wide_Most)], narrowed := true }
def BooksDoesUptoSaid : Prop := booksDoesUptoRow.holds Tryd.pinned (OpenSpec.upto booksDoesSpec)

end Rows
end Go.Proofs.YtjchjpmgbmeohaaDoor
