/-
  DERIVED. GIVEN WITH THE SEED: THE CARDS: each row of YtjchjpmgbmeohaaDoorRows.lean that lists a variable, with what it lists TIED to the program's text (the seventh form; the later family's looks); each row that meets fmt, with fmt's text TOLD by the authors' own Lean function (tested against real Go, not proved from fmt's source: count such statements apart). THE CARD IS WHAT COUNTS. Prove the row's statement (the work); the ties are given (YtjchjpmgbmeohaaDoorTie.lean); close each card by the builder's one call (the guide's Derived/Test/ToyasCard.lean, 'card_holds'). Laid BY PROGRAM, IN A SANDBOX (cutbox-door.mjs). By AI agents, Wed Nov 11 2026. No macro, syntax, notation, axiom, sorry.
-/
import Derived.Test.YtjchjpmgbmeohaaDoorRows
import GoSem.ClaimSeven
namespace Go.Proofs.YtjchjpmgbmeohaaDoor
namespace Rows

/-- THE TIED CARD OF 'bondstorelaw15.BooksRules'. -/
def booksRulesCard : Claim7 := { stood := { row := booksRulesRow, standIns := [], harness := (true, "797b6a18c792d648804836a4c2d079f5051b90ea80233d7dc60a023aeeb77a74"), looks := false }, kinds := [], alts := [], laidByText := true, laidKinds := [.data], laidTests := true, laidLooks := .later }
def BooksRulesCardSaid : Prop := Claim7.holds Tryd.pinned (.plain (OpenSpec.ofChange booksRulesSpec)) booksRulesCard

/-- THE TIED CARD OF 'bondstorelaw15.BooksFull'. -/
def booksFullCard : Claim7 := { stood := { row := booksFullRow, standIns := [], harness := (true, "797b6a18c792d648804836a4c2d079f5051b90ea80233d7dc60a023aeeb77a74"), looks := false }, kinds := [], alts := [], laidByText := true, laidKinds := [.data], laidTests := true, laidLooks := .later }
def BooksFullCardSaid : Prop := Claim7.holds Tryd.pinned (.plain (OpenSpec.ofChange booksFullSpec)) booksFullCard

/-- THE TIED CARD OF 'bondstorelaw15.BooksBetween'. -/
def booksBetweenCard : Claim7 := { stood := { row := booksBetweenRow, standIns := [], harness := (true, "797b6a18c792d648804836a4c2d079f5051b90ea80233d7dc60a023aeeb77a74"), looks := false }, kinds := [], alts := [], laidByText := true, laidKinds := [.data], laidTests := true, laidLooks := .later }
def BooksBetweenCardSaid : Prop := Claim7.holds Tryd.pinned (.plain (OpenSpec.ofChange booksBetweenSpec)) booksBetweenCard

/-- THE TIED CARD OF 'bondstorelaw15.BooksBack'. -/
def booksBackCard : Claim7 := { stood := { row := booksBackRow, standIns := [], harness := (true, "797b6a18c792d648804836a4c2d079f5051b90ea80233d7dc60a023aeeb77a74"), looks := false }, kinds := [], alts := [], laidByText := true, laidKinds := [.data], laidTests := true, laidLooks := .later }
def BooksBackCardSaid : Prop := Claim7.holds Tryd.pinned (.plain (OpenSpec.ofChange booksBackSpec)) booksBackCard

/-- THE TIED CARD OF 'bondstorelaw15.BooksLoads'. -/
def booksLoadsCard : Claim7 := { stood := { row := booksLoadsRow, standIns := [], harness := (true, "797b6a18c792d648804836a4c2d079f5051b90ea80233d7dc60a023aeeb77a74"), looks := false }, kinds := [], alts := [], laidByText := true, laidKinds := [.data], laidTests := true, laidLooks := .later }
def BooksLoadsCardSaid : Prop := Claim7.holds Tryd.pinned (.plain (OpenSpec.ofChange booksLoadsSpec)) booksLoadsCard

/-- THE TIED CARD OF 'bondstorelaw15.BooksDoes'. -/
def booksDoesCard : Claim7 := { stood := { row := booksDoesRow, standIns := [], harness := (true, "797b6a18c792d648804836a4c2d079f5051b90ea80233d7dc60a023aeeb77a74"), looks := false }, kinds := [], alts := [], laidByText := true, laidKinds := [.data], laidTests := true, laidLooks := .later }
def BooksDoesCardSaid : Prop := Claim7.holds Tryd.pinned (.plain (OpenSpec.ofChange booksDoesSpec)) booksDoesCard

/-- THE SECOND FORM's CARD OF 'bondstorelaw15.BooksRules'. -/
def booksRulesUptoCard : Claim7 := { stood := { row := booksRulesUptoRow, standIns := [], harness := (true, "797b6a18c792d648804836a4c2d079f5051b90ea80233d7dc60a023aeeb77a74"), looks := false }, kinds := [], alts := [], laidByText := true, laidKinds := [.data], laidTests := true, laidLooks := .later }
def BooksRulesUptoCardSaid : Prop := Claim7.holds Tryd.pinned (.plain (OpenSpec.upto booksRulesSpec)) booksRulesUptoCard

/-- THE SECOND FORM's CARD OF 'bondstorelaw15.BooksFull'. -/
def booksFullUptoCard : Claim7 := { stood := { row := booksFullUptoRow, standIns := [], harness := (true, "797b6a18c792d648804836a4c2d079f5051b90ea80233d7dc60a023aeeb77a74"), looks := false }, kinds := [], alts := [], laidByText := true, laidKinds := [.data], laidTests := true, laidLooks := .later }
def BooksFullUptoCardSaid : Prop := Claim7.holds Tryd.pinned (.plain (OpenSpec.upto booksFullSpec)) booksFullUptoCard

/-- THE SECOND FORM's CARD OF 'bondstorelaw15.BooksBetween'. -/
def booksBetweenUptoCard : Claim7 := { stood := { row := booksBetweenUptoRow, standIns := [], harness := (true, "797b6a18c792d648804836a4c2d079f5051b90ea80233d7dc60a023aeeb77a74"), looks := false }, kinds := [], alts := [], laidByText := true, laidKinds := [.data], laidTests := true, laidLooks := .later }
def BooksBetweenUptoCardSaid : Prop := Claim7.holds Tryd.pinned (.plain (OpenSpec.upto booksBetweenSpec)) booksBetweenUptoCard

/-- THE SECOND FORM's CARD OF 'bondstorelaw15.BooksBack'. -/
def booksBackUptoCard : Claim7 := { stood := { row := booksBackUptoRow, standIns := [], harness := (true, "797b6a18c792d648804836a4c2d079f5051b90ea80233d7dc60a023aeeb77a74"), looks := false }, kinds := [], alts := [], laidByText := true, laidKinds := [.data], laidTests := true, laidLooks := .later }
def BooksBackUptoCardSaid : Prop := Claim7.holds Tryd.pinned (.plain (OpenSpec.upto booksBackSpec)) booksBackUptoCard

/-- THE SECOND FORM's CARD OF 'bondstorelaw15.BooksLoads'. -/
def booksLoadsUptoCard : Claim7 := { stood := { row := booksLoadsUptoRow, standIns := [], harness := (true, "797b6a18c792d648804836a4c2d079f5051b90ea80233d7dc60a023aeeb77a74"), looks := false }, kinds := [], alts := [], laidByText := true, laidKinds := [.data], laidTests := true, laidLooks := .later }
def BooksLoadsUptoCardSaid : Prop := Claim7.holds Tryd.pinned (.plain (OpenSpec.upto booksLoadsSpec)) booksLoadsUptoCard

/-- THE SECOND FORM's CARD OF 'bondstorelaw15.BooksDoes'. -/
def booksDoesUptoCard : Claim7 := { stood := { row := booksDoesUptoRow, standIns := [], harness := (true, "797b6a18c792d648804836a4c2d079f5051b90ea80233d7dc60a023aeeb77a74"), looks := false }, kinds := [], alts := [], laidByText := true, laidKinds := [.data], laidTests := true, laidLooks := .later }
def BooksDoesUptoCardSaid : Prop := Claim7.holds Tryd.pinned (.plain (OpenSpec.upto booksDoesSpec)) booksDoesUptoCard
end Rows
end Go.Proofs.YtjchjpmgbmeohaaDoor
