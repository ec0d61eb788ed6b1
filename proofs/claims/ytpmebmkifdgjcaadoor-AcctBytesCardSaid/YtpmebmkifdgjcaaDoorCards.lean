/-
  DERIVED. GIVEN WITH THE SEED: THE CARDS: each row of YtpmebmkifdgjcaaDoorRows.lean that lists a variable, with what it lists TIED to the program's text (the seventh form; the later family's looks); each row that meets fmt, with fmt's text TOLD by the authors' own Lean function (tested against real Go, not proved from fmt's source: count such statements apart). THE CARD IS WHAT COUNTS. Prove the row's statement (the work); the ties are given (YtpmebmkifdgjcaaDoorTie.lean); close each card by the builder's one call (the guide's Derived/Test/ToyasCard.lean, 'card_holds'). Laid BY PROGRAM, IN A SANDBOX (cutbox-door.mjs). By AI agents, Wed Nov 11 2026. No macro, syntax, notation, axiom, sorry.
-/
import Derived.Test.YtpmebmkifdgjcaaDoorRows
import GoSem.ClaimSeven
namespace Go.Proofs.YtpmebmkifdgjcaaDoor
namespace Rows

/-- THE TIED CARD OF 'bondstorelaw09.AcctChecks'. -/
def acctChecksCard : Claim7 := { stood := { row := acctChecksRow, standIns := [], harness := (true, "e64886ec54bfc6efb24809208d4a6574a88b4b1ab81904b1526127c50434e6af"), looks := false }, kinds := [], alts := [], laidByText := true, laidKinds := [.data], laidTests := true, laidLooks := .later }
def AcctChecksCardSaid : Prop := Claim7.holds Tryd.pinned (.plain (OpenSpec.ofChange acctChecksSpec)) acctChecksCard

/-- THE TIED CARD OF 'bondstorelaw09.AcctAgain'. -/
def acctAgainCard : Claim7 := { stood := { row := acctAgainRow, standIns := [], harness := (true, "e64886ec54bfc6efb24809208d4a6574a88b4b1ab81904b1526127c50434e6af"), looks := false }, kinds := [], alts := [], laidByText := true, laidKinds := [.data], laidTests := true, laidLooks := .later }
def AcctAgainCardSaid : Prop := Claim7.holds Tryd.pinned (.plain (OpenSpec.ofChange acctAgainSpec)) acctAgainCard

/-- THE TIED CARD OF 'bondstorelaw09.AcctSame'. -/
def acctSameCard : Claim7 := { stood := { row := acctSameRow, standIns := [], harness := (true, "e64886ec54bfc6efb24809208d4a6574a88b4b1ab81904b1526127c50434e6af"), looks := false }, kinds := [], alts := [], laidByText := true, laidKinds := [.data], laidTests := true, laidLooks := .later }
def AcctSameCardSaid : Prop := Claim7.holds Tryd.pinned (.plain (OpenSpec.ofChange acctSameSpec)) acctSameCard

/-- THE TIED CARD OF 'bondstorelaw09.AcctTakes'. -/
def acctTakesCard : Claim7 := { stood := { row := acctTakesRow, standIns := [], harness := (true, "e64886ec54bfc6efb24809208d4a6574a88b4b1ab81904b1526127c50434e6af"), looks := false }, kinds := [], alts := [], laidByText := true, laidKinds := [.data], laidTests := true, laidLooks := .later }
def AcctTakesCardSaid : Prop := Claim7.holds Tryd.pinned (.plain (OpenSpec.ofChange acctTakesSpec)) acctTakesCard

/-- THE TIED CARD OF 'bondstorelaw09.AcctBytes'. -/
def acctBytesCard : Claim7 := { stood := { row := acctBytesRow, standIns := [], harness := (true, "e64886ec54bfc6efb24809208d4a6574a88b4b1ab81904b1526127c50434e6af"), looks := false }, kinds := [], alts := [], laidByText := true, laidKinds := [.data], laidTests := true, laidLooks := .later }
def AcctBytesCardSaid : Prop := Claim7.holds Tryd.pinned (.plain (OpenSpec.ofChange acctBytesSpec)) acctBytesCard

/-- THE SECOND FORM's CARD OF 'bondstorelaw09.AcctChecks'. -/
def acctChecksUptoCard : Claim7 := { stood := { row := acctChecksUptoRow, standIns := [], harness := (true, "e64886ec54bfc6efb24809208d4a6574a88b4b1ab81904b1526127c50434e6af"), looks := false }, kinds := [], alts := [], laidByText := true, laidKinds := [.data], laidTests := true, laidLooks := .later }
def AcctChecksUptoCardSaid : Prop := Claim7.holds Tryd.pinned (.plain (OpenSpec.upto acctChecksSpec)) acctChecksUptoCard

/-- THE SECOND FORM's CARD OF 'bondstorelaw09.AcctAgain'. -/
def acctAgainUptoCard : Claim7 := { stood := { row := acctAgainUptoRow, standIns := [], harness := (true, "e64886ec54bfc6efb24809208d4a6574a88b4b1ab81904b1526127c50434e6af"), looks := false }, kinds := [], alts := [], laidByText := true, laidKinds := [.data], laidTests := true, laidLooks := .later }
def AcctAgainUptoCardSaid : Prop := Claim7.holds Tryd.pinned (.plain (OpenSpec.upto acctAgainSpec)) acctAgainUptoCard

/-- THE SECOND FORM's CARD OF 'bondstorelaw09.AcctSame'. -/
def acctSameUptoCard : Claim7 := { stood := { row := acctSameUptoRow, standIns := [], harness := (true, "e64886ec54bfc6efb24809208d4a6574a88b4b1ab81904b1526127c50434e6af"), looks := false }, kinds := [], alts := [], laidByText := true, laidKinds := [.data], laidTests := true, laidLooks := .later }
def AcctSameUptoCardSaid : Prop := Claim7.holds Tryd.pinned (.plain (OpenSpec.upto acctSameSpec)) acctSameUptoCard

/-- THE SECOND FORM's CARD OF 'bondstorelaw09.AcctTakes'. -/
def acctTakesUptoCard : Claim7 := { stood := { row := acctTakesUptoRow, standIns := [], harness := (true, "e64886ec54bfc6efb24809208d4a6574a88b4b1ab81904b1526127c50434e6af"), looks := false }, kinds := [], alts := [], laidByText := true, laidKinds := [.data], laidTests := true, laidLooks := .later }
def AcctTakesUptoCardSaid : Prop := Claim7.holds Tryd.pinned (.plain (OpenSpec.upto acctTakesSpec)) acctTakesUptoCard

/-- THE SECOND FORM's CARD OF 'bondstorelaw09.AcctBytes'. -/
def acctBytesUptoCard : Claim7 := { stood := { row := acctBytesUptoRow, standIns := [], harness := (true, "e64886ec54bfc6efb24809208d4a6574a88b4b1ab81904b1526127c50434e6af"), looks := false }, kinds := [], alts := [], laidByText := true, laidKinds := [.data], laidTests := true, laidLooks := .later }
def AcctBytesUptoCardSaid : Prop := Claim7.holds Tryd.pinned (.plain (OpenSpec.upto acctBytesSpec)) acctBytesUptoCard
end Rows
end Go.Proofs.YtpmebmkifdgjcaaDoor
