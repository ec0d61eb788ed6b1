/-
  DERIVED. GIVEN WITH THE SEED: THE CARDS: each row of YtiabpnhkihbkjaaDoorRows.lean that lists a variable, with what it lists TIED to the program's text (the seventh form; the later family's looks); each row that meets fmt, with fmt's text TOLD by the authors' own Lean function (tested against real Go, not proved from fmt's source: count such statements apart). THE CARD IS WHAT COUNTS. Prove the row's statement (the work); the ties are given (YtiabpnhkihbkjaaDoorTie.lean); close each card by the builder's one call (the guide's Derived/Test/ToyasCard.lean, 'card_holds'). Laid BY PROGRAM, IN A SANDBOX (cutbox-door.mjs). By AI agents, Wed Nov 11 2026. No macro, syntax, notation, axiom, sorry.
-/
import Derived.Test.YtiabpnhkihbkjaaDoorRows
import GoSem.ClaimSeven
namespace Go.Proofs.YtiabpnhkihbkjaaDoor
namespace Rows

/-- THE TIED CARD OF 'bondstorelaw10.XferChecks'. -/
def xferChecksCard : Claim7 := { stood := { row := xferChecksRow, standIns := [], harness := (true, "3e1d9196448e8dfad0405500afd3550dc6d9449eb95be47d42209564952d92b0"), looks := false }, kinds := [], alts := [], laidByText := true, laidKinds := [.data], laidTests := true, laidLooks := .later }
def XferChecksCardSaid : Prop := Claim7.holds Tryd.pinned (.plain (OpenSpec.ofChange xferChecksSpec)) xferChecksCard

/-- THE TIED CARD OF 'bondstorelaw10.XferKinds'. -/
def xferKindsCard : Claim7 := { stood := { row := xferKindsRow, standIns := [], harness := (true, "3e1d9196448e8dfad0405500afd3550dc6d9449eb95be47d42209564952d92b0"), looks := false }, kinds := [], alts := [], laidByText := true, laidKinds := [.data], laidTests := true, laidLooks := .later }
def XferKindsCardSaid : Prop := Claim7.holds Tryd.pinned (.plain (OpenSpec.ofChange xferKindsSpec)) xferKindsCard

/-- THE TIED CARD OF 'bondstorelaw10.XferAgain'. -/
def xferAgainCard : Claim7 := { stood := { row := xferAgainRow, standIns := [], harness := (true, "3e1d9196448e8dfad0405500afd3550dc6d9449eb95be47d42209564952d92b0"), looks := false }, kinds := [], alts := [], laidByText := true, laidKinds := [.data], laidTests := true, laidLooks := .later }
def XferAgainCardSaid : Prop := Claim7.holds Tryd.pinned (.plain (OpenSpec.ofChange xferAgainSpec)) xferAgainCard

/-- THE TIED CARD OF 'bondstorelaw10.XferSame'. -/
def xferSameCard : Claim7 := { stood := { row := xferSameRow, standIns := [], harness := (true, "3e1d9196448e8dfad0405500afd3550dc6d9449eb95be47d42209564952d92b0"), looks := false }, kinds := [], alts := [], laidByText := true, laidKinds := [.data], laidTests := true, laidLooks := .later }
def XferSameCardSaid : Prop := Claim7.holds Tryd.pinned (.plain (OpenSpec.ofChange xferSameSpec)) xferSameCard

/-- THE TIED CARD OF 'bondstorelaw10.XferTakes'. -/
def xferTakesCard : Claim7 := { stood := { row := xferTakesRow, standIns := [], harness := (true, "3e1d9196448e8dfad0405500afd3550dc6d9449eb95be47d42209564952d92b0"), looks := false }, kinds := [], alts := [], laidByText := true, laidKinds := [.data], laidTests := true, laidLooks := .later }
def XferTakesCardSaid : Prop := Claim7.holds Tryd.pinned (.plain (OpenSpec.ofChange xferTakesSpec)) xferTakesCard

/-- THE TIED CARD OF 'bondstorelaw10.XferBytes'. -/
def xferBytesCard : Claim7 := { stood := { row := xferBytesRow, standIns := [], harness := (true, "3e1d9196448e8dfad0405500afd3550dc6d9449eb95be47d42209564952d92b0"), looks := false }, kinds := [], alts := [], laidByText := true, laidKinds := [.data], laidTests := true, laidLooks := .later }
def XferBytesCardSaid : Prop := Claim7.holds Tryd.pinned (.plain (OpenSpec.ofChange xferBytesSpec)) xferBytesCard

/-- THE SECOND FORM's CARD OF 'bondstorelaw10.XferChecks'. -/
def xferChecksUptoCard : Claim7 := { stood := { row := xferChecksUptoRow, standIns := [], harness := (true, "3e1d9196448e8dfad0405500afd3550dc6d9449eb95be47d42209564952d92b0"), looks := false }, kinds := [], alts := [], laidByText := true, laidKinds := [.data], laidTests := true, laidLooks := .later }
def XferChecksUptoCardSaid : Prop := Claim7.holds Tryd.pinned (.plain (OpenSpec.upto xferChecksSpec)) xferChecksUptoCard

/-- THE SECOND FORM's CARD OF 'bondstorelaw10.XferKinds'. -/
def xferKindsUptoCard : Claim7 := { stood := { row := xferKindsUptoRow, standIns := [], harness := (true, "3e1d9196448e8dfad0405500afd3550dc6d9449eb95be47d42209564952d92b0"), looks := false }, kinds := [], alts := [], laidByText := true, laidKinds := [.data], laidTests := true, laidLooks := .later }
def XferKindsUptoCardSaid : Prop := Claim7.holds Tryd.pinned (.plain (OpenSpec.upto xferKindsSpec)) xferKindsUptoCard

/-- THE SECOND FORM's CARD OF 'bondstorelaw10.XferAgain'. -/
def xferAgainUptoCard : Claim7 := { stood := { row := xferAgainUptoRow, standIns := [], harness := (true, "3e1d9196448e8dfad0405500afd3550dc6d9449eb95be47d42209564952d92b0"), looks := false }, kinds := [], alts := [], laidByText := true, laidKinds := [.data], laidTests := true, laidLooks := .later }
def XferAgainUptoCardSaid : Prop := Claim7.holds Tryd.pinned (.plain (OpenSpec.upto xferAgainSpec)) xferAgainUptoCard

/-- THE SECOND FORM's CARD OF 'bondstorelaw10.XferSame'. -/
def xferSameUptoCard : Claim7 := { stood := { row := xferSameUptoRow, standIns := [], harness := (true, "3e1d9196448e8dfad0405500afd3550dc6d9449eb95be47d42209564952d92b0"), looks := false }, kinds := [], alts := [], laidByText := true, laidKinds := [.data], laidTests := true, laidLooks := .later }
def XferSameUptoCardSaid : Prop := Claim7.holds Tryd.pinned (.plain (OpenSpec.upto xferSameSpec)) xferSameUptoCard

/-- THE SECOND FORM's CARD OF 'bondstorelaw10.XferTakes'. -/
def xferTakesUptoCard : Claim7 := { stood := { row := xferTakesUptoRow, standIns := [], harness := (true, "3e1d9196448e8dfad0405500afd3550dc6d9449eb95be47d42209564952d92b0"), looks := false }, kinds := [], alts := [], laidByText := true, laidKinds := [.data], laidTests := true, laidLooks := .later }
def XferTakesUptoCardSaid : Prop := Claim7.holds Tryd.pinned (.plain (OpenSpec.upto xferTakesSpec)) xferTakesUptoCard

/-- THE SECOND FORM's CARD OF 'bondstorelaw10.XferBytes'. -/
def xferBytesUptoCard : Claim7 := { stood := { row := xferBytesUptoRow, standIns := [], harness := (true, "3e1d9196448e8dfad0405500afd3550dc6d9449eb95be47d42209564952d92b0"), looks := false }, kinds := [], alts := [], laidByText := true, laidKinds := [.data], laidTests := true, laidLooks := .later }
def XferBytesUptoCardSaid : Prop := Claim7.holds Tryd.pinned (.plain (OpenSpec.upto xferBytesSpec)) xferBytesUptoCard
end Rows
end Go.Proofs.YtiabpnhkihbkjaaDoor
