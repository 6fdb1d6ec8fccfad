/-
  DERIVED. GIVEN WITH THE SEED: THE CARDS: each row of YtcgnkloljfgiaaaGreatDoorRows.lean that lists a variable, with what it lists TIED to the program's text (the seventh form; the later family's looks); each row that meets fmt, with fmt's text TOLD by the authors' own Lean function (tested against real Go, not proved from fmt's source: count such statements apart). THE CARD IS WHAT COUNTS. Prove the row's statement (the work); the ties are given (YtcgnkloljfgiaaaGreatDoorTie.lean); close each card by the builder's one call (the guide's Derived/Test/ToyasCard.lean, 'card_holds'). Laid BY PROGRAM, IN A SANDBOX (cutbox-door.mjs). By AI agents, Wed Nov 11 2026. No macro, syntax, notation, axiom, sorry.
-/
import Derived.Test.YtcgnkloljfgiaaaGreatDoorRows
import GoSem.ClaimSeven
namespace Go.Proofs.YtcgnkloljfgiaaaGreatDoor
namespace Rows

/-- THE TIED CARD OF 'deadboltlaw4.StoreSets'. -/
def storeSetsCard : Claim7 := { stood := { row := storeSetsRow, standIns := [], harness := (true, "0b6ada5dbe692495014a1832f5c7cdc92e1a7fa4756a8bbd26bc406c125036fb"), looks := true }, kinds := [], alts := [], laidByText := true, laidKinds := [.listed, .data], laidTests := true, laidLooks := .later }
def StoreSetsCardSaid : Prop := Claim7.holds Tryz.pinned (.plain (OpenSpec.ofChange storeSetsSpec)) storeSetsCard

/-- THE TIED CARD OF 'deadboltlaw4.StoreFull'. -/
def storeFullCard : Claim7 := { stood := { row := storeFullRow, standIns := [], harness := (true, "0b6ada5dbe692495014a1832f5c7cdc92e1a7fa4756a8bbd26bc406c125036fb"), looks := true }, kinds := [], alts := [], laidByText := true, laidKinds := [.listed, .data], laidTests := true, laidLooks := .later }
def StoreFullCardSaid : Prop := Claim7.holds Tryz.pinned (.plain (OpenSpec.ofChange storeFullSpec)) storeFullCard

/-- THE TIED CARD OF 'deadboltlaw4.StoreOwn'. -/
def storeOwnCard : Claim7 := { stood := { row := storeOwnRow, standIns := [], harness := (true, "0b6ada5dbe692495014a1832f5c7cdc92e1a7fa4756a8bbd26bc406c125036fb"), looks := true }, kinds := [], alts := [], laidByText := true, laidKinds := [.listed, .data], laidTests := true, laidLooks := .later }
def StoreOwnCardSaid : Prop := Claim7.holds Tryz.pinned (.plain (OpenSpec.ofChange storeOwnSpec)) storeOwnCard

/-- THE TIED CARD OF 'deadboltlaw4.StoreRefuses'. -/
def storeRefusesCard : Claim7 := { stood := { row := storeRefusesRow, standIns := [], harness := (true, "0b6ada5dbe692495014a1832f5c7cdc92e1a7fa4756a8bbd26bc406c125036fb"), looks := true }, kinds := [], alts := [], laidByText := true, laidKinds := [.listed, .data], laidTests := true, laidLooks := .later }
def StoreRefusesCardSaid : Prop := Claim7.holds Tryz.pinned (.plain (OpenSpec.ofChange storeRefusesSpec)) storeRefusesCard

/-- THE TIED CARD OF 'deadboltlaw4.StoreOrder'. -/
def storeOrderCard : Claim7 := { stood := { row := storeOrderRow, standIns := [], harness := (true, "0b6ada5dbe692495014a1832f5c7cdc92e1a7fa4756a8bbd26bc406c125036fb"), looks := true }, kinds := [], alts := [], laidByText := true, laidKinds := [.listed, .data], laidTests := true, laidLooks := .later }
def StoreOrderCardSaid : Prop := Claim7.holds Tryz.pinned (.plain (OpenSpec.ofChange storeOrderSpec)) storeOrderCard

/-- THE TIED CARD OF 'deadboltlaw4.StoreAgain'. -/
def storeAgainCard : Claim7 := { stood := { row := storeAgainRow, standIns := [], harness := (true, "0b6ada5dbe692495014a1832f5c7cdc92e1a7fa4756a8bbd26bc406c125036fb"), looks := true }, kinds := [], alts := [], laidByText := true, laidKinds := [.listed, .data], laidTests := true, laidLooks := .later }
def StoreAgainCardSaid : Prop := Claim7.holds Tryz.pinned (.plain (OpenSpec.ofChange storeAgainSpec)) storeAgainCard

/-- THE TIED CARD OF 'deadboltlaw4.StorePlays'. -/
def storePlaysCard : Claim7 := { stood := { row := storePlaysRow, standIns := [], harness := (true, "0b6ada5dbe692495014a1832f5c7cdc92e1a7fa4756a8bbd26bc406c125036fb"), looks := true }, kinds := [], alts := [], laidByText := true, laidKinds := [.listed, .data], laidTests := true, laidLooks := .later }
def StorePlaysCardSaid : Prop := Claim7.holds Tryz.pinned (.plain (OpenSpec.ofChange storePlaysSpec)) storePlaysCard

/-- THE TIED CARD OF 'deadboltlaw4.StoreCrash'. -/
def storeCrashCard : Claim7 := { stood := { row := storeCrashRow, standIns := [], harness := (true, "0b6ada5dbe692495014a1832f5c7cdc92e1a7fa4756a8bbd26bc406c125036fb"), looks := true }, kinds := [], alts := [], laidByText := true, laidKinds := [.listed, .data], laidTests := true, laidLooks := .later }
def StoreCrashCardSaid : Prop := Claim7.holds Tryz.pinned (.plain (OpenSpec.ofChange storeCrashSpec)) storeCrashCard

/-- THE SECOND FORM's CARD OF 'deadboltlaw4.StoreSets'. -/
def storeSetsUptoCard : Claim7 := { stood := { row := storeSetsUptoRow, standIns := [], harness := (true, "0b6ada5dbe692495014a1832f5c7cdc92e1a7fa4756a8bbd26bc406c125036fb"), looks := true }, kinds := [], alts := [], laidByText := true, laidKinds := [.listed, .data], laidTests := true, laidLooks := .later }
def StoreSetsUptoCardSaid : Prop := Claim7.holds Tryz.pinned (.plain (OpenSpec.upto storeSetsSpec)) storeSetsUptoCard

/-- THE SECOND FORM's CARD OF 'deadboltlaw4.StoreFull'. -/
def storeFullUptoCard : Claim7 := { stood := { row := storeFullUptoRow, standIns := [], harness := (true, "0b6ada5dbe692495014a1832f5c7cdc92e1a7fa4756a8bbd26bc406c125036fb"), looks := true }, kinds := [], alts := [], laidByText := true, laidKinds := [.listed, .data], laidTests := true, laidLooks := .later }
def StoreFullUptoCardSaid : Prop := Claim7.holds Tryz.pinned (.plain (OpenSpec.upto storeFullSpec)) storeFullUptoCard

/-- THE SECOND FORM's CARD OF 'deadboltlaw4.StoreOwn'. -/
def storeOwnUptoCard : Claim7 := { stood := { row := storeOwnUptoRow, standIns := [], harness := (true, "0b6ada5dbe692495014a1832f5c7cdc92e1a7fa4756a8bbd26bc406c125036fb"), looks := true }, kinds := [], alts := [], laidByText := true, laidKinds := [.listed, .data], laidTests := true, laidLooks := .later }
def StoreOwnUptoCardSaid : Prop := Claim7.holds Tryz.pinned (.plain (OpenSpec.upto storeOwnSpec)) storeOwnUptoCard

/-- THE SECOND FORM's CARD OF 'deadboltlaw4.StoreRefuses'. -/
def storeRefusesUptoCard : Claim7 := { stood := { row := storeRefusesUptoRow, standIns := [], harness := (true, "0b6ada5dbe692495014a1832f5c7cdc92e1a7fa4756a8bbd26bc406c125036fb"), looks := true }, kinds := [], alts := [], laidByText := true, laidKinds := [.listed, .data], laidTests := true, laidLooks := .later }
def StoreRefusesUptoCardSaid : Prop := Claim7.holds Tryz.pinned (.plain (OpenSpec.upto storeRefusesSpec)) storeRefusesUptoCard

/-- THE SECOND FORM's CARD OF 'deadboltlaw4.StoreOrder'. -/
def storeOrderUptoCard : Claim7 := { stood := { row := storeOrderUptoRow, standIns := [], harness := (true, "0b6ada5dbe692495014a1832f5c7cdc92e1a7fa4756a8bbd26bc406c125036fb"), looks := true }, kinds := [], alts := [], laidByText := true, laidKinds := [.listed, .data], laidTests := true, laidLooks := .later }
def StoreOrderUptoCardSaid : Prop := Claim7.holds Tryz.pinned (.plain (OpenSpec.upto storeOrderSpec)) storeOrderUptoCard

/-- THE SECOND FORM's CARD OF 'deadboltlaw4.StoreAgain'. -/
def storeAgainUptoCard : Claim7 := { stood := { row := storeAgainUptoRow, standIns := [], harness := (true, "0b6ada5dbe692495014a1832f5c7cdc92e1a7fa4756a8bbd26bc406c125036fb"), looks := true }, kinds := [], alts := [], laidByText := true, laidKinds := [.listed, .data], laidTests := true, laidLooks := .later }
def StoreAgainUptoCardSaid : Prop := Claim7.holds Tryz.pinned (.plain (OpenSpec.upto storeAgainSpec)) storeAgainUptoCard

/-- THE SECOND FORM's CARD OF 'deadboltlaw4.StorePlays'. -/
def storePlaysUptoCard : Claim7 := { stood := { row := storePlaysUptoRow, standIns := [], harness := (true, "0b6ada5dbe692495014a1832f5c7cdc92e1a7fa4756a8bbd26bc406c125036fb"), looks := true }, kinds := [], alts := [], laidByText := true, laidKinds := [.listed, .data], laidTests := true, laidLooks := .later }
def StorePlaysUptoCardSaid : Prop := Claim7.holds Tryz.pinned (.plain (OpenSpec.upto storePlaysSpec)) storePlaysUptoCard

/-- THE SECOND FORM's CARD OF 'deadboltlaw4.StoreCrash'. -/
def storeCrashUptoCard : Claim7 := { stood := { row := storeCrashUptoRow, standIns := [], harness := (true, "0b6ada5dbe692495014a1832f5c7cdc92e1a7fa4756a8bbd26bc406c125036fb"), looks := true }, kinds := [], alts := [], laidByText := true, laidKinds := [.listed, .data], laidTests := true, laidLooks := .later }
def StoreCrashUptoCardSaid : Prop := Claim7.holds Tryz.pinned (.plain (OpenSpec.upto storeCrashSpec)) storeCrashUptoCard
end Rows
end Go.Proofs.YtcgnkloljfgiaaaGreatDoor
