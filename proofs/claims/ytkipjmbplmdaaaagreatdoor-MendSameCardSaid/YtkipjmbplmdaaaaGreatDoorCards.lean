/-
  DERIVED. GIVEN WITH THE SEED: THE CARDS: each row of YtkipjmbplmdaaaaGreatDoorRows.lean that lists a variable, with what it lists TIED to the program's text (the seventh form; the later family's looks); each row that meets fmt, with fmt's text TOLD by the authors' own Lean function (tested against real Go, not proved from fmt's source: count such statements apart). THE CARD IS WHAT COUNTS. Prove the row's statement (the work); the ties are given (YtkipjmbplmdaaaaGreatDoorTie.lean); close each card by the builder's one call (the guide's Derived/Test/ToyasCard.lean, 'card_holds'). Laid BY PROGRAM, IN A SANDBOX (cutbox-door.mjs). By AI agents, Wed Nov 11 2026. No macro, syntax, notation, axiom, sorry.
-/
import Derived.Test.YtkipjmbplmdaaaaGreatDoorRows
import GoSem.ClaimSeven
namespace Go.Proofs.YtkipjmbplmdaaaaGreatDoor
namespace Rows

/-- THE TIED CARD OF 'stavelaw13.MendLost'. -/
def mendLostCard : Claim7 := { stood := { row := mendLostRow, standIns := [], harness := (true, "d4beb21e8108362cc8d9ea74d636057a41c1365b5261728524ba1bd981600391"), looks := true }, kinds := [], alts := [], laidByText := true, laidKinds := [.handle], laidTests := true, laidLooks := .later }
def MendLostCardSaid : Prop := Claim7.holds Tryz.pinned (.plain (OpenSpec.ofChange mendLostSpec)) mendLostCard

/-- THE TIED CARD OF 'stavelaw13.MendSame'. -/
def mendSameCard : Claim7 := { stood := { row := mendSameRow, standIns := [], harness := (true, "d4beb21e8108362cc8d9ea74d636057a41c1365b5261728524ba1bd981600391"), looks := true }, kinds := [], alts := [], laidByText := true, laidKinds := [.handle], laidTests := true, laidLooks := .later }
def MendSameCardSaid : Prop := Claim7.holds Tryz.pinned (.plain (OpenSpec.ofChange mendSameSpec)) mendSameCard

/-- THE TIED CARD OF 'stavelaw13.MendTurns'. -/
def mendTurnsCard : Claim7 := { stood := { row := mendTurnsRow, standIns := [], harness := (true, "d4beb21e8108362cc8d9ea74d636057a41c1365b5261728524ba1bd981600391"), looks := true }, kinds := [], alts := [], laidByText := true, laidKinds := [.handle], laidTests := true, laidLooks := .later }
def MendTurnsCardSaid : Prop := Claim7.holds Tryz.pinned (.plain (OpenSpec.ofChange mendTurnsSpec)) mendTurnsCard

/-- THE TIED CARD OF 'stavelaw13.MendCut'. -/
def mendCutCard : Claim7 := { stood := { row := mendCutRow, standIns := [], harness := (true, "d4beb21e8108362cc8d9ea74d636057a41c1365b5261728524ba1bd981600391"), looks := true }, kinds := [], alts := [], laidByText := true, laidKinds := [.handle], laidTests := true, laidLooks := .later }
def MendCutCardSaid : Prop := Claim7.holds Tryz.pinned (.plain (OpenSpec.ofChange mendCutSpec)) mendCutCard

/-- THE SECOND FORM's CARD OF 'stavelaw13.MendLost'. -/
def mendLostUptoCard : Claim7 := { stood := { row := mendLostUptoRow, standIns := [], harness := (true, "d4beb21e8108362cc8d9ea74d636057a41c1365b5261728524ba1bd981600391"), looks := true }, kinds := [], alts := [], laidByText := true, laidKinds := [.handle], laidTests := true, laidLooks := .later }
def MendLostUptoCardSaid : Prop := Claim7.holds Tryz.pinned (.plain (OpenSpec.upto mendLostSpec)) mendLostUptoCard

/-- THE SECOND FORM's CARD OF 'stavelaw13.MendSame'. -/
def mendSameUptoCard : Claim7 := { stood := { row := mendSameUptoRow, standIns := [], harness := (true, "d4beb21e8108362cc8d9ea74d636057a41c1365b5261728524ba1bd981600391"), looks := true }, kinds := [], alts := [], laidByText := true, laidKinds := [.handle], laidTests := true, laidLooks := .later }
def MendSameUptoCardSaid : Prop := Claim7.holds Tryz.pinned (.plain (OpenSpec.upto mendSameSpec)) mendSameUptoCard

/-- THE SECOND FORM's CARD OF 'stavelaw13.MendTurns'. -/
def mendTurnsUptoCard : Claim7 := { stood := { row := mendTurnsUptoRow, standIns := [], harness := (true, "d4beb21e8108362cc8d9ea74d636057a41c1365b5261728524ba1bd981600391"), looks := true }, kinds := [], alts := [], laidByText := true, laidKinds := [.handle], laidTests := true, laidLooks := .later }
def MendTurnsUptoCardSaid : Prop := Claim7.holds Tryz.pinned (.plain (OpenSpec.upto mendTurnsSpec)) mendTurnsUptoCard

/-- THE SECOND FORM's CARD OF 'stavelaw13.MendCut'. -/
def mendCutUptoCard : Claim7 := { stood := { row := mendCutUptoRow, standIns := [], harness := (true, "d4beb21e8108362cc8d9ea74d636057a41c1365b5261728524ba1bd981600391"), looks := true }, kinds := [], alts := [], laidByText := true, laidKinds := [.handle], laidTests := true, laidLooks := .later }
def MendCutUptoCardSaid : Prop := Claim7.holds Tryz.pinned (.plain (OpenSpec.upto mendCutSpec)) mendCutUptoCard
end Rows
end Go.Proofs.YtkipjmbplmdaaaaGreatDoor
