/-
  DERIVED. GIVEN WITH THE SEED: THE CARDS: each row of YtkmgdglmlmodmaaDoorRows.lean that lists a variable, with what it lists TIED to the program's text (the seventh form; the later family's looks); each row that meets fmt, with fmt's text TOLD by the authors' own Lean function (tested against real Go, not proved from fmt's source: count such statements apart). THE CARD IS WHAT COUNTS. Prove the row's statement (the work); the ties are given (YtkmgdglmlmodmaaDoorTie.lean); close each card by the builder's one call (the guide's Derived/Test/ToyasCard.lean, 'card_holds'). Laid BY PROGRAM, IN A SANDBOX (cutbox-door.mjs). By AI agents, Wed Nov 11 2026. No macro, syntax, notation, axiom, sorry.
-/
import Derived.Test.YtkmgdglmlmodmaaDoorRows
import GoSem.ClaimSeven
namespace Go.Proofs.YtkmgdglmlmodmaaDoor
namespace Rows

/-- THE TIED CARD OF 'stavelaw8.RackRuns'. -/
def rackRunsCard : Claim7 := { stood := { row := rackRunsRow, standIns := [], harness := (true, "1cc16a651eda0b910d70a357e51cb29081514502749735d74ef08e8ce79b69fd"), looks := true }, kinds := [], alts := [], laidByText := true, laidKinds := [.handle], laidTests := true, laidLooks := .later }
def RackRunsCardSaid : Prop := Claim7.holds Tryd.pinned (.plain (OpenSpec.ofChange rackRunsSpec)) rackRunsCard

/-- THE TIED CARD OF 'stavelaw8.RackBoots'. -/
def rackBootsCard : Claim7 := { stood := { row := rackBootsRow, standIns := [], harness := (true, "1cc16a651eda0b910d70a357e51cb29081514502749735d74ef08e8ce79b69fd"), looks := true }, kinds := [], alts := [], laidByText := true, laidKinds := [.handle], laidTests := true, laidLooks := .later }
def RackBootsCardSaid : Prop := Claim7.holds Tryd.pinned (.plain (OpenSpec.ofChange rackBootsSpec)) rackBootsCard

/-- THE TIED CARD OF 'stavelaw8.RackPlaces'. -/
def rackPlacesCard : Claim7 := { stood := { row := rackPlacesRow, standIns := [], harness := (true, "1cc16a651eda0b910d70a357e51cb29081514502749735d74ef08e8ce79b69fd"), looks := true }, kinds := [], alts := [], laidByText := true, laidKinds := [.handle], laidTests := true, laidLooks := .later }
def RackPlacesCardSaid : Prop := Claim7.holds Tryd.pinned (.plain (OpenSpec.ofChange rackPlacesSpec)) rackPlacesCard

/-- THE TIED CARD OF 'stavelaw8.RackFuse'. -/
def rackFuseCard : Claim7 := { stood := { row := rackFuseRow, standIns := [], harness := (true, "1cc16a651eda0b910d70a357e51cb29081514502749735d74ef08e8ce79b69fd"), looks := true }, kinds := [], alts := [], laidByText := true, laidKinds := [.handle], laidTests := true, laidLooks := .later }
def RackFuseCardSaid : Prop := Claim7.holds Tryd.pinned (.plain (OpenSpec.ofChange rackFuseSpec)) rackFuseCard

/-- THE TIED CARD OF 'stavelaw8.RackApart'. -/
def rackApartCard : Claim7 := { stood := { row := rackApartRow, standIns := [], harness := (true, "1cc16a651eda0b910d70a357e51cb29081514502749735d74ef08e8ce79b69fd"), looks := true }, kinds := [], alts := [], laidByText := true, laidKinds := [.handle], laidTests := true, laidLooks := .later }
def RackApartCardSaid : Prop := Claim7.holds Tryd.pinned (.plain (OpenSpec.ofChange rackApartSpec)) rackApartCard

/-- THE TIED CARD OF 'stavelaw9.SuperRuns'. -/
def superRunsCard : Claim7 := { stood := { row := superRunsRow, standIns := [], harness := (true, "1cc16a651eda0b910d70a357e51cb29081514502749735d74ef08e8ce79b69fd"), looks := true }, kinds := [], alts := [], laidByText := true, laidKinds := [.handle], laidTests := true, laidLooks := .later }
def SuperRunsCardSaid : Prop := Claim7.holds Tryd.pinned (.plain (OpenSpec.ofChange superRunsSpec)) superRunsCard

/-- THE TIED CARD OF 'stavelaw9.SuperTells'. -/
def superTellsCard : Claim7 := { stood := { row := superTellsRow, standIns := [], harness := (true, "1cc16a651eda0b910d70a357e51cb29081514502749735d74ef08e8ce79b69fd"), looks := true }, kinds := [], alts := [], laidByText := true, laidKinds := [.handle], laidTests := true, laidLooks := .later }
def SuperTellsCardSaid : Prop := Claim7.holds Tryd.pinned (.plain (OpenSpec.ofChange superTellsSpec)) superTellsCard

/-- THE TIED CARD OF 'stavelaw9.SuperBytes'. -/
def superBytesCard : Claim7 := { stood := { row := superBytesRow, standIns := [], harness := (true, "1cc16a651eda0b910d70a357e51cb29081514502749735d74ef08e8ce79b69fd"), looks := true }, kinds := [], alts := [], laidByText := true, laidKinds := [.handle], laidTests := true, laidLooks := .later }
def SuperBytesCardSaid : Prop := Claim7.holds Tryd.pinned (.plain (OpenSpec.ofChange superBytesSpec)) superBytesCard

/-- THE TIED CARD OF 'stavelaw8.RackErrors'. -/
def rackErrorsCard : Claim7 := { stood := { row := rackErrorsRow, standIns := [], harness := (true, "1cc16a651eda0b910d70a357e51cb29081514502749735d74ef08e8ce79b69fd"), looks := true }, kinds := [], alts := [], laidByText := true, laidKinds := [.handle], laidTests := true, laidLooks := .later }
def RackErrorsCardSaid : Prop := Claim7.holds Tryd.pinned (.plain (OpenSpec.ofChange rackErrorsSpec)) rackErrorsCard

/-- THE TIED CARD OF 'stavelaw9.SuperFew'. -/
def superFewCard : Claim7 := { stood := { row := superFewRow, standIns := [], harness := (true, "1cc16a651eda0b910d70a357e51cb29081514502749735d74ef08e8ce79b69fd"), looks := true }, kinds := [], alts := [], laidByText := true, laidKinds := [.handle], laidTests := true, laidLooks := .later }
def SuperFewCardSaid : Prop := Claim7.holds Tryd.pinned (.plain (OpenSpec.ofChange superFewSpec)) superFewCard

/-- THE TIED CARD OF 'stavelaw10.JournalRuns'. -/
def journalRunsCard : Claim7 := { stood := { row := journalRunsRow, standIns := [], harness := (true, "1cc16a651eda0b910d70a357e51cb29081514502749735d74ef08e8ce79b69fd"), looks := true }, kinds := [], alts := [], laidByText := true, laidKinds := [.handle], laidTests := true, laidLooks := .later }
def JournalRunsCardSaid : Prop := Claim7.holds Tryd.pinned (.plain (OpenSpec.ofChange journalRunsSpec)) journalRunsCard

/-- THE TIED CARD OF 'stavelaw10.JournalRing'. -/
def journalRingCard : Claim7 := { stood := { row := journalRingRow, standIns := [], harness := (true, "1cc16a651eda0b910d70a357e51cb29081514502749735d74ef08e8ce79b69fd"), looks := true }, kinds := [], alts := [], laidByText := true, laidKinds := [.handle], laidTests := true, laidLooks := .later }
def JournalRingCardSaid : Prop := Claim7.holds Tryd.pinned (.plain (OpenSpec.ofChange journalRingSpec)) journalRingCard

/-- THE TIED CARD OF 'stavelaw10.JournalLost'. -/
def journalLostCard : Claim7 := { stood := { row := journalLostRow, standIns := [], harness := (true, "1cc16a651eda0b910d70a357e51cb29081514502749735d74ef08e8ce79b69fd"), looks := true }, kinds := [], alts := [], laidByText := true, laidKinds := [.handle], laidTests := true, laidLooks := .later }
def JournalLostCardSaid : Prop := Claim7.holds Tryd.pinned (.plain (OpenSpec.ofChange journalLostSpec)) journalLostCard

/-- THE TIED CARD OF 'stavelaw9.SuperOther'. -/
def superOtherCard : Claim7 := { stood := { row := superOtherRow, standIns := [], harness := (true, "1cc16a651eda0b910d70a357e51cb29081514502749735d74ef08e8ce79b69fd"), looks := true }, kinds := [], alts := [], laidByText := true, laidKinds := [.handle], laidTests := true, laidLooks := .later }
def SuperOtherCardSaid : Prop := Claim7.holds Tryd.pinned (.plain (OpenSpec.ofChange superOtherSpec)) superOtherCard

/-- THE TIED CARD OF 'stavelaw10.JournalOne'. -/
def journalOneCard : Claim7 := { stood := { row := journalOneRow, standIns := [], harness := (true, "1cc16a651eda0b910d70a357e51cb29081514502749735d74ef08e8ce79b69fd"), looks := true }, kinds := [], alts := [], laidByText := true, laidKinds := [.handle], laidTests := true, laidLooks := .later }
def JournalOneCardSaid : Prop := Claim7.holds Tryd.pinned (.plain (OpenSpec.ofChange journalOneSpec)) journalOneCard

/-- THE TIED CARD OF 'stavelaw10.JournalCut'. -/
def journalCutCard : Claim7 := { stood := { row := journalCutRow, standIns := [], harness := (true, "1cc16a651eda0b910d70a357e51cb29081514502749735d74ef08e8ce79b69fd"), looks := true }, kinds := [], alts := [], laidByText := true, laidKinds := [.handle], laidTests := true, laidLooks := .later }
def JournalCutCardSaid : Prop := Claim7.holds Tryd.pinned (.plain (OpenSpec.ofChange journalCutSpec)) journalCutCard

/-- THE TIED CARD OF 'stavelaw10.JournalUnion'. -/
def journalUnionCard : Claim7 := { stood := { row := journalUnionRow, standIns := [], harness := (true, "1cc16a651eda0b910d70a357e51cb29081514502749735d74ef08e8ce79b69fd"), looks := true }, kinds := [], alts := [], laidByText := true, laidKinds := [.handle], laidTests := true, laidLooks := .later }
def JournalUnionCardSaid : Prop := Claim7.holds Tryd.pinned (.plain (OpenSpec.ofChange journalUnionSpec)) journalUnionCard

/-- THE SECOND FORM's CARD OF 'stavelaw8.RackRuns'. -/
def rackRunsUptoCard : Claim7 := { stood := { row := rackRunsUptoRow, standIns := [], harness := (true, "1cc16a651eda0b910d70a357e51cb29081514502749735d74ef08e8ce79b69fd"), looks := true }, kinds := [], alts := [], laidByText := true, laidKinds := [.handle], laidTests := true, laidLooks := .later }
def RackRunsUptoCardSaid : Prop := Claim7.holds Tryd.pinned (.plain (OpenSpec.upto rackRunsSpec)) rackRunsUptoCard

/-- THE SECOND FORM's CARD OF 'stavelaw8.RackBoots'. -/
def rackBootsUptoCard : Claim7 := { stood := { row := rackBootsUptoRow, standIns := [], harness := (true, "1cc16a651eda0b910d70a357e51cb29081514502749735d74ef08e8ce79b69fd"), looks := true }, kinds := [], alts := [], laidByText := true, laidKinds := [.handle], laidTests := true, laidLooks := .later }
def RackBootsUptoCardSaid : Prop := Claim7.holds Tryd.pinned (.plain (OpenSpec.upto rackBootsSpec)) rackBootsUptoCard

/-- THE SECOND FORM's CARD OF 'stavelaw8.RackPlaces'. -/
def rackPlacesUptoCard : Claim7 := { stood := { row := rackPlacesUptoRow, standIns := [], harness := (true, "1cc16a651eda0b910d70a357e51cb29081514502749735d74ef08e8ce79b69fd"), looks := true }, kinds := [], alts := [], laidByText := true, laidKinds := [.handle], laidTests := true, laidLooks := .later }
def RackPlacesUptoCardSaid : Prop := Claim7.holds Tryd.pinned (.plain (OpenSpec.upto rackPlacesSpec)) rackPlacesUptoCard

/-- THE SECOND FORM's CARD OF 'stavelaw8.RackFuse'. -/
def rackFuseUptoCard : Claim7 := { stood := { row := rackFuseUptoRow, standIns := [], harness := (true, "1cc16a651eda0b910d70a357e51cb29081514502749735d74ef08e8ce79b69fd"), looks := true }, kinds := [], alts := [], laidByText := true, laidKinds := [.handle], laidTests := true, laidLooks := .later }
def RackFuseUptoCardSaid : Prop := Claim7.holds Tryd.pinned (.plain (OpenSpec.upto rackFuseSpec)) rackFuseUptoCard

/-- THE SECOND FORM's CARD OF 'stavelaw8.RackApart'. -/
def rackApartUptoCard : Claim7 := { stood := { row := rackApartUptoRow, standIns := [], harness := (true, "1cc16a651eda0b910d70a357e51cb29081514502749735d74ef08e8ce79b69fd"), looks := true }, kinds := [], alts := [], laidByText := true, laidKinds := [.handle], laidTests := true, laidLooks := .later }
def RackApartUptoCardSaid : Prop := Claim7.holds Tryd.pinned (.plain (OpenSpec.upto rackApartSpec)) rackApartUptoCard

/-- THE SECOND FORM's CARD OF 'stavelaw9.SuperRuns'. -/
def superRunsUptoCard : Claim7 := { stood := { row := superRunsUptoRow, standIns := [], harness := (true, "1cc16a651eda0b910d70a357e51cb29081514502749735d74ef08e8ce79b69fd"), looks := true }, kinds := [], alts := [], laidByText := true, laidKinds := [.handle], laidTests := true, laidLooks := .later }
def SuperRunsUptoCardSaid : Prop := Claim7.holds Tryd.pinned (.plain (OpenSpec.upto superRunsSpec)) superRunsUptoCard

/-- THE SECOND FORM's CARD OF 'stavelaw9.SuperTells'. -/
def superTellsUptoCard : Claim7 := { stood := { row := superTellsUptoRow, standIns := [], harness := (true, "1cc16a651eda0b910d70a357e51cb29081514502749735d74ef08e8ce79b69fd"), looks := true }, kinds := [], alts := [], laidByText := true, laidKinds := [.handle], laidTests := true, laidLooks := .later }
def SuperTellsUptoCardSaid : Prop := Claim7.holds Tryd.pinned (.plain (OpenSpec.upto superTellsSpec)) superTellsUptoCard

/-- THE SECOND FORM's CARD OF 'stavelaw9.SuperBytes'. -/
def superBytesUptoCard : Claim7 := { stood := { row := superBytesUptoRow, standIns := [], harness := (true, "1cc16a651eda0b910d70a357e51cb29081514502749735d74ef08e8ce79b69fd"), looks := true }, kinds := [], alts := [], laidByText := true, laidKinds := [.handle], laidTests := true, laidLooks := .later }
def SuperBytesUptoCardSaid : Prop := Claim7.holds Tryd.pinned (.plain (OpenSpec.upto superBytesSpec)) superBytesUptoCard

/-- THE SECOND FORM's CARD OF 'stavelaw8.RackErrors'. -/
def rackErrorsUptoCard : Claim7 := { stood := { row := rackErrorsUptoRow, standIns := [], harness := (true, "1cc16a651eda0b910d70a357e51cb29081514502749735d74ef08e8ce79b69fd"), looks := true }, kinds := [], alts := [], laidByText := true, laidKinds := [.handle], laidTests := true, laidLooks := .later }
def RackErrorsUptoCardSaid : Prop := Claim7.holds Tryd.pinned (.plain (OpenSpec.upto rackErrorsSpec)) rackErrorsUptoCard

/-- THE SECOND FORM's CARD OF 'stavelaw9.SuperFew'. -/
def superFewUptoCard : Claim7 := { stood := { row := superFewUptoRow, standIns := [], harness := (true, "1cc16a651eda0b910d70a357e51cb29081514502749735d74ef08e8ce79b69fd"), looks := true }, kinds := [], alts := [], laidByText := true, laidKinds := [.handle], laidTests := true, laidLooks := .later }
def SuperFewUptoCardSaid : Prop := Claim7.holds Tryd.pinned (.plain (OpenSpec.upto superFewSpec)) superFewUptoCard

/-- THE SECOND FORM's CARD OF 'stavelaw10.JournalRuns'. -/
def journalRunsUptoCard : Claim7 := { stood := { row := journalRunsUptoRow, standIns := [], harness := (true, "1cc16a651eda0b910d70a357e51cb29081514502749735d74ef08e8ce79b69fd"), looks := true }, kinds := [], alts := [], laidByText := true, laidKinds := [.handle], laidTests := true, laidLooks := .later }
def JournalRunsUptoCardSaid : Prop := Claim7.holds Tryd.pinned (.plain (OpenSpec.upto journalRunsSpec)) journalRunsUptoCard

/-- THE SECOND FORM's CARD OF 'stavelaw10.JournalRing'. -/
def journalRingUptoCard : Claim7 := { stood := { row := journalRingUptoRow, standIns := [], harness := (true, "1cc16a651eda0b910d70a357e51cb29081514502749735d74ef08e8ce79b69fd"), looks := true }, kinds := [], alts := [], laidByText := true, laidKinds := [.handle], laidTests := true, laidLooks := .later }
def JournalRingUptoCardSaid : Prop := Claim7.holds Tryd.pinned (.plain (OpenSpec.upto journalRingSpec)) journalRingUptoCard

/-- THE SECOND FORM's CARD OF 'stavelaw10.JournalLost'. -/
def journalLostUptoCard : Claim7 := { stood := { row := journalLostUptoRow, standIns := [], harness := (true, "1cc16a651eda0b910d70a357e51cb29081514502749735d74ef08e8ce79b69fd"), looks := true }, kinds := [], alts := [], laidByText := true, laidKinds := [.handle], laidTests := true, laidLooks := .later }
def JournalLostUptoCardSaid : Prop := Claim7.holds Tryd.pinned (.plain (OpenSpec.upto journalLostSpec)) journalLostUptoCard

/-- THE SECOND FORM's CARD OF 'stavelaw9.SuperOther'. -/
def superOtherUptoCard : Claim7 := { stood := { row := superOtherUptoRow, standIns := [], harness := (true, "1cc16a651eda0b910d70a357e51cb29081514502749735d74ef08e8ce79b69fd"), looks := true }, kinds := [], alts := [], laidByText := true, laidKinds := [.handle], laidTests := true, laidLooks := .later }
def SuperOtherUptoCardSaid : Prop := Claim7.holds Tryd.pinned (.plain (OpenSpec.upto superOtherSpec)) superOtherUptoCard

/-- THE SECOND FORM's CARD OF 'stavelaw10.JournalOne'. -/
def journalOneUptoCard : Claim7 := { stood := { row := journalOneUptoRow, standIns := [], harness := (true, "1cc16a651eda0b910d70a357e51cb29081514502749735d74ef08e8ce79b69fd"), looks := true }, kinds := [], alts := [], laidByText := true, laidKinds := [.handle], laidTests := true, laidLooks := .later }
def JournalOneUptoCardSaid : Prop := Claim7.holds Tryd.pinned (.plain (OpenSpec.upto journalOneSpec)) journalOneUptoCard

/-- THE SECOND FORM's CARD OF 'stavelaw10.JournalCut'. -/
def journalCutUptoCard : Claim7 := { stood := { row := journalCutUptoRow, standIns := [], harness := (true, "1cc16a651eda0b910d70a357e51cb29081514502749735d74ef08e8ce79b69fd"), looks := true }, kinds := [], alts := [], laidByText := true, laidKinds := [.handle], laidTests := true, laidLooks := .later }
def JournalCutUptoCardSaid : Prop := Claim7.holds Tryd.pinned (.plain (OpenSpec.upto journalCutSpec)) journalCutUptoCard

/-- THE SECOND FORM's CARD OF 'stavelaw10.JournalUnion'. -/
def journalUnionUptoCard : Claim7 := { stood := { row := journalUnionUptoRow, standIns := [], harness := (true, "1cc16a651eda0b910d70a357e51cb29081514502749735d74ef08e8ce79b69fd"), looks := true }, kinds := [], alts := [], laidByText := true, laidKinds := [.handle], laidTests := true, laidLooks := .later }
def JournalUnionUptoCardSaid : Prop := Claim7.holds Tryd.pinned (.plain (OpenSpec.upto journalUnionSpec)) journalUnionUptoCard
end Rows
end Go.Proofs.YtkmgdglmlmodmaaDoor
