/-
  DERIVED. GIVEN WITH THE SEED: THE CARDS: each row of YtdbjojnejkklhaaDoorRows.lean that lists a variable, with what it lists TIED to the program's text (the seventh form; the later family's looks); each row that meets fmt, with fmt's text TOLD by the authors' own Lean function (tested against real Go, not proved from fmt's source: count such statements apart). THE CARD IS WHAT COUNTS. Prove the row's statement (the work); the ties are given (YtdbjojnejkklhaaDoorTie.lean); close each card by the builder's one call (the guide's Derived/Test/ToyasCard.lean, 'card_holds'). Laid BY PROGRAM, IN A SANDBOX (cutbox-door.mjs). By AI agents, Wed Nov 11 2026. No macro, syntax, notation, axiom, sorry.
-/
import Derived.Test.YtdbjojnejkklhaaDoorRows
import GoSem.ClaimSeven
namespace Go.Proofs.YtdbjojnejkklhaaDoor
namespace Rows

/-- THE TIED CARD OF 'stavelaw8.RackBoots'. -/
def rackBootsCard : Claim7 := { stood := { row := rackBootsRow, standIns := [], harness := (true, "dba68c5c8641de8e0643fe4af85c7b77ef0591640622d3211a00d85201f74fa1"), looks := true }, kinds := [], alts := [], laidByText := true, laidKinds := [.handle], laidTests := true, laidLooks := .later }
def RackBootsCardSaid : Prop := Claim7.holds Tryd.pinned (.plain (OpenSpec.ofChange rackBootsSpec)) rackBootsCard

/-- THE TIED CARD OF 'stavelaw8.RackPlaces'. -/
def rackPlacesCard : Claim7 := { stood := { row := rackPlacesRow, standIns := [], harness := (true, "dba68c5c8641de8e0643fe4af85c7b77ef0591640622d3211a00d85201f74fa1"), looks := true }, kinds := [], alts := [], laidByText := true, laidKinds := [.handle], laidTests := true, laidLooks := .later }
def RackPlacesCardSaid : Prop := Claim7.holds Tryd.pinned (.plain (OpenSpec.ofChange rackPlacesSpec)) rackPlacesCard

/-- THE TIED CARD OF 'stavelaw8.RackFuse'. -/
def rackFuseCard : Claim7 := { stood := { row := rackFuseRow, standIns := [], harness := (true, "dba68c5c8641de8e0643fe4af85c7b77ef0591640622d3211a00d85201f74fa1"), looks := true }, kinds := [], alts := [], laidByText := true, laidKinds := [.handle], laidTests := true, laidLooks := .later }
def RackFuseCardSaid : Prop := Claim7.holds Tryd.pinned (.plain (OpenSpec.ofChange rackFuseSpec)) rackFuseCard

/-- THE TIED CARD OF 'stavelaw8.RackApart'. -/
def rackApartCard : Claim7 := { stood := { row := rackApartRow, standIns := [], harness := (true, "dba68c5c8641de8e0643fe4af85c7b77ef0591640622d3211a00d85201f74fa1"), looks := true }, kinds := [], alts := [], laidByText := true, laidKinds := [.handle], laidTests := true, laidLooks := .later }
def RackApartCardSaid : Prop := Claim7.holds Tryd.pinned (.plain (OpenSpec.ofChange rackApartSpec)) rackApartCard

/-- THE TIED CARD OF 'stavelaw9.SuperRuns'. -/
def superRunsCard : Claim7 := { stood := { row := superRunsRow, standIns := [], harness := (true, "dba68c5c8641de8e0643fe4af85c7b77ef0591640622d3211a00d85201f74fa1"), looks := true }, kinds := [], alts := [], laidByText := true, laidKinds := [.handle], laidTests := true, laidLooks := .later }
def SuperRunsCardSaid : Prop := Claim7.holds Tryd.pinned (.plain (OpenSpec.ofChange superRunsSpec)) superRunsCard

/-- THE TIED CARD OF 'stavelaw9.SuperTells'. -/
def superTellsCard : Claim7 := { stood := { row := superTellsRow, standIns := [], harness := (true, "dba68c5c8641de8e0643fe4af85c7b77ef0591640622d3211a00d85201f74fa1"), looks := true }, kinds := [], alts := [], laidByText := true, laidKinds := [.handle], laidTests := true, laidLooks := .later }
def SuperTellsCardSaid : Prop := Claim7.holds Tryd.pinned (.plain (OpenSpec.ofChange superTellsSpec)) superTellsCard

/-- THE TIED CARD OF 'stavelaw9.SuperBytes'. -/
def superBytesCard : Claim7 := { stood := { row := superBytesRow, standIns := [], harness := (true, "dba68c5c8641de8e0643fe4af85c7b77ef0591640622d3211a00d85201f74fa1"), looks := true }, kinds := [], alts := [], laidByText := true, laidKinds := [.handle], laidTests := true, laidLooks := .later }
def SuperBytesCardSaid : Prop := Claim7.holds Tryd.pinned (.plain (OpenSpec.ofChange superBytesSpec)) superBytesCard

/-- THE TIED CARD OF 'stavelaw8.RackErrors'. -/
def rackErrorsCard : Claim7 := { stood := { row := rackErrorsRow, standIns := [], harness := (true, "dba68c5c8641de8e0643fe4af85c7b77ef0591640622d3211a00d85201f74fa1"), looks := true }, kinds := [], alts := [], laidByText := true, laidKinds := [.handle], laidTests := true, laidLooks := .later }
def RackErrorsCardSaid : Prop := Claim7.holds Tryd.pinned (.plain (OpenSpec.ofChange rackErrorsSpec)) rackErrorsCard

/-- THE TIED CARD OF 'stavelaw9.SuperFew'. -/
def superFewCard : Claim7 := { stood := { row := superFewRow, standIns := [], harness := (true, "dba68c5c8641de8e0643fe4af85c7b77ef0591640622d3211a00d85201f74fa1"), looks := true }, kinds := [], alts := [], laidByText := true, laidKinds := [.handle], laidTests := true, laidLooks := .later }
def SuperFewCardSaid : Prop := Claim7.holds Tryd.pinned (.plain (OpenSpec.ofChange superFewSpec)) superFewCard

/-- THE TIED CARD OF 'stavelaw9.SuperOther'. -/
def superOtherCard : Claim7 := { stood := { row := superOtherRow, standIns := [], harness := (true, "dba68c5c8641de8e0643fe4af85c7b77ef0591640622d3211a00d85201f74fa1"), looks := true }, kinds := [], alts := [], laidByText := true, laidKinds := [.handle], laidTests := true, laidLooks := .later }
def SuperOtherCardSaid : Prop := Claim7.holds Tryd.pinned (.plain (OpenSpec.ofChange superOtherSpec)) superOtherCard

/-- THE SECOND FORM's CARD OF 'stavelaw8.RackBoots'. -/
def rackBootsUptoCard : Claim7 := { stood := { row := rackBootsUptoRow, standIns := [], harness := (true, "dba68c5c8641de8e0643fe4af85c7b77ef0591640622d3211a00d85201f74fa1"), looks := true }, kinds := [], alts := [], laidByText := true, laidKinds := [.handle], laidTests := true, laidLooks := .later }
def RackBootsUptoCardSaid : Prop := Claim7.holds Tryd.pinned (.plain (OpenSpec.upto rackBootsSpec)) rackBootsUptoCard

/-- THE SECOND FORM's CARD OF 'stavelaw8.RackPlaces'. -/
def rackPlacesUptoCard : Claim7 := { stood := { row := rackPlacesUptoRow, standIns := [], harness := (true, "dba68c5c8641de8e0643fe4af85c7b77ef0591640622d3211a00d85201f74fa1"), looks := true }, kinds := [], alts := [], laidByText := true, laidKinds := [.handle], laidTests := true, laidLooks := .later }
def RackPlacesUptoCardSaid : Prop := Claim7.holds Tryd.pinned (.plain (OpenSpec.upto rackPlacesSpec)) rackPlacesUptoCard

/-- THE SECOND FORM's CARD OF 'stavelaw8.RackFuse'. -/
def rackFuseUptoCard : Claim7 := { stood := { row := rackFuseUptoRow, standIns := [], harness := (true, "dba68c5c8641de8e0643fe4af85c7b77ef0591640622d3211a00d85201f74fa1"), looks := true }, kinds := [], alts := [], laidByText := true, laidKinds := [.handle], laidTests := true, laidLooks := .later }
def RackFuseUptoCardSaid : Prop := Claim7.holds Tryd.pinned (.plain (OpenSpec.upto rackFuseSpec)) rackFuseUptoCard

/-- THE SECOND FORM's CARD OF 'stavelaw8.RackApart'. -/
def rackApartUptoCard : Claim7 := { stood := { row := rackApartUptoRow, standIns := [], harness := (true, "dba68c5c8641de8e0643fe4af85c7b77ef0591640622d3211a00d85201f74fa1"), looks := true }, kinds := [], alts := [], laidByText := true, laidKinds := [.handle], laidTests := true, laidLooks := .later }
def RackApartUptoCardSaid : Prop := Claim7.holds Tryd.pinned (.plain (OpenSpec.upto rackApartSpec)) rackApartUptoCard

/-- THE SECOND FORM's CARD OF 'stavelaw9.SuperRuns'. -/
def superRunsUptoCard : Claim7 := { stood := { row := superRunsUptoRow, standIns := [], harness := (true, "dba68c5c8641de8e0643fe4af85c7b77ef0591640622d3211a00d85201f74fa1"), looks := true }, kinds := [], alts := [], laidByText := true, laidKinds := [.handle], laidTests := true, laidLooks := .later }
def SuperRunsUptoCardSaid : Prop := Claim7.holds Tryd.pinned (.plain (OpenSpec.upto superRunsSpec)) superRunsUptoCard

/-- THE SECOND FORM's CARD OF 'stavelaw9.SuperTells'. -/
def superTellsUptoCard : Claim7 := { stood := { row := superTellsUptoRow, standIns := [], harness := (true, "dba68c5c8641de8e0643fe4af85c7b77ef0591640622d3211a00d85201f74fa1"), looks := true }, kinds := [], alts := [], laidByText := true, laidKinds := [.handle], laidTests := true, laidLooks := .later }
def SuperTellsUptoCardSaid : Prop := Claim7.holds Tryd.pinned (.plain (OpenSpec.upto superTellsSpec)) superTellsUptoCard

/-- THE SECOND FORM's CARD OF 'stavelaw9.SuperBytes'. -/
def superBytesUptoCard : Claim7 := { stood := { row := superBytesUptoRow, standIns := [], harness := (true, "dba68c5c8641de8e0643fe4af85c7b77ef0591640622d3211a00d85201f74fa1"), looks := true }, kinds := [], alts := [], laidByText := true, laidKinds := [.handle], laidTests := true, laidLooks := .later }
def SuperBytesUptoCardSaid : Prop := Claim7.holds Tryd.pinned (.plain (OpenSpec.upto superBytesSpec)) superBytesUptoCard

/-- THE SECOND FORM's CARD OF 'stavelaw8.RackErrors'. -/
def rackErrorsUptoCard : Claim7 := { stood := { row := rackErrorsUptoRow, standIns := [], harness := (true, "dba68c5c8641de8e0643fe4af85c7b77ef0591640622d3211a00d85201f74fa1"), looks := true }, kinds := [], alts := [], laidByText := true, laidKinds := [.handle], laidTests := true, laidLooks := .later }
def RackErrorsUptoCardSaid : Prop := Claim7.holds Tryd.pinned (.plain (OpenSpec.upto rackErrorsSpec)) rackErrorsUptoCard

/-- THE SECOND FORM's CARD OF 'stavelaw9.SuperFew'. -/
def superFewUptoCard : Claim7 := { stood := { row := superFewUptoRow, standIns := [], harness := (true, "dba68c5c8641de8e0643fe4af85c7b77ef0591640622d3211a00d85201f74fa1"), looks := true }, kinds := [], alts := [], laidByText := true, laidKinds := [.handle], laidTests := true, laidLooks := .later }
def SuperFewUptoCardSaid : Prop := Claim7.holds Tryd.pinned (.plain (OpenSpec.upto superFewSpec)) superFewUptoCard

/-- THE SECOND FORM's CARD OF 'stavelaw9.SuperOther'. -/
def superOtherUptoCard : Claim7 := { stood := { row := superOtherUptoRow, standIns := [], harness := (true, "dba68c5c8641de8e0643fe4af85c7b77ef0591640622d3211a00d85201f74fa1"), looks := true }, kinds := [], alts := [], laidByText := true, laidKinds := [.handle], laidTests := true, laidLooks := .later }
def SuperOtherUptoCardSaid : Prop := Claim7.holds Tryd.pinned (.plain (OpenSpec.upto superOtherSpec)) superOtherUptoCard
end Rows
end Go.Proofs.YtdbjojnejkklhaaDoor
