/-
  DERIVED. GIVEN WITH THE SEED: THE CARDS: each row of YtbdfjiedceaoiaaGreatDoorRows.lean that lists a variable, with what it lists TIED to the program's text (the seventh form; the later family's looks); each row that meets fmt, with fmt's text TOLD by the authors' own Lean function (tested against real Go, not proved from fmt's source: count such statements apart). THE CARD IS WHAT COUNTS. Prove the row's statement (the work); the ties are given (YtbdfjiedceaoiaaGreatDoorTie.lean); close each card by the builder's one call (the guide's Derived/Test/ToyasCard.lean, 'card_holds'). Laid BY PROGRAM, IN A SANDBOX (cutbox-door.mjs). By AI agents, Wed Nov 11 2026. No macro, syntax, notation, axiom, sorry.
-/
import Derived.Test.YtbdfjiedceaoiaaGreatDoorRows
import GoSem.ClaimSeven
namespace Go.Proofs.YtbdfjiedceaoiaaGreatDoor
namespace Rows

/-- THE TIED CARD OF 'stavelaw12.VolumeNew'. -/
def volumeNewCard : Claim7 := { stood := { row := volumeNewRow, standIns := [], harness := (true, "5099e9f95494a7ac1d1e9109868c047233c143c307eafd73ed71b9c5778ce599"), looks := true }, kinds := [], alts := [], laidByText := true, laidKinds := [.handle], laidTests := true, laidLooks := .later }
def VolumeNewCardSaid : Prop := Claim7.holds Tryz.pinned (.plain (OpenSpec.ofChange volumeNewSpec)) volumeNewCard

/-- THE TIED CARD OF 'stavelaw12.VolumeBeyond'. -/
def volumeBeyondCard : Claim7 := { stood := { row := volumeBeyondRow, standIns := [], harness := (true, "5099e9f95494a7ac1d1e9109868c047233c143c307eafd73ed71b9c5778ce599"), looks := true }, kinds := [], alts := [], laidByText := true, laidKinds := [.handle], laidTests := true, laidLooks := .later }
def VolumeBeyondCardSaid : Prop := Claim7.holds Tryz.pinned (.plain (OpenSpec.ofChange volumeBeyondSpec)) volumeBeyondCard

/-- THE TIED CARD OF 'stavelaw14.TapeGap'. -/
def tapeGapCard : Claim7 := { stood := { row := tapeGapRow, standIns := [], harness := (true, "5099e9f95494a7ac1d1e9109868c047233c143c307eafd73ed71b9c5778ce599"), looks := true }, kinds := [], alts := [], laidByText := true, laidKinds := [.handle], laidTests := true, laidLooks := .later }
def TapeGapCardSaid : Prop := Claim7.holds Tryz.pinned (.plain (OpenSpec.ofChange tapeGapSpec)) tapeGapCard

/-- THE TIED CARD OF 'stavelaw14.TapeOrder'. -/
def tapeOrderCard : Claim7 := { stood := { row := tapeOrderRow, standIns := [], harness := (true, "5099e9f95494a7ac1d1e9109868c047233c143c307eafd73ed71b9c5778ce599"), looks := true }, kinds := [], alts := [], laidByText := true, laidKinds := [.handle], laidTests := true, laidLooks := .later }
def TapeOrderCardSaid : Prop := Claim7.holds Tryz.pinned (.plain (OpenSpec.ofChange tapeOrderSpec)) tapeOrderCard

/-- THE TIED CARD OF 'stavelaw14.TapeLost'. -/
def tapeLostCard : Claim7 := { stood := { row := tapeLostRow, standIns := [], harness := (true, "5099e9f95494a7ac1d1e9109868c047233c143c307eafd73ed71b9c5778ce599"), looks := true }, kinds := [], alts := [], laidByText := true, laidKinds := [.handle], laidTests := true, laidLooks := .later }
def TapeLostCardSaid : Prop := Claim7.holds Tryz.pinned (.plain (OpenSpec.ofChange tapeLostSpec)) tapeLostCard

/-- THE SECOND FORM's CARD OF 'stavelaw12.VolumeNew'. -/
def volumeNewUptoCard : Claim7 := { stood := { row := volumeNewUptoRow, standIns := [], harness := (true, "5099e9f95494a7ac1d1e9109868c047233c143c307eafd73ed71b9c5778ce599"), looks := true }, kinds := [], alts := [], laidByText := true, laidKinds := [.handle], laidTests := true, laidLooks := .later }
def VolumeNewUptoCardSaid : Prop := Claim7.holds Tryz.pinned (.plain (OpenSpec.upto volumeNewSpec)) volumeNewUptoCard

/-- THE SECOND FORM's CARD OF 'stavelaw12.VolumeBeyond'. -/
def volumeBeyondUptoCard : Claim7 := { stood := { row := volumeBeyondUptoRow, standIns := [], harness := (true, "5099e9f95494a7ac1d1e9109868c047233c143c307eafd73ed71b9c5778ce599"), looks := true }, kinds := [], alts := [], laidByText := true, laidKinds := [.handle], laidTests := true, laidLooks := .later }
def VolumeBeyondUptoCardSaid : Prop := Claim7.holds Tryz.pinned (.plain (OpenSpec.upto volumeBeyondSpec)) volumeBeyondUptoCard

/-- THE SECOND FORM's CARD OF 'stavelaw14.TapeGap'. -/
def tapeGapUptoCard : Claim7 := { stood := { row := tapeGapUptoRow, standIns := [], harness := (true, "5099e9f95494a7ac1d1e9109868c047233c143c307eafd73ed71b9c5778ce599"), looks := true }, kinds := [], alts := [], laidByText := true, laidKinds := [.handle], laidTests := true, laidLooks := .later }
def TapeGapUptoCardSaid : Prop := Claim7.holds Tryz.pinned (.plain (OpenSpec.upto tapeGapSpec)) tapeGapUptoCard

/-- THE SECOND FORM's CARD OF 'stavelaw14.TapeOrder'. -/
def tapeOrderUptoCard : Claim7 := { stood := { row := tapeOrderUptoRow, standIns := [], harness := (true, "5099e9f95494a7ac1d1e9109868c047233c143c307eafd73ed71b9c5778ce599"), looks := true }, kinds := [], alts := [], laidByText := true, laidKinds := [.handle], laidTests := true, laidLooks := .later }
def TapeOrderUptoCardSaid : Prop := Claim7.holds Tryz.pinned (.plain (OpenSpec.upto tapeOrderSpec)) tapeOrderUptoCard

/-- THE SECOND FORM's CARD OF 'stavelaw14.TapeLost'. -/
def tapeLostUptoCard : Claim7 := { stood := { row := tapeLostUptoRow, standIns := [], harness := (true, "5099e9f95494a7ac1d1e9109868c047233c143c307eafd73ed71b9c5778ce599"), looks := true }, kinds := [], alts := [], laidByText := true, laidKinds := [.handle], laidTests := true, laidLooks := .later }
def TapeLostUptoCardSaid : Prop := Claim7.holds Tryz.pinned (.plain (OpenSpec.upto tapeLostSpec)) tapeLostUptoCard
end Rows
end Go.Proofs.YtbdfjiedceaoiaaGreatDoor
