/-
  DERIVED. GIVEN WITH THE SEED: THE CARDS: each row of YthopnbklmlopkaaGreatDoorRows.lean that lists a variable, with what it lists TIED to the program's text (the seventh form; the later family's looks); each row that meets fmt, with fmt's text TOLD by the authors' own Lean function (tested against real Go, not proved from fmt's source: count such statements apart). THE CARD IS WHAT COUNTS. Prove the row's statement (the work); the ties are given (YthopnbklmlopkaaGreatDoorTie.lean); close each card by the builder's one call (the guide's Derived/Test/ToyasCard.lean, 'card_holds'). Laid BY PROGRAM, IN A SANDBOX (cutbox-door.mjs). By AI agents, Wed Nov 11 2026. No macro, syntax, notation, axiom, sorry.
-/
import Derived.Test.YthopnbklmlopkaaGreatDoorRows
import GoSem.ClaimSeven
namespace Go.Proofs.YthopnbklmlopkaaGreatDoor
namespace Rows

/-- THE TIED CARD OF 'stavelaw12.VolumeRuns'. -/
def volumeRunsCard : Claim7 := { stood := { row := volumeRunsRow, standIns := [], harness := (true, "78ccd102cf05009196ad3b49c15c4e1faf28f1e8affa82089162968d416a4bff"), looks := true }, kinds := [], alts := [], laidByText := true, laidKinds := [.handle], laidTests := true, laidLooks := .later }
def VolumeRunsCardSaid : Prop := Claim7.holds Tryz.pinned (.plain (OpenSpec.ofChange volumeRunsSpec)) volumeRunsCard

/-- THE TIED CARD OF 'stavelaw12.VolumeAgain'. -/
def volumeAgainCard : Claim7 := { stood := { row := volumeAgainRow, standIns := [], harness := (true, "78ccd102cf05009196ad3b49c15c4e1faf28f1e8affa82089162968d416a4bff"), looks := true }, kinds := [], alts := [], laidByText := true, laidKinds := [.handle], laidTests := true, laidLooks := .later }
def VolumeAgainCardSaid : Prop := Claim7.holds Tryz.pinned (.plain (OpenSpec.ofChange volumeAgainSpec)) volumeAgainCard

/-- THE TIED CARD OF 'stavelaw12.VolumeFew'. -/
def volumeFewCard : Claim7 := { stood := { row := volumeFewRow, standIns := [], harness := (true, "78ccd102cf05009196ad3b49c15c4e1faf28f1e8affa82089162968d416a4bff"), looks := true }, kinds := [], alts := [], laidByText := true, laidKinds := [.handle], laidTests := true, laidLooks := .later }
def VolumeFewCardSaid : Prop := Claim7.holds Tryz.pinned (.plain (OpenSpec.ofChange volumeFewSpec)) volumeFewCard

/-- THE TIED CARD OF 'stavelaw12.VolumeReplays'. -/
def volumeReplaysCard : Claim7 := { stood := { row := volumeReplaysRow, standIns := [], harness := (true, "78ccd102cf05009196ad3b49c15c4e1faf28f1e8affa82089162968d416a4bff"), looks := true }, kinds := [], alts := [], laidByText := true, laidKinds := [.handle], laidTests := true, laidLooks := .later }
def VolumeReplaysCardSaid : Prop := Claim7.holds Tryz.pinned (.plain (OpenSpec.ofChange volumeReplaysSpec)) volumeReplaysCard

/-- THE TIED CARD OF 'stavelaw12.VolumeLong'. -/
def volumeLongCard : Claim7 := { stood := { row := volumeLongRow, standIns := [], harness := (true, "78ccd102cf05009196ad3b49c15c4e1faf28f1e8affa82089162968d416a4bff"), looks := true }, kinds := [], alts := [], laidByText := true, laidKinds := [.handle], laidTests := true, laidLooks := .later }
def VolumeLongCardSaid : Prop := Claim7.holds Tryz.pinned (.plain (OpenSpec.ofChange volumeLongSpec)) volumeLongCard

/-- THE TIED CARD OF 'stavelaw12.VolumeNew'. -/
def volumeNewCard : Claim7 := { stood := { row := volumeNewRow, standIns := [], harness := (true, "78ccd102cf05009196ad3b49c15c4e1faf28f1e8affa82089162968d416a4bff"), looks := true }, kinds := [], alts := [], laidByText := true, laidKinds := [.handle], laidTests := true, laidLooks := .later }
def VolumeNewCardSaid : Prop := Claim7.holds Tryz.pinned (.plain (OpenSpec.ofChange volumeNewSpec)) volumeNewCard

/-- THE TIED CARD OF 'stavelaw12.VolumeNumbers'. -/
def volumeNumbersCard : Claim7 := { stood := { row := volumeNumbersRow, standIns := [], harness := (true, "78ccd102cf05009196ad3b49c15c4e1faf28f1e8affa82089162968d416a4bff"), looks := true }, kinds := [], alts := [], laidByText := true, laidKinds := [.handle], laidTests := true, laidLooks := .later }
def VolumeNumbersCardSaid : Prop := Claim7.holds Tryz.pinned (.plain (OpenSpec.ofChange volumeNumbersSpec)) volumeNumbersCard

/-- THE TIED CARD OF 'stavelaw12.VolumeBeyond'. -/
def volumeBeyondCard : Claim7 := { stood := { row := volumeBeyondRow, standIns := [], harness := (true, "78ccd102cf05009196ad3b49c15c4e1faf28f1e8affa82089162968d416a4bff"), looks := true }, kinds := [], alts := [], laidByText := true, laidKinds := [.handle], laidTests := true, laidLooks := .later }
def VolumeBeyondCardSaid : Prop := Claim7.holds Tryz.pinned (.plain (OpenSpec.ofChange volumeBeyondSpec)) volumeBeyondCard

/-- THE TIED CARD OF 'stavelaw12.VolumeHolds'. -/
def volumeHoldsCard : Claim7 := { stood := { row := volumeHoldsRow, standIns := [], harness := (true, "78ccd102cf05009196ad3b49c15c4e1faf28f1e8affa82089162968d416a4bff"), looks := true }, kinds := [], alts := [], laidByText := true, laidKinds := [.handle], laidTests := true, laidLooks := .later }
def VolumeHoldsCardSaid : Prop := Claim7.holds Tryz.pinned (.plain (OpenSpec.ofChange volumeHoldsSpec)) volumeHoldsCard

/-- THE TIED CARD OF 'stavelaw12.VolumeCrash'. -/
def volumeCrashCard : Claim7 := { stood := { row := volumeCrashRow, standIns := [], harness := (true, "78ccd102cf05009196ad3b49c15c4e1faf28f1e8affa82089162968d416a4bff"), looks := true }, kinds := [], alts := [], laidByText := true, laidKinds := [.handle], laidTests := true, laidLooks := .later }
def VolumeCrashCardSaid : Prop := Claim7.holds Tryz.pinned (.plain (OpenSpec.ofChange volumeCrashSpec)) volumeCrashCard

/-- THE SECOND FORM's CARD OF 'stavelaw12.VolumeRuns'. -/
def volumeRunsUptoCard : Claim7 := { stood := { row := volumeRunsUptoRow, standIns := [], harness := (true, "78ccd102cf05009196ad3b49c15c4e1faf28f1e8affa82089162968d416a4bff"), looks := true }, kinds := [], alts := [], laidByText := true, laidKinds := [.handle], laidTests := true, laidLooks := .later }
def VolumeRunsUptoCardSaid : Prop := Claim7.holds Tryz.pinned (.plain (OpenSpec.upto volumeRunsSpec)) volumeRunsUptoCard

/-- THE SECOND FORM's CARD OF 'stavelaw12.VolumeAgain'. -/
def volumeAgainUptoCard : Claim7 := { stood := { row := volumeAgainUptoRow, standIns := [], harness := (true, "78ccd102cf05009196ad3b49c15c4e1faf28f1e8affa82089162968d416a4bff"), looks := true }, kinds := [], alts := [], laidByText := true, laidKinds := [.handle], laidTests := true, laidLooks := .later }
def VolumeAgainUptoCardSaid : Prop := Claim7.holds Tryz.pinned (.plain (OpenSpec.upto volumeAgainSpec)) volumeAgainUptoCard

/-- THE SECOND FORM's CARD OF 'stavelaw12.VolumeFew'. -/
def volumeFewUptoCard : Claim7 := { stood := { row := volumeFewUptoRow, standIns := [], harness := (true, "78ccd102cf05009196ad3b49c15c4e1faf28f1e8affa82089162968d416a4bff"), looks := true }, kinds := [], alts := [], laidByText := true, laidKinds := [.handle], laidTests := true, laidLooks := .later }
def VolumeFewUptoCardSaid : Prop := Claim7.holds Tryz.pinned (.plain (OpenSpec.upto volumeFewSpec)) volumeFewUptoCard

/-- THE SECOND FORM's CARD OF 'stavelaw12.VolumeReplays'. -/
def volumeReplaysUptoCard : Claim7 := { stood := { row := volumeReplaysUptoRow, standIns := [], harness := (true, "78ccd102cf05009196ad3b49c15c4e1faf28f1e8affa82089162968d416a4bff"), looks := true }, kinds := [], alts := [], laidByText := true, laidKinds := [.handle], laidTests := true, laidLooks := .later }
def VolumeReplaysUptoCardSaid : Prop := Claim7.holds Tryz.pinned (.plain (OpenSpec.upto volumeReplaysSpec)) volumeReplaysUptoCard

/-- THE SECOND FORM's CARD OF 'stavelaw12.VolumeLong'. -/
def volumeLongUptoCard : Claim7 := { stood := { row := volumeLongUptoRow, standIns := [], harness := (true, "78ccd102cf05009196ad3b49c15c4e1faf28f1e8affa82089162968d416a4bff"), looks := true }, kinds := [], alts := [], laidByText := true, laidKinds := [.handle], laidTests := true, laidLooks := .later }
def VolumeLongUptoCardSaid : Prop := Claim7.holds Tryz.pinned (.plain (OpenSpec.upto volumeLongSpec)) volumeLongUptoCard

/-- THE SECOND FORM's CARD OF 'stavelaw12.VolumeNew'. -/
def volumeNewUptoCard : Claim7 := { stood := { row := volumeNewUptoRow, standIns := [], harness := (true, "78ccd102cf05009196ad3b49c15c4e1faf28f1e8affa82089162968d416a4bff"), looks := true }, kinds := [], alts := [], laidByText := true, laidKinds := [.handle], laidTests := true, laidLooks := .later }
def VolumeNewUptoCardSaid : Prop := Claim7.holds Tryz.pinned (.plain (OpenSpec.upto volumeNewSpec)) volumeNewUptoCard

/-- THE SECOND FORM's CARD OF 'stavelaw12.VolumeNumbers'. -/
def volumeNumbersUptoCard : Claim7 := { stood := { row := volumeNumbersUptoRow, standIns := [], harness := (true, "78ccd102cf05009196ad3b49c15c4e1faf28f1e8affa82089162968d416a4bff"), looks := true }, kinds := [], alts := [], laidByText := true, laidKinds := [.handle], laidTests := true, laidLooks := .later }
def VolumeNumbersUptoCardSaid : Prop := Claim7.holds Tryz.pinned (.plain (OpenSpec.upto volumeNumbersSpec)) volumeNumbersUptoCard

/-- THE SECOND FORM's CARD OF 'stavelaw12.VolumeBeyond'. -/
def volumeBeyondUptoCard : Claim7 := { stood := { row := volumeBeyondUptoRow, standIns := [], harness := (true, "78ccd102cf05009196ad3b49c15c4e1faf28f1e8affa82089162968d416a4bff"), looks := true }, kinds := [], alts := [], laidByText := true, laidKinds := [.handle], laidTests := true, laidLooks := .later }
def VolumeBeyondUptoCardSaid : Prop := Claim7.holds Tryz.pinned (.plain (OpenSpec.upto volumeBeyondSpec)) volumeBeyondUptoCard

/-- THE SECOND FORM's CARD OF 'stavelaw12.VolumeHolds'. -/
def volumeHoldsUptoCard : Claim7 := { stood := { row := volumeHoldsUptoRow, standIns := [], harness := (true, "78ccd102cf05009196ad3b49c15c4e1faf28f1e8affa82089162968d416a4bff"), looks := true }, kinds := [], alts := [], laidByText := true, laidKinds := [.handle], laidTests := true, laidLooks := .later }
def VolumeHoldsUptoCardSaid : Prop := Claim7.holds Tryz.pinned (.plain (OpenSpec.upto volumeHoldsSpec)) volumeHoldsUptoCard

/-- THE SECOND FORM's CARD OF 'stavelaw12.VolumeCrash'. -/
def volumeCrashUptoCard : Claim7 := { stood := { row := volumeCrashUptoRow, standIns := [], harness := (true, "78ccd102cf05009196ad3b49c15c4e1faf28f1e8affa82089162968d416a4bff"), looks := true }, kinds := [], alts := [], laidByText := true, laidKinds := [.handle], laidTests := true, laidLooks := .later }
def VolumeCrashUptoCardSaid : Prop := Claim7.holds Tryz.pinned (.plain (OpenSpec.upto volumeCrashSpec)) volumeCrashUptoCard
end Rows
end Go.Proofs.YthopnbklmlopkaaGreatDoor
