/-
  DERIVED. GIVEN WITH THE SEED: THE CARDS: each row of YtgjnnbomnoafcaaGreatDoorRows.lean that lists a variable, with what it lists TIED to the program's text (the seventh form; the later family's looks); each row that meets fmt, with fmt's text TOLD by the authors' own Lean function (tested against real Go, not proved from fmt's source: count such statements apart). THE CARD IS WHAT COUNTS. Prove the row's statement (the work); the ties are given (YtgjnnbomnoafcaaGreatDoorTie.lean); close each card by the builder's one call (the guide's Derived/Test/ToyasCard.lean, 'card_holds'). Laid BY PROGRAM, IN A SANDBOX (cutbox-door.mjs). By AI agents, Wed Nov 11 2026. No macro, syntax, notation, axiom, sorry.
-/
import Derived.Test.YtgjnnbomnoafcaaGreatDoorRows
import GoSem.ClaimSeven
namespace Go.Proofs.YtgjnnbomnoafcaaGreatDoor
namespace Rows

/-- THE TIED CARD OF 'stavelaw8.RackPlays'. -/
def rackPlaysCard : Claim7 := { stood := { row := rackPlaysRow, standIns := [], harness := (true, "faf3cd5ff00875a54f6a608788494961345aefece9ca848031828fc03b572bca"), looks := true }, kinds := [], alts := [], laidByText := true, laidKinds := [.handle], laidTests := true, laidLooks := .later }
def RackPlaysCardSaid : Prop := Claim7.holds Tryz.pinned (.plain (OpenSpec.ofChange rackPlaysSpec)) rackPlaysCard

/-- THE TIED CARD OF 'stavelaw9.SuperPlays'. -/
def superPlaysCard : Claim7 := { stood := { row := superPlaysRow, standIns := [], harness := (true, "faf3cd5ff00875a54f6a608788494961345aefece9ca848031828fc03b572bca"), looks := true }, kinds := [], alts := [], laidByText := true, laidKinds := [.handle], laidTests := true, laidLooks := .later }
def SuperPlaysCardSaid : Prop := Claim7.holds Tryz.pinned (.plain (OpenSpec.ofChange superPlaysSpec)) superPlaysCard

/-- THE TIED CARD OF 'stavelaw10.JournalPlays'. -/
def journalPlaysCard : Claim7 := { stood := { row := journalPlaysRow, standIns := [], harness := (true, "faf3cd5ff00875a54f6a608788494961345aefece9ca848031828fc03b572bca"), looks := true }, kinds := [], alts := [], laidByText := true, laidKinds := [.handle], laidTests := true, laidLooks := .later }
def JournalPlaysCardSaid : Prop := Claim7.holds Tryz.pinned (.plain (OpenSpec.ofChange journalPlaysSpec)) journalPlaysCard

/-- THE TIED CARD OF 'stavelaw11.StripePlays'. -/
def stripePlaysCard : Claim7 := { stood := { row := stripePlaysRow, standIns := [], harness := (true, "faf3cd5ff00875a54f6a608788494961345aefece9ca848031828fc03b572bca"), looks := true }, kinds := [], alts := [], laidByText := true, laidKinds := [.handle], laidTests := true, laidLooks := .later }
def StripePlaysCardSaid : Prop := Claim7.holds Tryz.pinned (.plain (OpenSpec.ofChange stripePlaysSpec)) stripePlaysCard

/-- THE TIED CARD OF 'stavelaw12.VolumePlays'. -/
def volumePlaysCard : Claim7 := { stood := { row := volumePlaysRow, standIns := [], harness := (true, "faf3cd5ff00875a54f6a608788494961345aefece9ca848031828fc03b572bca"), looks := true }, kinds := [], alts := [], laidByText := true, laidKinds := [.handle], laidTests := true, laidLooks := .later }
def VolumePlaysCardSaid : Prop := Claim7.holds Tryz.pinned (.plain (OpenSpec.ofChange volumePlaysSpec)) volumePlaysCard

/-- THE TIED CARD OF 'stavelaw14.TapePlays'. -/
def tapePlaysCard : Claim7 := { stood := { row := tapePlaysRow, standIns := [], harness := (true, "faf3cd5ff00875a54f6a608788494961345aefece9ca848031828fc03b572bca"), looks := true }, kinds := [], alts := [], laidByText := true, laidKinds := [.handle], laidTests := true, laidLooks := .later }
def TapePlaysCardSaid : Prop := Claim7.holds Tryz.pinned (.plain (OpenSpec.ofChange tapePlaysSpec)) tapePlaysCard

/-- THE SECOND FORM's CARD OF 'stavelaw8.RackPlays'. -/
def rackPlaysUptoCard : Claim7 := { stood := { row := rackPlaysUptoRow, standIns := [], harness := (true, "faf3cd5ff00875a54f6a608788494961345aefece9ca848031828fc03b572bca"), looks := true }, kinds := [], alts := [], laidByText := true, laidKinds := [.handle], laidTests := true, laidLooks := .later }
def RackPlaysUptoCardSaid : Prop := Claim7.holds Tryz.pinned (.plain (OpenSpec.upto rackPlaysSpec)) rackPlaysUptoCard

/-- THE SECOND FORM's CARD OF 'stavelaw9.SuperPlays'. -/
def superPlaysUptoCard : Claim7 := { stood := { row := superPlaysUptoRow, standIns := [], harness := (true, "faf3cd5ff00875a54f6a608788494961345aefece9ca848031828fc03b572bca"), looks := true }, kinds := [], alts := [], laidByText := true, laidKinds := [.handle], laidTests := true, laidLooks := .later }
def SuperPlaysUptoCardSaid : Prop := Claim7.holds Tryz.pinned (.plain (OpenSpec.upto superPlaysSpec)) superPlaysUptoCard

/-- THE SECOND FORM's CARD OF 'stavelaw10.JournalPlays'. -/
def journalPlaysUptoCard : Claim7 := { stood := { row := journalPlaysUptoRow, standIns := [], harness := (true, "faf3cd5ff00875a54f6a608788494961345aefece9ca848031828fc03b572bca"), looks := true }, kinds := [], alts := [], laidByText := true, laidKinds := [.handle], laidTests := true, laidLooks := .later }
def JournalPlaysUptoCardSaid : Prop := Claim7.holds Tryz.pinned (.plain (OpenSpec.upto journalPlaysSpec)) journalPlaysUptoCard

/-- THE SECOND FORM's CARD OF 'stavelaw11.StripePlays'. -/
def stripePlaysUptoCard : Claim7 := { stood := { row := stripePlaysUptoRow, standIns := [], harness := (true, "faf3cd5ff00875a54f6a608788494961345aefece9ca848031828fc03b572bca"), looks := true }, kinds := [], alts := [], laidByText := true, laidKinds := [.handle], laidTests := true, laidLooks := .later }
def StripePlaysUptoCardSaid : Prop := Claim7.holds Tryz.pinned (.plain (OpenSpec.upto stripePlaysSpec)) stripePlaysUptoCard

/-- THE SECOND FORM's CARD OF 'stavelaw12.VolumePlays'. -/
def volumePlaysUptoCard : Claim7 := { stood := { row := volumePlaysUptoRow, standIns := [], harness := (true, "faf3cd5ff00875a54f6a608788494961345aefece9ca848031828fc03b572bca"), looks := true }, kinds := [], alts := [], laidByText := true, laidKinds := [.handle], laidTests := true, laidLooks := .later }
def VolumePlaysUptoCardSaid : Prop := Claim7.holds Tryz.pinned (.plain (OpenSpec.upto volumePlaysSpec)) volumePlaysUptoCard

/-- THE SECOND FORM's CARD OF 'stavelaw14.TapePlays'. -/
def tapePlaysUptoCard : Claim7 := { stood := { row := tapePlaysUptoRow, standIns := [], harness := (true, "faf3cd5ff00875a54f6a608788494961345aefece9ca848031828fc03b572bca"), looks := true }, kinds := [], alts := [], laidByText := true, laidKinds := [.handle], laidTests := true, laidLooks := .later }
def TapePlaysUptoCardSaid : Prop := Claim7.holds Tryz.pinned (.plain (OpenSpec.upto tapePlaysSpec)) tapePlaysUptoCard
end Rows
end Go.Proofs.YtgjnnbomnoafcaaGreatDoor
