/-
  DERIVED. GIVEN WITH THE SEED: THE CARDS: each row of YtmjembnciffgfaaDoorRows.lean that lists a variable, with what it lists TIED to the program's text (the seventh form; the later family's looks); each row that meets fmt, with fmt's text TOLD by the authors' own Lean function (tested against real Go, not proved from fmt's source: count such statements apart). THE CARD IS WHAT COUNTS. Prove the row's statement (the work); the ties are given (YtmjembnciffgfaaDoorTie.lean); close each card by the builder's one call (the guide's Derived/Test/ToyasCard.lean, 'card_holds'). Laid BY PROGRAM, IN A SANDBOX (cutbox-door.mjs). By AI agents, Wed Nov 11 2026. No macro, syntax, notation, axiom, sorry.
-/
import Derived.Test.YtmjembnciffgfaaDoorRows
import GoSem.ClaimSeven
namespace Go.Proofs.YtmjembnciffgfaaDoor
namespace Rows

/-- THE TIED CARD OF 'stavelaw10.JournalRuns'. -/
def journalRunsCard : Claim7 := { stood := { row := journalRunsRow, standIns := [], harness := (true, "24e5812b948f2c9b85d201dc8badf4eaee7fb8c9a31ded879c271ad3f1c97e3e"), looks := true }, kinds := [], alts := [], laidByText := true, laidKinds := [.handle], laidTests := true, laidLooks := .later }
def JournalRunsCardSaid : Prop := Claim7.holds Tryd.pinned (.plain (OpenSpec.ofChange journalRunsSpec)) journalRunsCard

/-- THE TIED CARD OF 'stavelaw10.JournalRing'. -/
def journalRingCard : Claim7 := { stood := { row := journalRingRow, standIns := [], harness := (true, "24e5812b948f2c9b85d201dc8badf4eaee7fb8c9a31ded879c271ad3f1c97e3e"), looks := true }, kinds := [], alts := [], laidByText := true, laidKinds := [.handle], laidTests := true, laidLooks := .later }
def JournalRingCardSaid : Prop := Claim7.holds Tryd.pinned (.plain (OpenSpec.ofChange journalRingSpec)) journalRingCard

/-- THE TIED CARD OF 'stavelaw10.JournalLost'. -/
def journalLostCard : Claim7 := { stood := { row := journalLostRow, standIns := [], harness := (true, "24e5812b948f2c9b85d201dc8badf4eaee7fb8c9a31ded879c271ad3f1c97e3e"), looks := true }, kinds := [], alts := [], laidByText := true, laidKinds := [.handle], laidTests := true, laidLooks := .later }
def JournalLostCardSaid : Prop := Claim7.holds Tryd.pinned (.plain (OpenSpec.ofChange journalLostSpec)) journalLostCard

/-- THE TIED CARD OF 'stavelaw10.JournalOne'. -/
def journalOneCard : Claim7 := { stood := { row := journalOneRow, standIns := [], harness := (true, "24e5812b948f2c9b85d201dc8badf4eaee7fb8c9a31ded879c271ad3f1c97e3e"), looks := true }, kinds := [], alts := [], laidByText := true, laidKinds := [.handle], laidTests := true, laidLooks := .later }
def JournalOneCardSaid : Prop := Claim7.holds Tryd.pinned (.plain (OpenSpec.ofChange journalOneSpec)) journalOneCard

/-- THE TIED CARD OF 'stavelaw10.JournalCut'. -/
def journalCutCard : Claim7 := { stood := { row := journalCutRow, standIns := [], harness := (true, "24e5812b948f2c9b85d201dc8badf4eaee7fb8c9a31ded879c271ad3f1c97e3e"), looks := true }, kinds := [], alts := [], laidByText := true, laidKinds := [.handle], laidTests := true, laidLooks := .later }
def JournalCutCardSaid : Prop := Claim7.holds Tryd.pinned (.plain (OpenSpec.ofChange journalCutSpec)) journalCutCard

/-- THE TIED CARD OF 'stavelaw10.JournalUnion'. -/
def journalUnionCard : Claim7 := { stood := { row := journalUnionRow, standIns := [], harness := (true, "24e5812b948f2c9b85d201dc8badf4eaee7fb8c9a31ded879c271ad3f1c97e3e"), looks := true }, kinds := [], alts := [], laidByText := true, laidKinds := [.handle], laidTests := true, laidLooks := .later }
def JournalUnionCardSaid : Prop := Claim7.holds Tryd.pinned (.plain (OpenSpec.ofChange journalUnionSpec)) journalUnionCard

/-- THE SECOND FORM's CARD OF 'stavelaw10.JournalRuns'. -/
def journalRunsUptoCard : Claim7 := { stood := { row := journalRunsUptoRow, standIns := [], harness := (true, "24e5812b948f2c9b85d201dc8badf4eaee7fb8c9a31ded879c271ad3f1c97e3e"), looks := true }, kinds := [], alts := [], laidByText := true, laidKinds := [.handle], laidTests := true, laidLooks := .later }
def JournalRunsUptoCardSaid : Prop := Claim7.holds Tryd.pinned (.plain (OpenSpec.upto journalRunsSpec)) journalRunsUptoCard

/-- THE SECOND FORM's CARD OF 'stavelaw10.JournalRing'. -/
def journalRingUptoCard : Claim7 := { stood := { row := journalRingUptoRow, standIns := [], harness := (true, "24e5812b948f2c9b85d201dc8badf4eaee7fb8c9a31ded879c271ad3f1c97e3e"), looks := true }, kinds := [], alts := [], laidByText := true, laidKinds := [.handle], laidTests := true, laidLooks := .later }
def JournalRingUptoCardSaid : Prop := Claim7.holds Tryd.pinned (.plain (OpenSpec.upto journalRingSpec)) journalRingUptoCard

/-- THE SECOND FORM's CARD OF 'stavelaw10.JournalLost'. -/
def journalLostUptoCard : Claim7 := { stood := { row := journalLostUptoRow, standIns := [], harness := (true, "24e5812b948f2c9b85d201dc8badf4eaee7fb8c9a31ded879c271ad3f1c97e3e"), looks := true }, kinds := [], alts := [], laidByText := true, laidKinds := [.handle], laidTests := true, laidLooks := .later }
def JournalLostUptoCardSaid : Prop := Claim7.holds Tryd.pinned (.plain (OpenSpec.upto journalLostSpec)) journalLostUptoCard

/-- THE SECOND FORM's CARD OF 'stavelaw10.JournalOne'. -/
def journalOneUptoCard : Claim7 := { stood := { row := journalOneUptoRow, standIns := [], harness := (true, "24e5812b948f2c9b85d201dc8badf4eaee7fb8c9a31ded879c271ad3f1c97e3e"), looks := true }, kinds := [], alts := [], laidByText := true, laidKinds := [.handle], laidTests := true, laidLooks := .later }
def JournalOneUptoCardSaid : Prop := Claim7.holds Tryd.pinned (.plain (OpenSpec.upto journalOneSpec)) journalOneUptoCard

/-- THE SECOND FORM's CARD OF 'stavelaw10.JournalCut'. -/
def journalCutUptoCard : Claim7 := { stood := { row := journalCutUptoRow, standIns := [], harness := (true, "24e5812b948f2c9b85d201dc8badf4eaee7fb8c9a31ded879c271ad3f1c97e3e"), looks := true }, kinds := [], alts := [], laidByText := true, laidKinds := [.handle], laidTests := true, laidLooks := .later }
def JournalCutUptoCardSaid : Prop := Claim7.holds Tryd.pinned (.plain (OpenSpec.upto journalCutSpec)) journalCutUptoCard

/-- THE SECOND FORM's CARD OF 'stavelaw10.JournalUnion'. -/
def journalUnionUptoCard : Claim7 := { stood := { row := journalUnionUptoRow, standIns := [], harness := (true, "24e5812b948f2c9b85d201dc8badf4eaee7fb8c9a31ded879c271ad3f1c97e3e"), looks := true }, kinds := [], alts := [], laidByText := true, laidKinds := [.handle], laidTests := true, laidLooks := .later }
def JournalUnionUptoCardSaid : Prop := Claim7.holds Tryd.pinned (.plain (OpenSpec.upto journalUnionSpec)) journalUnionUptoCard
end Rows
end Go.Proofs.YtmjembnciffgfaaDoor
