/-
  DERIVED. GIVEN WITH THE SEED: THE CARDS: each row of YtkofmabonpbegaaGreatDoorRows.lean that lists a variable, with what it lists TIED to the program's text (the seventh form; the later family's looks); each row that meets fmt, with fmt's text TOLD by the authors' own Lean function (tested against real Go, not proved from fmt's source: count such statements apart). THE CARD IS WHAT COUNTS. Prove the row's statement (the work); the ties are given (YtkofmabonpbegaaGreatDoorTie.lean); close each card by the builder's one call (the guide's Derived/Test/ToyasCard.lean, 'card_holds'). Laid BY PROGRAM, IN A SANDBOX (cutbox-door.mjs). By AI agents, Wed Nov 11 2026. No macro, syntax, notation, axiom, sorry.
-/
import Derived.Test.YtkofmabonpbegaaGreatDoorRows
import GoSem.ClaimSeven
namespace Go.Proofs.YtkofmabonpbegaaGreatDoor
namespace Rows

/-- THE TIED CARD OF 'stavelaw11.StripeOlder'. -/
def stripeOlderCard : Claim7 := { stood := { row := stripeOlderRow, standIns := [], harness := (true, "c2a98d723d65909e70b11b01eff72db5bcb78a4fb8e7f2a6b169bd298c51fa36"), looks := true }, kinds := [], alts := [], laidByText := true, laidKinds := [.handle], laidTests := true, laidLooks := .later }
def StripeOlderCardSaid : Prop := Claim7.holds Tryz.pinned (.plain (OpenSpec.ofChange stripeOlderSpec)) stripeOlderCard

/-- THE TIED CARD OF 'stavelaw11.StripeNever'. -/
def stripeNeverCard : Claim7 := { stood := { row := stripeNeverRow, standIns := [], harness := (true, "c2a98d723d65909e70b11b01eff72db5bcb78a4fb8e7f2a6b169bd298c51fa36"), looks := true }, kinds := [], alts := [], laidByText := true, laidKinds := [.handle], laidTests := true, laidLooks := .later }
def StripeNeverCardSaid : Prop := Claim7.holds Tryz.pinned (.plain (OpenSpec.ofChange stripeNeverSpec)) stripeNeverCard

/-- THE TIED CARD OF 'stavelaw11.StripeBudget'. -/
def stripeBudgetCard : Claim7 := { stood := { row := stripeBudgetRow, standIns := [], harness := (true, "c2a98d723d65909e70b11b01eff72db5bcb78a4fb8e7f2a6b169bd298c51fa36"), looks := true }, kinds := [], alts := [], laidByText := true, laidKinds := [.handle], laidTests := true, laidLooks := .later }
def StripeBudgetCardSaid : Prop := Claim7.holds Tryz.pinned (.plain (OpenSpec.ofChange stripeBudgetSpec)) stripeBudgetCard

/-- THE SECOND FORM's CARD OF 'stavelaw11.StripeOlder'. -/
def stripeOlderUptoCard : Claim7 := { stood := { row := stripeOlderUptoRow, standIns := [], harness := (true, "c2a98d723d65909e70b11b01eff72db5bcb78a4fb8e7f2a6b169bd298c51fa36"), looks := true }, kinds := [], alts := [], laidByText := true, laidKinds := [.handle], laidTests := true, laidLooks := .later }
def StripeOlderUptoCardSaid : Prop := Claim7.holds Tryz.pinned (.plain (OpenSpec.upto stripeOlderSpec)) stripeOlderUptoCard

/-- THE SECOND FORM's CARD OF 'stavelaw11.StripeNever'. -/
def stripeNeverUptoCard : Claim7 := { stood := { row := stripeNeverUptoRow, standIns := [], harness := (true, "c2a98d723d65909e70b11b01eff72db5bcb78a4fb8e7f2a6b169bd298c51fa36"), looks := true }, kinds := [], alts := [], laidByText := true, laidKinds := [.handle], laidTests := true, laidLooks := .later }
def StripeNeverUptoCardSaid : Prop := Claim7.holds Tryz.pinned (.plain (OpenSpec.upto stripeNeverSpec)) stripeNeverUptoCard

/-- THE SECOND FORM's CARD OF 'stavelaw11.StripeBudget'. -/
def stripeBudgetUptoCard : Claim7 := { stood := { row := stripeBudgetUptoRow, standIns := [], harness := (true, "c2a98d723d65909e70b11b01eff72db5bcb78a4fb8e7f2a6b169bd298c51fa36"), looks := true }, kinds := [], alts := [], laidByText := true, laidKinds := [.handle], laidTests := true, laidLooks := .later }
def StripeBudgetUptoCardSaid : Prop := Claim7.holds Tryz.pinned (.plain (OpenSpec.upto stripeBudgetSpec)) stripeBudgetUptoCard
end Rows
end Go.Proofs.YtkofmabonpbegaaGreatDoor
