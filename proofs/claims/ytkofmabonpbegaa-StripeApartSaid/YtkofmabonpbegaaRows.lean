/-
  No cell of these rows narrows 'for every input' (looked for: loops, veiled, ifaces, maps, wideKeys, modest, calm, conditions, laid).
  DERIVED. THE GIVEN ROWS OF THIS SEAT. 3 by the template 'for every input the law returns true; each argument reads behind the call as it read before'; 0 by the template 'total and deterministic' (their statements: YtkofmabonpbegaaTotals.lean).
  GIVEN WITH THE SEED: the statements are not yours to turn. If you find one false, say at which input.
  Laid BY PROGRAM, IN A SANDBOX (cutbox-rows.mjs): the forced cells as the released guide's own fill.sh prints them over the translation 8b38bcc3ecfed15f… (all of the seat's roots in one cut). By AI agents, Wed Nov 11 2026. No macro, syntax, notation, axiom, sorry.
-/
import Derived.Test.YtkofmabonpbegaaChecked
import GoSem.Claim
import GoSem.ClaimJoined
import GoSem.ClaimMapViews
import Derived.JoinedTies
import Derived.KernelRfl
namespace Go.Proofs.Ytkofmabonpbegaa
/- THE CELL 'sum', in the pinned program and in every row, IS THE sha256 OF THE DUMP (.gsa) THAT YtkofmabonpbegaaProg.lean LOADS. Nothing in Lean hashes anything: it is a label: what it is worth is what the hold of that sum in a sandbox is worth. -/
noncomputable def Try.pinned : Pinned := { name := "ytkofmabonpbegaa", sum := "8b38bcc3ecfed15fec7371fd329b75af1a51e962c941ef03ffe7b9ac57ac4a35", checked := Try.checked }
namespace Rows
def none {H : Type} : Left H := { results := [], args := [] }

/-- 'stavelaw11.StripeRuns': WHATEVER THE INPUT: true; the input reads as it did. -/
def stripeRunsSpec : ChangeSpec := { name := "stripeRuns", fn := fun _ => fun
  | [] => { results := [.lit (.bool true)], args := [] }
  | _ => none }
def stripeRunsRow : OpenClaim := { program := "ytkofmabonpbegaa", sum := "8b38bcc3ecfed15fec7371fd329b75af1a51e962c941ef03ffe7b9ac57ac4a35", func := "stave/stavelaw11.StripeRuns", spec := "stripeRuns", unfollowed := true, recurses := true, apart := false }
def StripeRunsSaid : Prop := stripeRunsRow.holds Try.pinned (OpenSpec.ofChange stripeRunsSpec)

/-- ITS FALSE NEIGHBOUR: 'it returns false'. Refute it at one input. -/
def stripeRunsWrong : ChangeSpec := { name := "stripeRuns", fn := fun _ => fun
  | [] => { results := [.lit (.bool false)], args := [] }
  | _ => none }
def StripeRunsWrongFalsely : Prop := stripeRunsRow.holds Try.pinned (OpenSpec.ofChange stripeRunsWrong)

/-- 'stavelaw11.StripeApart': WHATEVER THE INPUT: true; the input reads as it did. -/
def stripeApartSpec : ChangeSpec := { name := "stripeApart", fn := fun _ => fun
  | [d1, d2, d3, d4] => { results := [.lit (.bool true)], args := [d1, d2, d3, d4] }
  | _ => none }
def stripeApartRow : OpenClaim := { program := "ytkofmabonpbegaa", sum := "8b38bcc3ecfed15fec7371fd329b75af1a51e962c941ef03ffe7b9ac57ac4a35", func := "stave/stavelaw11.StripeApart", spec := "stripeApart", unfollowed := true, recurses := true, apart := false }
def StripeApartSaid : Prop := stripeApartRow.holds Try.pinned (OpenSpec.ofChange stripeApartSpec)

/-- ITS FALSE NEIGHBOUR: 'it returns false'. Refute it at one input. -/
def stripeApartWrong : ChangeSpec := { name := "stripeApart", fn := fun _ => fun
  | [d1, d2, d3, d4] => { results := [.lit (.bool false)], args := [d1, d2, d3, d4] }
  | _ => none }
def StripeApartWrongFalsely : Prop := stripeApartRow.holds Try.pinned (OpenSpec.ofChange stripeApartWrong)

/-- 'stavelaw11.StripeLook': WHATEVER THE INPUT: true; the input reads as it did. -/
def stripeLookSpec : ChangeSpec := { name := "stripeLook", fn := fun _ => fun
  | [d1, d2, d3, d4, d5] => { results := [.lit (.bool true)], args := [d1, d2, d3, d4, d5] }
  | _ => none }
def stripeLookRow : OpenClaim := { program := "ytkofmabonpbegaa", sum := "8b38bcc3ecfed15fec7371fd329b75af1a51e962c941ef03ffe7b9ac57ac4a35", func := "stave/stavelaw11.StripeLook", spec := "stripeLook", unfollowed := true, recurses := true, apart := false }
def StripeLookSaid : Prop := stripeLookRow.holds Try.pinned (OpenSpec.ofChange stripeLookSpec)

/-- ITS FALSE NEIGHBOUR: 'it returns false'. Refute it at one input. -/
def stripeLookWrong : ChangeSpec := { name := "stripeLook", fn := fun _ => fun
  | [d1, d2, d3, d4, d5] => { results := [.lit (.bool false)], args := [d1, d2, d3, d4, d5] }
  | _ => none }
def StripeLookWrongFalsely : Prop := stripeLookRow.holds Try.pinned (OpenSpec.ofChange stripeLookWrong)

/- THE SECOND FORM. 'bulk': how many values and letters a reading holds, each counted each time it is reached (what is shared counts as often as it is met; a slice's spare places count too). A statement '..UptoSaid' is the law's where the arguments, and the package variables that the reading takes, are together of bulk at most 1048576: NARROWER than '..Said'. Prove '..Said' where nothing that the law and all that it calls make is longer than what came in: it says more and counts as full. Else prove '..UptoSaid'. A law counts once. -/
mutual
def uptoBulk {H : Type} : DataW H → Nat
  | .lit (.string bytes) => bytes.length + 1
  | .lit _ => 1
  | .nil => 1
  | .ptr d => uptoBulk d + 1
  | .slice elems spare => uptoBulkAll elems + uptoBulkAll spare + 1
  | .agg parts => uptoBulkAll parts + 1
  | .iface _ d => uptoBulk d + 1
  | .map entries => uptoBulkEntries entries + 1
  | .held _ => 1
def uptoBulkAll {H : Type} : List (DataW H) → Nat
  | [] => 0
  | d :: r => uptoBulk d + uptoBulkAll r
def uptoBulkEntries {H : Type} : List (Lit × DataW H) → Nat
  | [] => 0
  | x :: r => uptoBulkEntry x + uptoBulkEntries r
def uptoBulkEntry {H : Type} : Lit × DataW H → Nat
  | (.string bytes, d) => bytes.length + uptoBulk d + 1
  | (_, d) => uptoBulk d + 1
 end
def uptoSmall : (H : Type) → List (DataW H) → Bool := fun _ ds => decide (uptoBulkAll ds ≤ 1048576)
def OpenSpec.upto (s : _root_.Go.ChangeSpec) : _root_.Go.OpenSpec := { _root_.Go.OpenSpec.ofChange s with cond := some uptoSmall }

/-- 'stavelaw11.StripeRuns', WHERE WHAT IT READS IS OF BULK AT MOST 1048576: true; the input reads as it did. -/
def stripeRunsUptoRow : OpenClaim := { program := "ytkofmabonpbegaa", sum := "8b38bcc3ecfed15fec7371fd329b75af1a51e962c941ef03ffe7b9ac57ac4a35", func := "stave/stavelaw11.StripeRuns", spec := "stripeRuns", unfollowed := true, recurses := true, apart := false, narrowed := true }
def StripeRunsUptoSaid : Prop := stripeRunsUptoRow.holds Try.pinned (OpenSpec.upto stripeRunsSpec)

/-- 'stavelaw11.StripeApart', WHERE WHAT IT READS IS OF BULK AT MOST 1048576: true; the input reads as it did. -/
def stripeApartUptoRow : OpenClaim := { program := "ytkofmabonpbegaa", sum := "8b38bcc3ecfed15fec7371fd329b75af1a51e962c941ef03ffe7b9ac57ac4a35", func := "stave/stavelaw11.StripeApart", spec := "stripeApart", unfollowed := true, recurses := true, apart := false, narrowed := true }
def StripeApartUptoSaid : Prop := stripeApartUptoRow.holds Try.pinned (OpenSpec.upto stripeApartSpec)

/-- 'stavelaw11.StripeLook', WHERE WHAT IT READS IS OF BULK AT MOST 1048576: true; the input reads as it did. -/
def stripeLookUptoRow : OpenClaim := { program := "ytkofmabonpbegaa", sum := "8b38bcc3ecfed15fec7371fd329b75af1a51e962c941ef03ffe7b9ac57ac4a35", func := "stave/stavelaw11.StripeLook", spec := "stripeLook", unfollowed := true, recurses := true, apart := false, narrowed := true }
def StripeLookUptoSaid : Prop := stripeLookUptoRow.holds Try.pinned (OpenSpec.upto stripeLookSpec)

end Rows
end Go.Proofs.Ytkofmabonpbegaa
