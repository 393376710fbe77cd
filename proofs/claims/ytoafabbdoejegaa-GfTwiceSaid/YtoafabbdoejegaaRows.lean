/-
  No cell of these rows narrows 'for every input' (looked for: loops, veiled, ifaces, maps, wideKeys, modest, calm, conditions, laid).
  DERIVED. THE GIVEN ROWS OF THIS SEAT. 7 by the template 'for every input the law returns true; each argument reads behind the call as it read before'; 0 by the template 'total and deterministic' (their statements: YtoafabbdoejegaaTotals.lean).
  GIVEN WITH THE SEED: the statements are not yours to turn. If you find one false, say at which input.
  Laid BY PROGRAM, IN A SANDBOX (cutbox-rows.mjs): the forced cells as the released guide's own fill.sh prints them over the translation 2417dc7f8e49ab34… (all of the seat's roots in one cut). By AI agents, Wed Nov 11 2026. No macro, syntax, notation, axiom, sorry.
-/
import Derived.Test.YtoafabbdoejegaaChecked
import GoSem.Claim
import GoSem.ClaimJoined
import GoSem.ClaimMapViews
import Derived.JoinedTies
import Derived.KernelRfl
namespace Go.Proofs.Ytoafabbdoejegaa
/- THE CELL 'sum', in the pinned program and in every row, IS THE sha256 OF THE DUMP (.gsa) THAT YtoafabbdoejegaaProg.lean LOADS. Nothing in Lean hashes anything: it is a label: what it is worth is what the hold of that sum in a sandbox is worth. -/
noncomputable def Try.pinned : Pinned := { name := "ytoafabbdoejegaa", sum := "2417dc7f8e49ab3459839a5ab3f7c1a63d6c6312b010528f007a2d6479e82f4c", checked := Try.checked }
namespace Rows
def none {H : Type} : Left H := { results := [], args := [] }

/-- 'stavelaw3.GfRuns': WHATEVER THE INPUT: true; the input reads as it did. -/
def gfRunsSpec : ChangeSpec := { name := "gfRuns", fn := fun _ => fun
  | [] => { results := [.lit (.bool true)], args := [] }
  | _ => none }
def gfRunsRow : OpenClaim := { program := "ytoafabbdoejegaa", sum := "2417dc7f8e49ab3459839a5ab3f7c1a63d6c6312b010528f007a2d6479e82f4c", func := "stave/stavelaw3.GfRuns", spec := "gfRuns", apart := false }
def GfRunsSaid : Prop := gfRunsRow.holds Try.pinned (OpenSpec.ofChange gfRunsSpec)

/-- ITS FALSE NEIGHBOUR: 'it returns false'. Refute it at one input. -/
def gfRunsWrong : ChangeSpec := { name := "gfRuns", fn := fun _ => fun
  | [] => { results := [.lit (.bool false)], args := [] }
  | _ => none }
def GfRunsWrongFalsely : Prop := gfRunsRow.holds Try.pinned (OpenSpec.ofChange gfRunsWrong)

/-- 'stavelaw3.GfLogs': WHATEVER THE INPUT: true; the input reads as it did. -/
def gfLogsSpec : ChangeSpec := { name := "gfLogs", fn := fun _ => fun
  | [d1, d2, d3] => { results := [.lit (.bool true)], args := [d1, d2, d3] }
  | _ => none }
def gfLogsRow : OpenClaim := { program := "ytoafabbdoejegaa", sum := "2417dc7f8e49ab3459839a5ab3f7c1a63d6c6312b010528f007a2d6479e82f4c", func := "stave/stavelaw3.GfLogs", spec := "gfLogs", apart := false }
def GfLogsSaid : Prop := gfLogsRow.holds Try.pinned (OpenSpec.ofChange gfLogsSpec)

/-- ITS FALSE NEIGHBOUR: 'it returns false'. Refute it at one input. -/
def gfLogsWrong : ChangeSpec := { name := "gfLogs", fn := fun _ => fun
  | [d1, d2, d3] => { results := [.lit (.bool false)], args := [d1, d2, d3] }
  | _ => none }
def GfLogsWrongFalsely : Prop := gfLogsRow.holds Try.pinned (OpenSpec.ofChange gfLogsWrong)

/-- 'stavelaw3.GfPowers': WHATEVER THE INPUT: true; the input reads as it did. -/
def gfPowersSpec : ChangeSpec := { name := "gfPowers", fn := fun _ => fun
  | [d1, d2] => { results := [.lit (.bool true)], args := [d1, d2] }
  | _ => none }
def gfPowersRow : OpenClaim := { program := "ytoafabbdoejegaa", sum := "2417dc7f8e49ab3459839a5ab3f7c1a63d6c6312b010528f007a2d6479e82f4c", func := "stave/stavelaw3.GfPowers", spec := "gfPowers", apart := false }
def GfPowersSaid : Prop := gfPowersRow.holds Try.pinned (OpenSpec.ofChange gfPowersSpec)

/-- ITS FALSE NEIGHBOUR: 'it returns false'. Refute it at one input. -/
def gfPowersWrong : ChangeSpec := { name := "gfPowers", fn := fun _ => fun
  | [d1, d2] => { results := [.lit (.bool false)], args := [d1, d2] }
  | _ => none }
def GfPowersWrongFalsely : Prop := gfPowersRow.holds Try.pinned (OpenSpec.ofChange gfPowersWrong)

/-- 'stavelaw3.GfTells': WHATEVER THE INPUT: true; the input reads as it did. -/
def gfTellsSpec : ChangeSpec := { name := "gfTells", fn := fun _ => fun
  | [d1, d2] => { results := [.lit (.bool true)], args := [d1, d2] }
  | _ => none }
def gfTellsRow : OpenClaim := { program := "ytoafabbdoejegaa", sum := "2417dc7f8e49ab3459839a5ab3f7c1a63d6c6312b010528f007a2d6479e82f4c", func := "stave/stavelaw3.GfTells", spec := "gfTells", apart := false }
def GfTellsSaid : Prop := gfTellsRow.holds Try.pinned (OpenSpec.ofChange gfTellsSpec)

/-- ITS FALSE NEIGHBOUR: 'it returns false'. Refute it at one input. -/
def gfTellsWrong : ChangeSpec := { name := "gfTells", fn := fun _ => fun
  | [d1, d2] => { results := [.lit (.bool false)], args := [d1, d2] }
  | _ => none }
def GfTellsWrongFalsely : Prop := gfTellsRow.holds Try.pinned (OpenSpec.ofChange gfTellsWrong)

/-- 'stavelaw3.GfField': WHATEVER THE INPUT: true; the input reads as it did. -/
def gfFieldSpec : ChangeSpec := { name := "gfField", fn := fun _ => fun
  | [d1, d2, d3] => { results := [.lit (.bool true)], args := [d1, d2, d3] }
  | _ => none }
def gfFieldRow : OpenClaim := { program := "ytoafabbdoejegaa", sum := "2417dc7f8e49ab3459839a5ab3f7c1a63d6c6312b010528f007a2d6479e82f4c", func := "stave/stavelaw3.GfField", spec := "gfField", apart := false }
def GfFieldSaid : Prop := gfFieldRow.holds Try.pinned (OpenSpec.ofChange gfFieldSpec)

/-- ITS FALSE NEIGHBOUR: 'it returns false'. Refute it at one input. -/
def gfFieldWrong : ChangeSpec := { name := "gfField", fn := fun _ => fun
  | [d1, d2, d3] => { results := [.lit (.bool false)], args := [d1, d2, d3] }
  | _ => none }
def GfFieldWrongFalsely : Prop := gfFieldRow.holds Try.pinned (OpenSpec.ofChange gfFieldWrong)

/-- 'stavelaw3.GfAdds': WHATEVER THE INPUT: true; the input reads as it did. -/
def gfAddsSpec : ChangeSpec := { name := "gfAdds", fn := fun _ => fun
  | [d1, d2, d3] => { results := [.lit (.bool true)], args := [d1, d2, d3] }
  | _ => none }
def gfAddsRow : OpenClaim := { program := "ytoafabbdoejegaa", sum := "2417dc7f8e49ab3459839a5ab3f7c1a63d6c6312b010528f007a2d6479e82f4c", func := "stave/stavelaw3.GfAdds", spec := "gfAdds", apart := false }
def GfAddsSaid : Prop := gfAddsRow.holds Try.pinned (OpenSpec.ofChange gfAddsSpec)

/-- ITS FALSE NEIGHBOUR: 'it returns false'. Refute it at one input. -/
def gfAddsWrong : ChangeSpec := { name := "gfAdds", fn := fun _ => fun
  | [d1, d2, d3] => { results := [.lit (.bool false)], args := [d1, d2, d3] }
  | _ => none }
def GfAddsWrongFalsely : Prop := gfAddsRow.holds Try.pinned (OpenSpec.ofChange gfAddsWrong)

/-- 'stavelaw3.GfTwice': WHATEVER THE INPUT: true; the input reads as it did. -/
def gfTwiceSpec : ChangeSpec := { name := "gfTwice", fn := fun _ => fun
  | [d1, d2, d3, d4, d5] => { results := [.lit (.bool true)], args := [d1, d2, d3, d4, d5] }
  | _ => none }
def gfTwiceRow : OpenClaim := { program := "ytoafabbdoejegaa", sum := "2417dc7f8e49ab3459839a5ab3f7c1a63d6c6312b010528f007a2d6479e82f4c", func := "stave/stavelaw3.GfTwice", spec := "gfTwice", apart := false }
def GfTwiceSaid : Prop := gfTwiceRow.holds Try.pinned (OpenSpec.ofChange gfTwiceSpec)

/-- ITS FALSE NEIGHBOUR: 'it returns false'. Refute it at one input. -/
def gfTwiceWrong : ChangeSpec := { name := "gfTwice", fn := fun _ => fun
  | [d1, d2, d3, d4, d5] => { results := [.lit (.bool false)], args := [d1, d2, d3, d4, d5] }
  | _ => none }
def GfTwiceWrongFalsely : Prop := gfTwiceRow.holds Try.pinned (OpenSpec.ofChange gfTwiceWrong)

/- THE SECOND FORM. 'bulk': how many values and letters a reading holds, each counted each time it is reached (what is shared counts as often as it is met; a slice's spare places count too). A statement '..UptoSaid' is the law's where the arguments, and the package variables that the reading takes, are together of bulk at most 1048576: NARROWER than '..Said'. Prove '..Said' where nothing that the law and all that it calls make is longer than what came in: it says more and counts as full. Else prove '..UptoSaid'. A law counts once. -/
mutual
def uptoBulk {H : Type} : DataW H → Nat
  | .lit (.string bytes) => bytes.length + 1
  | .lit _ => 1
  | .nil => 1
  | .ptr d => uptoBulk d + 1
  | .slice elems spare => uptoBulkAll elems + uptoBulkAll spare + 1
  | .agg parts => uptoBulkAll parts + 1
  | .iface _ d => uptoBulk d + 1
  | .map entries => uptoBulkEntries entries + 1
  | .held _ => 1
def uptoBulkAll {H : Type} : List (DataW H) → Nat
  | [] => 0
  | d :: r => uptoBulk d + uptoBulkAll r
def uptoBulkEntries {H : Type} : List (Lit × DataW H) → Nat
  | [] => 0
  | x :: r => uptoBulkEntry x + uptoBulkEntries r
def uptoBulkEntry {H : Type} : Lit × DataW H → Nat
  | (.string bytes, d) => bytes.length + uptoBulk d + 1
  | (_, d) => uptoBulk d + 1
 end
def uptoSmall : (H : Type) → List (DataW H) → Bool := fun _ ds => decide (uptoBulkAll ds ≤ 1048576)
def OpenSpec.upto (s : _root_.Go.ChangeSpec) : _root_.Go.OpenSpec := { _root_.Go.OpenSpec.ofChange s with cond := some uptoSmall }

/-- 'stavelaw3.GfRuns', WHERE WHAT IT READS IS OF BULK AT MOST 1048576: true; the input reads as it did. -/
def gfRunsUptoRow : OpenClaim := { program := "ytoafabbdoejegaa", sum := "2417dc7f8e49ab3459839a5ab3f7c1a63d6c6312b010528f007a2d6479e82f4c", func := "stave/stavelaw3.GfRuns", spec := "gfRuns", apart := false, narrowed := true }
def GfRunsUptoSaid : Prop := gfRunsUptoRow.holds Try.pinned (OpenSpec.upto gfRunsSpec)

/-- 'stavelaw3.GfLogs', WHERE WHAT IT READS IS OF BULK AT MOST 1048576: true; the input reads as it did. -/
def gfLogsUptoRow : OpenClaim := { program := "ytoafabbdoejegaa", sum := "2417dc7f8e49ab3459839a5ab3f7c1a63d6c6312b010528f007a2d6479e82f4c", func := "stave/stavelaw3.GfLogs", spec := "gfLogs", apart := false, narrowed := true }
def GfLogsUptoSaid : Prop := gfLogsUptoRow.holds Try.pinned (OpenSpec.upto gfLogsSpec)

/-- 'stavelaw3.GfPowers', WHERE WHAT IT READS IS OF BULK AT MOST 1048576: true; the input reads as it did. -/
def gfPowersUptoRow : OpenClaim := { program := "ytoafabbdoejegaa", sum := "2417dc7f8e49ab3459839a5ab3f7c1a63d6c6312b010528f007a2d6479e82f4c", func := "stave/stavelaw3.GfPowers", spec := "gfPowers", apart := false, narrowed := true }
def GfPowersUptoSaid : Prop := gfPowersUptoRow.holds Try.pinned (OpenSpec.upto gfPowersSpec)

/-- 'stavelaw3.GfTells', WHERE WHAT IT READS IS OF BULK AT MOST 1048576: true; the input reads as it did. -/
def gfTellsUptoRow : OpenClaim := { program := "ytoafabbdoejegaa", sum := "2417dc7f8e49ab3459839a5ab3f7c1a63d6c6312b010528f007a2d6479e82f4c", func := "stave/stavelaw3.GfTells", spec := "gfTells", apart := false, narrowed := true }
def GfTellsUptoSaid : Prop := gfTellsUptoRow.holds Try.pinned (OpenSpec.upto gfTellsSpec)

/-- 'stavelaw3.GfField', WHERE WHAT IT READS IS OF BULK AT MOST 1048576: true; the input reads as it did. -/
def gfFieldUptoRow : OpenClaim := { program := "ytoafabbdoejegaa", sum := "2417dc7f8e49ab3459839a5ab3f7c1a63d6c6312b010528f007a2d6479e82f4c", func := "stave/stavelaw3.GfField", spec := "gfField", apart := false, narrowed := true }
def GfFieldUptoSaid : Prop := gfFieldUptoRow.holds Try.pinned (OpenSpec.upto gfFieldSpec)

/-- 'stavelaw3.GfAdds', WHERE WHAT IT READS IS OF BULK AT MOST 1048576: true; the input reads as it did. -/
def gfAddsUptoRow : OpenClaim := { program := "ytoafabbdoejegaa", sum := "2417dc7f8e49ab3459839a5ab3f7c1a63d6c6312b010528f007a2d6479e82f4c", func := "stave/stavelaw3.GfAdds", spec := "gfAdds", apart := false, narrowed := true }
def GfAddsUptoSaid : Prop := gfAddsUptoRow.holds Try.pinned (OpenSpec.upto gfAddsSpec)

/-- 'stavelaw3.GfTwice', WHERE WHAT IT READS IS OF BULK AT MOST 1048576: true; the input reads as it did. -/
def gfTwiceUptoRow : OpenClaim := { program := "ytoafabbdoejegaa", sum := "2417dc7f8e49ab3459839a5ab3f7c1a63d6c6312b010528f007a2d6479e82f4c", func := "stave/stavelaw3.GfTwice", spec := "gfTwice", apart := false, narrowed := true }
def GfTwiceUptoSaid : Prop := gfTwiceUptoRow.holds Try.pinned (OpenSpec.upto gfTwiceSpec)

end Rows
end Go.Proofs.Ytoafabbdoejegaa
