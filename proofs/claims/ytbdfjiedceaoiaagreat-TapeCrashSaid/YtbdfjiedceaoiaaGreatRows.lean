/-
  No cell of these rows narrows 'for every input' (looked for: loops, veiled, ifaces, maps, wideKeys, modest, calm, conditions, laid).
  DERIVED. THE GIVEN ROWS OF THIS SEAT. 3 by the template 'for every input the law returns true; each argument reads behind the call as it read before'; 0 by the template 'total and deterministic' (their statements: YtbdfjiedceaoiaaGreatTotals.lean).
  GIVEN WITH THE SEED: the statements are not yours to turn. If you find one false, say at which input.
  Laid BY PROGRAM, IN A SANDBOX (cutbox-rows.mjs): the forced cells as the released guide's own fill.sh prints them over the translation 5191ff8e3b6cb9e1… (all of the seat's roots in one cut). By AI agents, Wed Nov 11 2026. No macro, syntax, notation, axiom, sorry.
-/
import Derived.Test.YtbdfjiedceaoiaaGreatChecked
import GoSem.Claim
import GoSem.ClaimJoined
import GoSem.ClaimMapViews
import Derived.JoinedTies
import Derived.KernelRfl
namespace Go.Proofs.YtbdfjiedceaoiaaGreat
/- THE CELL 'sum', in the pinned program and in every row, IS THE sha256 OF THE DUMP (.gsa) THAT YtbdfjiedceaoiaaGreatProg.lean LOADS. Nothing in Lean hashes anything: it is a label: what it is worth is what the hold of that sum in a sandbox is worth. -/
noncomputable def Tryz.pinned : Pinned := { name := "ytbdfjiedceaoiaagreat", sum := "5191ff8e3b6cb9e1635c7e06b86ebe9bd086df64c84885b3c7cd2886abf6da75", checked := Tryz.checked }
namespace Rows
def none {H : Type} : Left H := { results := [], args := [] }

/-- 'stavelaw14.TapeRuns': WHATEVER THE INPUT: true; the input reads as it did. -/
def tapeRunsSpec : ChangeSpec := { name := "tapeRuns", fn := fun _ => fun
  | [] => { results := [.lit (.bool true)], args := [] }
  | _ => none }
def tapeRunsRow : OpenClaim := { program := "ytbdfjiedceaoiaagreat", sum := "5191ff8e3b6cb9e1635c7e06b86ebe9bd086df64c84885b3c7cd2886abf6da75", func := "stave/stavelaw14.TapeRuns", spec := "tapeRuns", unfollowed := true, recurses := true, apart := false }
def TapeRunsSaid : Prop := tapeRunsRow.holds Tryz.pinned (OpenSpec.ofChange tapeRunsSpec)

/-- ITS FALSE NEIGHBOUR: 'it returns false'. Refute it at one input. -/
def tapeRunsWrong : ChangeSpec := { name := "tapeRuns", fn := fun _ => fun
  | [] => { results := [.lit (.bool false)], args := [] }
  | _ => none }
def TapeRunsWrongFalsely : Prop := tapeRunsRow.holds Tryz.pinned (OpenSpec.ofChange tapeRunsWrong)

/-- 'stavelaw14.TapeBack': WHATEVER THE INPUT: true; the input reads as it did. -/
def tapeBackSpec : ChangeSpec := { name := "tapeBack", fn := fun _ => fun
  | [d1, d2, d3] => { results := [.lit (.bool true)], args := [d1, d2, d3] }
  | _ => none }
def tapeBackRow : OpenClaim := { program := "ytbdfjiedceaoiaagreat", sum := "5191ff8e3b6cb9e1635c7e06b86ebe9bd086df64c84885b3c7cd2886abf6da75", func := "stave/stavelaw14.TapeBack", spec := "tapeBack", unfollowed := true, recurses := true, apart := false }
def TapeBackSaid : Prop := tapeBackRow.holds Tryz.pinned (OpenSpec.ofChange tapeBackSpec)

/-- ITS FALSE NEIGHBOUR: 'it returns false'. Refute it at one input. -/
def tapeBackWrong : ChangeSpec := { name := "tapeBack", fn := fun _ => fun
  | [d1, d2, d3] => { results := [.lit (.bool false)], args := [d1, d2, d3] }
  | _ => none }
def TapeBackWrongFalsely : Prop := tapeBackRow.holds Tryz.pinned (OpenSpec.ofChange tapeBackWrong)

/-- 'stavelaw14.TapeCrash': WHATEVER THE INPUT: true; the input reads as it did. -/
def tapeCrashSpec : ChangeSpec := { name := "tapeCrash", fn := fun _ => fun
  | [d1, d2, d3, d4, d5, d6] => { results := [.lit (.bool true)], args := [d1, d2, d3, d4, d5, d6] }
  | _ => none }
def tapeCrashRow : OpenClaim := { program := "ytbdfjiedceaoiaagreat", sum := "5191ff8e3b6cb9e1635c7e06b86ebe9bd086df64c84885b3c7cd2886abf6da75", func := "stave/stavelaw14.TapeCrash", spec := "tapeCrash", unfollowed := true, recurses := true, apart := false }
def TapeCrashSaid : Prop := tapeCrashRow.holds Tryz.pinned (OpenSpec.ofChange tapeCrashSpec)

/-- ITS FALSE NEIGHBOUR: 'it returns false'. Refute it at one input. -/
def tapeCrashWrong : ChangeSpec := { name := "tapeCrash", fn := fun _ => fun
  | [d1, d2, d3, d4, d5, d6] => { results := [.lit (.bool false)], args := [d1, d2, d3, d4, d5, d6] }
  | _ => none }
def TapeCrashWrongFalsely : Prop := tapeCrashRow.holds Tryz.pinned (OpenSpec.ofChange tapeCrashWrong)

/- THE SECOND FORM. 'bulk': how many values and letters a reading holds, each counted each time it is reached (what is shared counts as often as it is met; a slice's spare places count too). A statement '..UptoSaid' is the law's where the arguments, and the package variables that the reading takes, are together of bulk at most 1048576: NARROWER than '..Said'. Prove '..Said' where nothing that the law and all that it calls make is longer than what came in: it says more and counts as full. Else prove '..UptoSaid'. A law counts once. -/
mutual
def uptoBulk {H : Type} : DataW H → Nat
  | .lit (.string bytes) => bytes.length + 1
  | .lit _ => 1
  | .nil => 1
  | .ptr d => uptoBulk d + 1
  | .slice elems spare => uptoBulkAll elems + uptoBulkAll spare + 1
  | .agg parts => uptoBulkAll parts + 1
  | .iface _ d => uptoBulk d + 1
  | .map entries => uptoBulkEntries entries + 1
  | .held _ => 1
def uptoBulkAll {H : Type} : List (DataW H) → Nat
  | [] => 0
  | d :: r => uptoBulk d + uptoBulkAll r
def uptoBulkEntries {H : Type} : List (Lit × DataW H) → Nat
  | [] => 0
  | x :: r => uptoBulkEntry x + uptoBulkEntries r
def uptoBulkEntry {H : Type} : Lit × DataW H → Nat
  | (.string bytes, d) => bytes.length + uptoBulk d + 1
  | (_, d) => uptoBulk d + 1
 end
def uptoSmall : (H : Type) → List (DataW H) → Bool := fun _ ds => decide (uptoBulkAll ds ≤ 1048576)
def OpenSpec.upto (s : _root_.Go.ChangeSpec) : _root_.Go.OpenSpec := { _root_.Go.OpenSpec.ofChange s with cond := some uptoSmall }

/-- 'stavelaw14.TapeRuns', WHERE WHAT IT READS IS OF BULK AT MOST 1048576: true; the input reads as it did. -/
def tapeRunsUptoRow : OpenClaim := { program := "ytbdfjiedceaoiaagreat", sum := "5191ff8e3b6cb9e1635c7e06b86ebe9bd086df64c84885b3c7cd2886abf6da75", func := "stave/stavelaw14.TapeRuns", spec := "tapeRuns", unfollowed := true, recurses := true, apart := false, narrowed := true }
def TapeRunsUptoSaid : Prop := tapeRunsUptoRow.holds Tryz.pinned (OpenSpec.upto tapeRunsSpec)

/-- 'stavelaw14.TapeBack', WHERE WHAT IT READS IS OF BULK AT MOST 1048576: true; the input reads as it did. -/
def tapeBackUptoRow : OpenClaim := { program := "ytbdfjiedceaoiaagreat", sum := "5191ff8e3b6cb9e1635c7e06b86ebe9bd086df64c84885b3c7cd2886abf6da75", func := "stave/stavelaw14.TapeBack", spec := "tapeBack", unfollowed := true, recurses := true, apart := false, narrowed := true }
def TapeBackUptoSaid : Prop := tapeBackUptoRow.holds Tryz.pinned (OpenSpec.upto tapeBackSpec)

/-- 'stavelaw14.TapeCrash', WHERE WHAT IT READS IS OF BULK AT MOST 1048576: true; the input reads as it did. -/
def tapeCrashUptoRow : OpenClaim := { program := "ytbdfjiedceaoiaagreat", sum := "5191ff8e3b6cb9e1635c7e06b86ebe9bd086df64c84885b3c7cd2886abf6da75", func := "stave/stavelaw14.TapeCrash", spec := "tapeCrash", unfollowed := true, recurses := true, apart := false, narrowed := true }
def TapeCrashUptoSaid : Prop := tapeCrashUptoRow.holds Tryz.pinned (OpenSpec.upto tapeCrashSpec)

end Rows
end Go.Proofs.YtbdfjiedceaoiaaGreat
