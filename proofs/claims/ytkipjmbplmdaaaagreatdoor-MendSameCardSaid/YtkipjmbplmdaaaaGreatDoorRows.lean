/-
  NARROWER THAN 'FOR EVERY INPUT', by the rows' own cells (each row's printed sentence says how): MendLost: laid · MendSame: laid · MendTurns: laid · MendCut: laid.
  DERIVED. THE GIVEN ROWS OF THIS SEAT. 4 by the template 'for every input the law returns true; each argument reads behind the call as it read before'; 0 by the template 'total and deterministic' (their statements: YtkipjmbplmdaaaaGreatDoorTotals.lean).
  GIVEN WITH THE SEED: the statements are not yours to turn. If you find one false, say at which input.
  Laid BY PROGRAM, IN A SANDBOX (cutbox-rows.mjs): the forced cells as the released guide's own fill.sh prints them over the translation 10900149390b569c… (all of the seat's roots in one cut). By AI agents, Wed Nov 11 2026. No macro, syntax, notation, axiom, sorry.
-/
import Derived.Test.YtkipjmbplmdaaaaGreatDoorChecked
import GoSem.Claim
import GoSem.ClaimJoined
import GoSem.ClaimMapViews
import Derived.JoinedTies
import Derived.KernelRfl
namespace Go.Proofs.YtkipjmbplmdaaaaGreatDoor
/- THE CELL 'sum', in the pinned program and in every row, IS THE sha256 OF THE DUMP (.gsa) THAT YtkipjmbplmdaaaaGreatDoorProg.lean LOADS. Nothing in Lean hashes anything: it is a label: what it is worth is what the hold of that sum in a sandbox is worth. -/
noncomputable def Tryz.pinned : Pinned := { name := "ytkipjmbplmdaaaagreatdoor", sum := "10900149390b569c23a4e748992ff306dd11e54653bd88afe835327376f43c50", checked := Tryz.checked }
namespace Rows
def none {H : Type} : Left H := { results := [], args := [] }

/- WHAT THE LISTED PACKAGE-LEVEL VARIABLES READ AS WHEN THE CALL BEGINS. Each datum BY PROGRAM (the guide's laid-datum.mjs) off the statement by which the dump's own 'gosem.cut.vars' lays the variable. In a bare row this is a premise. The card (YtkipjmbplmdaaaaGreatDoorCards.lean) ties it to the program's text. -/
def laid_errors_errorType {H : Type} : DataW H := .iface "internal/reflectlite.rtype" (.agg [.ptr (.lit (.string [101, 114, 114, 111, 114]))])

/-- 'stavelaw13.MendLost': WHATEVER THE INPUT: true; the input reads as it did. -/
def mendLostSpec : ChangeSpec := { name := "mendLost", fn := fun _ => fun
  | [d1, d2, d3, d4] => { results := [.lit (.bool true)], args := [d1, d2, d3, d4] }
  | _ => none }
def mendLostRow : OpenClaim := { program := "ytkipjmbplmdaaaagreatdoor", sum := "10900149390b569c23a4e748992ff306dd11e54653bd88afe835327376f43c50", func := "stave/stavelaw13.MendLost", spec := "mendLost", inPlace := ["internal/reflectlite.TypeOf", "internal/reflectlite.ValueOf", "(internal/reflectlite.Value).Type", "(internal/reflectlite.Value).IsNil", "(internal/reflectlite.Value).Elem", "(internal/reflectlite.Value).Set"], unfollowed := true, recurses := true, named := ["errors.errorType"], apart := false, laid := [("errors.errorType", laid_errors_errorType)] }
def MendLostSaid : Prop := mendLostRow.holds Tryz.pinned (OpenSpec.ofChange mendLostSpec)

/-- ITS FALSE NEIGHBOUR: 'it returns false'. Refute it at one input. -/
def mendLostWrong : ChangeSpec := { name := "mendLost", fn := fun _ => fun
  | [d1, d2, d3, d4] => { results := [.lit (.bool false)], args := [d1, d2, d3, d4] }
  | _ => none }
def MendLostWrongFalsely : Prop := mendLostRow.holds Tryz.pinned (OpenSpec.ofChange mendLostWrong)

/-- 'stavelaw13.MendSame': WHATEVER THE INPUT: true; the input reads as it did. -/
def mendSameSpec : ChangeSpec := { name := "mendSame", fn := fun _ => fun
  | [d1, d2, d3, d4, d5] => { results := [.lit (.bool true)], args := [d1, d2, d3, d4, d5] }
  | _ => none }
def mendSameRow : OpenClaim := { program := "ytkipjmbplmdaaaagreatdoor", sum := "10900149390b569c23a4e748992ff306dd11e54653bd88afe835327376f43c50", func := "stave/stavelaw13.MendSame", spec := "mendSame", inPlace := ["internal/reflectlite.ValueOf", "(internal/reflectlite.Value).Type", "(internal/reflectlite.Value).IsNil", "internal/reflectlite.TypeOf", "(internal/reflectlite.Value).Elem", "(internal/reflectlite.Value).Set"], unfollowed := true, recurses := true, named := ["errors.errorType"], apart := false, laid := [("errors.errorType", laid_errors_errorType)] }
def MendSameSaid : Prop := mendSameRow.holds Tryz.pinned (OpenSpec.ofChange mendSameSpec)

/-- ITS FALSE NEIGHBOUR: 'it returns false'. Refute it at one input. -/
def mendSameWrong : ChangeSpec := { name := "mendSame", fn := fun _ => fun
  | [d1, d2, d3, d4, d5] => { results := [.lit (.bool false)], args := [d1, d2, d3, d4, d5] }
  | _ => none }
def MendSameWrongFalsely : Prop := mendSameRow.holds Tryz.pinned (OpenSpec.ofChange mendSameWrong)

/-- 'stavelaw13.MendTurns': WHATEVER THE INPUT: true; the input reads as it did. -/
def mendTurnsSpec : ChangeSpec := { name := "mendTurns", fn := fun _ => fun
  | [d1, d2, d3] => { results := [.lit (.bool true)], args := [d1, d2, d3] }
  | _ => none }
def mendTurnsRow : OpenClaim := { program := "ytkipjmbplmdaaaagreatdoor", sum := "10900149390b569c23a4e748992ff306dd11e54653bd88afe835327376f43c50", func := "stave/stavelaw13.MendTurns", spec := "mendTurns", inPlace := ["internal/reflectlite.TypeOf", "internal/reflectlite.ValueOf", "(internal/reflectlite.Value).Type", "(internal/reflectlite.Value).IsNil", "(internal/reflectlite.Value).Elem", "(internal/reflectlite.Value).Set"], unfollowed := true, recurses := true, named := ["errors.errorType"], apart := false, laid := [("errors.errorType", laid_errors_errorType)] }
def MendTurnsSaid : Prop := mendTurnsRow.holds Tryz.pinned (OpenSpec.ofChange mendTurnsSpec)

/-- ITS FALSE NEIGHBOUR: 'it returns false'. Refute it at one input. -/
def mendTurnsWrong : ChangeSpec := { name := "mendTurns", fn := fun _ => fun
  | [d1, d2, d3] => { results := [.lit (.bool false)], args := [d1, d2, d3] }
  | _ => none }
def MendTurnsWrongFalsely : Prop := mendTurnsRow.holds Tryz.pinned (OpenSpec.ofChange mendTurnsWrong)

/-- 'stavelaw13.MendCut': WHATEVER THE INPUT: true; the input reads as it did. -/
def mendCutSpec : ChangeSpec := { name := "mendCut", fn := fun _ => fun
  | [d1, d2, d3, d4, d5] => { results := [.lit (.bool true)], args := [d1, d2, d3, d4, d5] }
  | _ => none }
def mendCutRow : OpenClaim := { program := "ytkipjmbplmdaaaagreatdoor", sum := "10900149390b569c23a4e748992ff306dd11e54653bd88afe835327376f43c50", func := "stave/stavelaw13.MendCut", spec := "mendCut", inPlace := ["internal/reflectlite.TypeOf", "internal/reflectlite.ValueOf", "(internal/reflectlite.Value).Type", "(internal/reflectlite.Value).IsNil", "(internal/reflectlite.Value).Elem", "(internal/reflectlite.Value).Set"], unfollowed := true, recurses := true, named := ["errors.errorType"], apart := false, laid := [("errors.errorType", laid_errors_errorType)] }
def MendCutSaid : Prop := mendCutRow.holds Tryz.pinned (OpenSpec.ofChange mendCutSpec)

/-- ITS FALSE NEIGHBOUR: 'it returns false'. Refute it at one input. -/
def mendCutWrong : ChangeSpec := { name := "mendCut", fn := fun _ => fun
  | [d1, d2, d3, d4, d5] => { results := [.lit (.bool false)], args := [d1, d2, d3, d4, d5] }
  | _ => none }
def MendCutWrongFalsely : Prop := mendCutRow.holds Tryz.pinned (OpenSpec.ofChange mendCutWrong)

/- THE SECOND FORM. 'bulk': how many values and letters a reading holds, each counted each time it is reached (what is shared counts as often as it is met; a slice's spare places count too). A statement '..UptoSaid' is the law's where the arguments, and the package variables that the reading takes, are together of bulk at most 1048576: NARROWER than '..Said'. Prove '..Said' where nothing that the law and all that it calls make is longer than what came in: it says more and counts as full. Else prove '..UptoSaid'. A law counts once. -/
mutual
def uptoBulk {H : Type} : DataW H → Nat
  | .lit (.string bytes) => bytes.length + 1
  | .lit _ => 1
  | .nil => 1
  | .ptr d => uptoBulk d + 1
  | .slice elems spare => uptoBulkAll elems + uptoBulkAll spare + 1
  | .agg parts => uptoBulkAll parts + 1
  | .iface _ d => uptoBulk d + 1
  | .map entries => uptoBulkEntries entries + 1
  | .held _ => 1
def uptoBulkAll {H : Type} : List (DataW H) → Nat
  | [] => 0
  | d :: r => uptoBulk d + uptoBulkAll r
def uptoBulkEntries {H : Type} : List (Lit × DataW H) → Nat
  | [] => 0
  | x :: r => uptoBulkEntry x + uptoBulkEntries r
def uptoBulkEntry {H : Type} : Lit × DataW H → Nat
  | (.string bytes, d) => bytes.length + uptoBulk d + 1
  | (_, d) => uptoBulk d + 1
 end
def uptoSmall : (H : Type) → List (DataW H) → Bool := fun _ ds => decide (uptoBulkAll ds ≤ 1048576)
def OpenSpec.upto (s : _root_.Go.ChangeSpec) : _root_.Go.OpenSpec := { _root_.Go.OpenSpec.ofChange s with cond := some uptoSmall }

/-- 'stavelaw13.MendLost', WHERE WHAT IT READS IS OF BULK AT MOST 1048576: true; the input reads as it did. -/
def mendLostUptoRow : OpenClaim := { program := "ytkipjmbplmdaaaagreatdoor", sum := "10900149390b569c23a4e748992ff306dd11e54653bd88afe835327376f43c50", func := "stave/stavelaw13.MendLost", spec := "mendLost", inPlace := ["internal/reflectlite.TypeOf", "internal/reflectlite.ValueOf", "(internal/reflectlite.Value).Type", "(internal/reflectlite.Value).IsNil", "(internal/reflectlite.Value).Elem", "(internal/reflectlite.Value).Set"], unfollowed := true, recurses := true, named := ["errors.errorType"], apart := false, laid := [("errors.errorType", laid_errors_errorType)], narrowed := true }
def MendLostUptoSaid : Prop := mendLostUptoRow.holds Tryz.pinned (OpenSpec.upto mendLostSpec)

/-- 'stavelaw13.MendSame', WHERE WHAT IT READS IS OF BULK AT MOST 1048576: true; the input reads as it did. -/
def mendSameUptoRow : OpenClaim := { program := "ytkipjmbplmdaaaagreatdoor", sum := "10900149390b569c23a4e748992ff306dd11e54653bd88afe835327376f43c50", func := "stave/stavelaw13.MendSame", spec := "mendSame", inPlace := ["internal/reflectlite.ValueOf", "(internal/reflectlite.Value).Type", "(internal/reflectlite.Value).IsNil", "internal/reflectlite.TypeOf", "(internal/reflectlite.Value).Elem", "(internal/reflectlite.Value).Set"], unfollowed := true, recurses := true, named := ["errors.errorType"], apart := false, laid := [("errors.errorType", laid_errors_errorType)], narrowed := true }
def MendSameUptoSaid : Prop := mendSameUptoRow.holds Tryz.pinned (OpenSpec.upto mendSameSpec)

/-- 'stavelaw13.MendTurns', WHERE WHAT IT READS IS OF BULK AT MOST 1048576: true; the input reads as it did. -/
def mendTurnsUptoRow : OpenClaim := { program := "ytkipjmbplmdaaaagreatdoor", sum := "10900149390b569c23a4e748992ff306dd11e54653bd88afe835327376f43c50", func := "stave/stavelaw13.MendTurns", spec := "mendTurns", inPlace := ["internal/reflectlite.TypeOf", "internal/reflectlite.ValueOf", "(internal/reflectlite.Value).Type", "(internal/reflectlite.Value).IsNil", "(internal/reflectlite.Value).Elem", "(internal/reflectlite.Value).Set"], unfollowed := true, recurses := true, named := ["errors.errorType"], apart := false, laid := [("errors.errorType", laid_errors_errorType)], narrowed := true }
def MendTurnsUptoSaid : Prop := mendTurnsUptoRow.holds Tryz.pinned (OpenSpec.upto mendTurnsSpec)

/-- 'stavelaw13.MendCut', WHERE WHAT IT READS IS OF BULK AT MOST 1048576: true; the input reads as it did. -/
def mendCutUptoRow : OpenClaim := { program := "ytkipjmbplmdaaaagreatdoor", sum := "10900149390b569c23a4e748992ff306dd11e54653bd88afe835327376f43c50", func := "stave/stavelaw13.MendCut", spec := "mendCut", inPlace := ["internal/reflectlite.TypeOf", "internal/reflectlite.ValueOf", "(internal/reflectlite.Value).Type", "(internal/reflectlite.Value).IsNil", "(internal/reflectlite.Value).Elem", "(internal/reflectlite.Value).Set"], unfollowed := true, recurses := true, named := ["errors.errorType"], apart := false, laid := [("errors.errorType", laid_errors_errorType)], narrowed := true }
def MendCutUptoSaid : Prop := mendCutUptoRow.holds Tryz.pinned (OpenSpec.upto mendCutSpec)

end Rows
end Go.Proofs.YtkipjmbplmdaaaaGreatDoor
