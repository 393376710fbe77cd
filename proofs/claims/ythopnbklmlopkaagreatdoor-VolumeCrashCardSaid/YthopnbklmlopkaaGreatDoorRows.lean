/-
  NARROWER THAN 'FOR EVERY INPUT', by the rows' own cells (each row's printed sentence says how): VolumeRuns: laid · VolumeAgain: laid · VolumeFew: laid · VolumeReplays: laid · VolumeLong: laid · VolumeNew: laid · VolumeNumbers: laid · VolumeBeyond: laid · VolumeHolds: laid · VolumeCrash: laid.
  DERIVED. THE GIVEN ROWS OF THIS SEAT. 10 by the template 'for every input the law returns true; each argument reads behind the call as it read before'; 0 by the template 'total and deterministic' (their statements: YthopnbklmlopkaaGreatDoorTotals.lean).
  GIVEN WITH THE SEED: the statements are not yours to turn. If you find one false, say at which input.
  Laid BY PROGRAM, IN A SANDBOX (cutbox-rows.mjs): the forced cells as the released guide's own fill.sh prints them over the translation f449950b5ab87e3d… (all of the seat's roots in one cut). By AI agents, Wed Nov 11 2026. No macro, syntax, notation, axiom, sorry.
-/
import Derived.Test.YthopnbklmlopkaaGreatDoorChecked
import GoSem.Claim
import GoSem.ClaimJoined
import GoSem.ClaimMapViews
import Derived.JoinedTies
import Derived.KernelRfl
namespace Go.Proofs.YthopnbklmlopkaaGreatDoor
/- THE CELL 'sum', in the pinned program and in every row, IS THE sha256 OF THE DUMP (.gsa) THAT YthopnbklmlopkaaGreatDoorProg.lean LOADS. Nothing in Lean hashes anything: it is a label: what it is worth is what the hold of that sum in a sandbox is worth. -/
noncomputable def Tryz.pinned : Pinned := { name := "ythopnbklmlopkaagreatdoor", sum := "f449950b5ab87e3dddb945a856f2f559c8fddb3429af100ebf1f48d5974704b9", checked := Tryz.checked }
namespace Rows
def none {H : Type} : Left H := { results := [], args := [] }

/- WHAT THE LISTED PACKAGE-LEVEL VARIABLES READ AS WHEN THE CALL BEGINS. Each datum BY PROGRAM (the guide's laid-datum.mjs) off the statement by which the dump's own 'gosem.cut.vars' lays the variable. In a bare row this is a premise. The card (YthopnbklmlopkaaGreatDoorCards.lean) ties it to the program's text. -/
def laid_errors_errorType {H : Type} : DataW H := .iface "internal/reflectlite.rtype" (.agg [.ptr (.lit (.string [101, 114, 114, 111, 114]))])

/-- 'stavelaw12.VolumeRuns': WHATEVER THE INPUT: true; the input reads as it did. -/
def volumeRunsSpec : ChangeSpec := { name := "volumeRuns", fn := fun _ => fun
  | [] => { results := [.lit (.bool true)], args := [] }
  | _ => none }
def volumeRunsRow : OpenClaim := { program := "ythopnbklmlopkaagreatdoor", sum := "f449950b5ab87e3dddb945a856f2f559c8fddb3429af100ebf1f48d5974704b9", func := "stave/stavelaw12.VolumeRuns", spec := "volumeRuns", inPlace := ["internal/reflectlite.ValueOf", "(internal/reflectlite.Value).Type", "(internal/reflectlite.Value).IsNil", "internal/reflectlite.TypeOf", "(internal/reflectlite.Value).Elem", "(internal/reflectlite.Value).Set"], unfollowed := true, recurses := true, named := ["errors.errorType"], apart := false, laid := [("errors.errorType", laid_errors_errorType)] }
def VolumeRunsSaid : Prop := volumeRunsRow.holds Tryz.pinned (OpenSpec.ofChange volumeRunsSpec)

/-- ITS FALSE NEIGHBOUR: 'it returns false'. Refute it at one input. -/
def volumeRunsWrong : ChangeSpec := { name := "volumeRuns", fn := fun _ => fun
  | [] => { results := [.lit (.bool false)], args := [] }
  | _ => none }
def VolumeRunsWrongFalsely : Prop := volumeRunsRow.holds Tryz.pinned (OpenSpec.ofChange volumeRunsWrong)

/-- 'stavelaw12.VolumeAgain': WHATEVER THE INPUT: true; the input reads as it did. -/
def volumeAgainSpec : ChangeSpec := { name := "volumeAgain", fn := fun _ => fun
  | [d1, d2, d3, d4, d5, d6, d7, d8] => { results := [.lit (.bool true)], args := [d1, d2, d3, d4, d5, d6, d7, d8] }
  | _ => none }
def volumeAgainRow : OpenClaim := { program := "ythopnbklmlopkaagreatdoor", sum := "f449950b5ab87e3dddb945a856f2f559c8fddb3429af100ebf1f48d5974704b9", func := "stave/stavelaw12.VolumeAgain", spec := "volumeAgain", inPlace := ["internal/reflectlite.ValueOf", "(internal/reflectlite.Value).Type", "(internal/reflectlite.Value).IsNil", "internal/reflectlite.TypeOf", "(internal/reflectlite.Value).Elem", "(internal/reflectlite.Value).Set"], unfollowed := true, recurses := true, named := ["errors.errorType"], apart := false, laid := [("errors.errorType", laid_errors_errorType)] }
def VolumeAgainSaid : Prop := volumeAgainRow.holds Tryz.pinned (OpenSpec.ofChange volumeAgainSpec)

/-- ITS FALSE NEIGHBOUR: 'it returns false'. Refute it at one input. -/
def volumeAgainWrong : ChangeSpec := { name := "volumeAgain", fn := fun _ => fun
  | [d1, d2, d3, d4, d5, d6, d7, d8] => { results := [.lit (.bool false)], args := [d1, d2, d3, d4, d5, d6, d7, d8] }
  | _ => none }
def VolumeAgainWrongFalsely : Prop := volumeAgainRow.holds Tryz.pinned (OpenSpec.ofChange volumeAgainWrong)

/-- 'stavelaw12.VolumeFew': WHATEVER THE INPUT: true; the input reads as it did. -/
def volumeFewSpec : ChangeSpec := { name := "volumeFew", fn := fun _ => fun
  | [d1, d2, d3, d4] => { results := [.lit (.bool true)], args := [d1, d2, d3, d4] }
  | _ => none }
def volumeFewRow : OpenClaim := { program := "ythopnbklmlopkaagreatdoor", sum := "f449950b5ab87e3dddb945a856f2f559c8fddb3429af100ebf1f48d5974704b9", func := "stave/stavelaw12.VolumeFew", spec := "volumeFew", inPlace := ["internal/reflectlite.ValueOf", "(internal/reflectlite.Value).Type", "(internal/reflectlite.Value).IsNil", "internal/reflectlite.TypeOf", "(internal/reflectlite.Value).Elem", "(internal/reflectlite.Value).Set"], unfollowed := true, recurses := true, named := ["errors.errorType"], apart := false, laid := [("errors.errorType", laid_errors_errorType)] }
def VolumeFewSaid : Prop := volumeFewRow.holds Tryz.pinned (OpenSpec.ofChange volumeFewSpec)

/-- ITS FALSE NEIGHBOUR: 'it returns false'. Refute it at one input. -/
def volumeFewWrong : ChangeSpec := { name := "volumeFew", fn := fun _ => fun
  | [d1, d2, d3, d4] => { results := [.lit (.bool false)], args := [d1, d2, d3, d4] }
  | _ => none }
def VolumeFewWrongFalsely : Prop := volumeFewRow.holds Tryz.pinned (OpenSpec.ofChange volumeFewWrong)

/-- 'stavelaw12.VolumeReplays': WHATEVER THE INPUT: true; the input reads as it did. -/
def volumeReplaysSpec : ChangeSpec := { name := "volumeReplays", fn := fun _ => fun
  | [d1, d2, d3, d4, d5, d6, d7] => { results := [.lit (.bool true)], args := [d1, d2, d3, d4, d5, d6, d7] }
  | _ => none }
def volumeReplaysRow : OpenClaim := { program := "ythopnbklmlopkaagreatdoor", sum := "f449950b5ab87e3dddb945a856f2f559c8fddb3429af100ebf1f48d5974704b9", func := "stave/stavelaw12.VolumeReplays", spec := "volumeReplays", inPlace := ["internal/reflectlite.ValueOf", "(internal/reflectlite.Value).Type", "(internal/reflectlite.Value).IsNil", "internal/reflectlite.TypeOf", "(internal/reflectlite.Value).Elem", "(internal/reflectlite.Value).Set"], unfollowed := true, recurses := true, named := ["errors.errorType"], apart := false, laid := [("errors.errorType", laid_errors_errorType)] }
def VolumeReplaysSaid : Prop := volumeReplaysRow.holds Tryz.pinned (OpenSpec.ofChange volumeReplaysSpec)

/-- ITS FALSE NEIGHBOUR: 'it returns false'. Refute it at one input. -/
def volumeReplaysWrong : ChangeSpec := { name := "volumeReplays", fn := fun _ => fun
  | [d1, d2, d3, d4, d5, d6, d7] => { results := [.lit (.bool false)], args := [d1, d2, d3, d4, d5, d6, d7] }
  | _ => none }
def VolumeReplaysWrongFalsely : Prop := volumeReplaysRow.holds Tryz.pinned (OpenSpec.ofChange volumeReplaysWrong)

/-- 'stavelaw12.VolumeLong': WHATEVER THE INPUT: true; the input reads as it did. -/
def volumeLongSpec : ChangeSpec := { name := "volumeLong", fn := fun _ => fun
  | [d1, d2, d3, d4, d5, d6] => { results := [.lit (.bool true)], args := [d1, d2, d3, d4, d5, d6] }
  | _ => none }
def volumeLongRow : OpenClaim := { program := "ythopnbklmlopkaagreatdoor", sum := "f449950b5ab87e3dddb945a856f2f559c8fddb3429af100ebf1f48d5974704b9", func := "stave/stavelaw12.VolumeLong", spec := "volumeLong", inPlace := ["internal/reflectlite.ValueOf", "(internal/reflectlite.Value).Type", "(internal/reflectlite.Value).IsNil", "internal/reflectlite.TypeOf", "(internal/reflectlite.Value).Elem", "(internal/reflectlite.Value).Set"], unfollowed := true, recurses := true, named := ["errors.errorType"], apart := false, laid := [("errors.errorType", laid_errors_errorType)] }
def VolumeLongSaid : Prop := volumeLongRow.holds Tryz.pinned (OpenSpec.ofChange volumeLongSpec)

/-- ITS FALSE NEIGHBOUR: 'it returns false'. Refute it at one input. -/
def volumeLongWrong : ChangeSpec := { name := "volumeLong", fn := fun _ => fun
  | [d1, d2, d3, d4, d5, d6] => { results := [.lit (.bool false)], args := [d1, d2, d3, d4, d5, d6] }
  | _ => none }
def VolumeLongWrongFalsely : Prop := volumeLongRow.holds Tryz.pinned (OpenSpec.ofChange volumeLongWrong)

/-- 'stavelaw12.VolumeNew': WHATEVER THE INPUT: true; the input reads as it did. -/
def volumeNewSpec : ChangeSpec := { name := "volumeNew", fn := fun _ => fun
  | [d1, d2, d3, d4, d5] => { results := [.lit (.bool true)], args := [d1, d2, d3, d4, d5] }
  | _ => none }
def volumeNewRow : OpenClaim := { program := "ythopnbklmlopkaagreatdoor", sum := "f449950b5ab87e3dddb945a856f2f559c8fddb3429af100ebf1f48d5974704b9", func := "stave/stavelaw12.VolumeNew", spec := "volumeNew", inPlace := ["internal/reflectlite.ValueOf", "(internal/reflectlite.Value).Type", "(internal/reflectlite.Value).IsNil", "internal/reflectlite.TypeOf", "(internal/reflectlite.Value).Elem", "(internal/reflectlite.Value).Set"], unfollowed := true, recurses := true, named := ["errors.errorType"], apart := false, laid := [("errors.errorType", laid_errors_errorType)] }
def VolumeNewSaid : Prop := volumeNewRow.holds Tryz.pinned (OpenSpec.ofChange volumeNewSpec)

/-- ITS FALSE NEIGHBOUR: 'it returns false'. Refute it at one input. -/
def volumeNewWrong : ChangeSpec := { name := "volumeNew", fn := fun _ => fun
  | [d1, d2, d3, d4, d5] => { results := [.lit (.bool false)], args := [d1, d2, d3, d4, d5] }
  | _ => none }
def VolumeNewWrongFalsely : Prop := volumeNewRow.holds Tryz.pinned (OpenSpec.ofChange volumeNewWrong)

/-- 'stavelaw12.VolumeNumbers': WHATEVER THE INPUT: true; the input reads as it did. -/
def volumeNumbersSpec : ChangeSpec := { name := "volumeNumbers", fn := fun _ => fun
  | [d1, d2, d3] => { results := [.lit (.bool true)], args := [d1, d2, d3] }
  | _ => none }
def volumeNumbersRow : OpenClaim := { program := "ythopnbklmlopkaagreatdoor", sum := "f449950b5ab87e3dddb945a856f2f559c8fddb3429af100ebf1f48d5974704b9", func := "stave/stavelaw12.VolumeNumbers", spec := "volumeNumbers", inPlace := ["internal/reflectlite.ValueOf", "(internal/reflectlite.Value).Type", "(internal/reflectlite.Value).IsNil", "internal/reflectlite.TypeOf", "(internal/reflectlite.Value).Elem", "(internal/reflectlite.Value).Set"], unfollowed := true, recurses := true, named := ["errors.errorType"], apart := false, laid := [("errors.errorType", laid_errors_errorType)] }
def VolumeNumbersSaid : Prop := volumeNumbersRow.holds Tryz.pinned (OpenSpec.ofChange volumeNumbersSpec)

/-- ITS FALSE NEIGHBOUR: 'it returns false'. Refute it at one input. -/
def volumeNumbersWrong : ChangeSpec := { name := "volumeNumbers", fn := fun _ => fun
  | [d1, d2, d3] => { results := [.lit (.bool false)], args := [d1, d2, d3] }
  | _ => none }
def VolumeNumbersWrongFalsely : Prop := volumeNumbersRow.holds Tryz.pinned (OpenSpec.ofChange volumeNumbersWrong)

/-- 'stavelaw12.VolumeBeyond': WHATEVER THE INPUT: true; the input reads as it did. -/
def volumeBeyondSpec : ChangeSpec := { name := "volumeBeyond", fn := fun _ => fun
  | [d1, d2, d3, d4, d5, d6, d7, d8, d9] => { results := [.lit (.bool true)], args := [d1, d2, d3, d4, d5, d6, d7, d8, d9] }
  | _ => none }
def volumeBeyondRow : OpenClaim := { program := "ythopnbklmlopkaagreatdoor", sum := "f449950b5ab87e3dddb945a856f2f559c8fddb3429af100ebf1f48d5974704b9", func := "stave/stavelaw12.VolumeBeyond", spec := "volumeBeyond", inPlace := ["internal/reflectlite.ValueOf", "(internal/reflectlite.Value).Type", "(internal/reflectlite.Value).IsNil", "internal/reflectlite.TypeOf", "(internal/reflectlite.Value).Elem", "(internal/reflectlite.Value).Set"], unfollowed := true, recurses := true, named := ["errors.errorType"], apart := false, laid := [("errors.errorType", laid_errors_errorType)] }
def VolumeBeyondSaid : Prop := volumeBeyondRow.holds Tryz.pinned (OpenSpec.ofChange volumeBeyondSpec)

/-- ITS FALSE NEIGHBOUR: 'it returns false'. Refute it at one input. -/
def volumeBeyondWrong : ChangeSpec := { name := "volumeBeyond", fn := fun _ => fun
  | [d1, d2, d3, d4, d5, d6, d7, d8, d9] => { results := [.lit (.bool false)], args := [d1, d2, d3, d4, d5, d6, d7, d8, d9] }
  | _ => none }
def VolumeBeyondWrongFalsely : Prop := volumeBeyondRow.holds Tryz.pinned (OpenSpec.ofChange volumeBeyondWrong)

/-- 'stavelaw12.VolumeHolds': WHATEVER THE INPUT: true; the input reads as it did. -/
def volumeHoldsSpec : ChangeSpec := { name := "volumeHolds", fn := fun _ => fun
  | [d1, d2, d3, d4, d5, d6, d7, d8, d9] => { results := [.lit (.bool true)], args := [d1, d2, d3, d4, d5, d6, d7, d8, d9] }
  | _ => none }
def volumeHoldsRow : OpenClaim := { program := "ythopnbklmlopkaagreatdoor", sum := "f449950b5ab87e3dddb945a856f2f559c8fddb3429af100ebf1f48d5974704b9", func := "stave/stavelaw12.VolumeHolds", spec := "volumeHolds", inPlace := ["internal/reflectlite.ValueOf", "(internal/reflectlite.Value).Type", "(internal/reflectlite.Value).IsNil", "internal/reflectlite.TypeOf", "(internal/reflectlite.Value).Elem", "(internal/reflectlite.Value).Set"], unfollowed := true, recurses := true, named := ["errors.errorType"], apart := false, laid := [("errors.errorType", laid_errors_errorType)] }
def VolumeHoldsSaid : Prop := volumeHoldsRow.holds Tryz.pinned (OpenSpec.ofChange volumeHoldsSpec)

/-- ITS FALSE NEIGHBOUR: 'it returns false'. Refute it at one input. -/
def volumeHoldsWrong : ChangeSpec := { name := "volumeHolds", fn := fun _ => fun
  | [d1, d2, d3, d4, d5, d6, d7, d8, d9] => { results := [.lit (.bool false)], args := [d1, d2, d3, d4, d5, d6, d7, d8, d9] }
  | _ => none }
def VolumeHoldsWrongFalsely : Prop := volumeHoldsRow.holds Tryz.pinned (OpenSpec.ofChange volumeHoldsWrong)

/-- 'stavelaw12.VolumeCrash': WHATEVER THE INPUT: true; the input reads as it did. -/
def volumeCrashSpec : ChangeSpec := { name := "volumeCrash", fn := fun _ => fun
  | [d1, d2, d3, d4, d5, d6, d7, d8, d9] => { results := [.lit (.bool true)], args := [d1, d2, d3, d4, d5, d6, d7, d8, d9] }
  | _ => none }
def volumeCrashRow : OpenClaim := { program := "ythopnbklmlopkaagreatdoor", sum := "f449950b5ab87e3dddb945a856f2f559c8fddb3429af100ebf1f48d5974704b9", func := "stave/stavelaw12.VolumeCrash", spec := "volumeCrash", inPlace := ["internal/reflectlite.ValueOf", "(internal/reflectlite.Value).Type", "(internal/reflectlite.Value).IsNil", "internal/reflectlite.TypeOf", "(internal/reflectlite.Value).Elem", "(internal/reflectlite.Value).Set"], unfollowed := true, recurses := true, named := ["errors.errorType"], apart := false, laid := [("errors.errorType", laid_errors_errorType)] }
def VolumeCrashSaid : Prop := volumeCrashRow.holds Tryz.pinned (OpenSpec.ofChange volumeCrashSpec)

/-- ITS FALSE NEIGHBOUR: 'it returns false'. Refute it at one input. -/
def volumeCrashWrong : ChangeSpec := { name := "volumeCrash", fn := fun _ => fun
  | [d1, d2, d3, d4, d5, d6, d7, d8, d9] => { results := [.lit (.bool false)], args := [d1, d2, d3, d4, d5, d6, d7, d8, d9] }
  | _ => none }
def VolumeCrashWrongFalsely : Prop := volumeCrashRow.holds Tryz.pinned (OpenSpec.ofChange volumeCrashWrong)

/- THE SECOND FORM. 'bulk': how many values and letters a reading holds, each counted each time it is reached (what is shared counts as often as it is met; a slice's spare places count too). A statement '..UptoSaid' is the law's where the arguments, and the package variables that the reading takes, are together of bulk at most 1048576: NARROWER than '..Said'. Prove '..Said' where nothing that the law and all that it calls make is longer than what came in: it says more and counts as full. Else prove '..UptoSaid'. A law counts once. -/
mutual
def uptoBulk {H : Type} : DataW H → Nat
  | .lit (.string bytes) => bytes.length + 1
  | .lit _ => 1
  | .nil => 1
  | .ptr d => uptoBulk d + 1
  | .slice elems spare => uptoBulkAll elems + uptoBulkAll spare + 1
  | .agg parts => uptoBulkAll parts + 1
  | .iface _ d => uptoBulk d + 1
  | .map entries => uptoBulkEntries entries + 1
  | .held _ => 1
def uptoBulkAll {H : Type} : List (DataW H) → Nat
  | [] => 0
  | d :: r => uptoBulk d + uptoBulkAll r
def uptoBulkEntries {H : Type} : List (Lit × DataW H) → Nat
  | [] => 0
  | x :: r => uptoBulkEntry x + uptoBulkEntries r
def uptoBulkEntry {H : Type} : Lit × DataW H → Nat
  | (.string bytes, d) => bytes.length + uptoBulk d + 1
  | (_, d) => uptoBulk d + 1
 end
def uptoSmall : (H : Type) → List (DataW H) → Bool := fun _ ds => decide (uptoBulkAll ds ≤ 1048576)
def OpenSpec.upto (s : _root_.Go.ChangeSpec) : _root_.Go.OpenSpec := { _root_.Go.OpenSpec.ofChange s with cond := some uptoSmall }

/-- 'stavelaw12.VolumeRuns', WHERE WHAT IT READS IS OF BULK AT MOST 1048576: true; the input reads as it did. -/
def volumeRunsUptoRow : OpenClaim := { program := "ythopnbklmlopkaagreatdoor", sum := "f449950b5ab87e3dddb945a856f2f559c8fddb3429af100ebf1f48d5974704b9", func := "stave/stavelaw12.VolumeRuns", spec := "volumeRuns", inPlace := ["internal/reflectlite.ValueOf", "(internal/reflectlite.Value).Type", "(internal/reflectlite.Value).IsNil", "internal/reflectlite.TypeOf", "(internal/reflectlite.Value).Elem", "(internal/reflectlite.Value).Set"], unfollowed := true, recurses := true, named := ["errors.errorType"], apart := false, laid := [("errors.errorType", laid_errors_errorType)], narrowed := true }
def VolumeRunsUptoSaid : Prop := volumeRunsUptoRow.holds Tryz.pinned (OpenSpec.upto volumeRunsSpec)

/-- 'stavelaw12.VolumeAgain', WHERE WHAT IT READS IS OF BULK AT MOST 1048576: true; the input reads as it did. -/
def volumeAgainUptoRow : OpenClaim := { program := "ythopnbklmlopkaagreatdoor", sum := "f449950b5ab87e3dddb945a856f2f559c8fddb3429af100ebf1f48d5974704b9", func := "stave/stavelaw12.VolumeAgain", spec := "volumeAgain", inPlace := ["internal/reflectlite.ValueOf", "(internal/reflectlite.Value).Type", "(internal/reflectlite.Value).IsNil", "internal/reflectlite.TypeOf", "(internal/reflectlite.Value).Elem", "(internal/reflectlite.Value).Set"], unfollowed := true, recurses := true, named := ["errors.errorType"], apart := false, laid := [("errors.errorType", laid_errors_errorType)], narrowed := true }
def VolumeAgainUptoSaid : Prop := volumeAgainUptoRow.holds Tryz.pinned (OpenSpec.upto volumeAgainSpec)

/-- 'stavelaw12.VolumeFew', WHERE WHAT IT READS IS OF BULK AT MOST 1048576: true; the input reads as it did. -/
def volumeFewUptoRow : OpenClaim := { program := "ythopnbklmlopkaagreatdoor", sum := "f449950b5ab87e3dddb945a856f2f559c8fddb3429af100ebf1f48d5974704b9", func := "stave/stavelaw12.VolumeFew", spec := "volumeFew", inPlace := ["internal/reflectlite.ValueOf", "(internal/reflectlite.Value).Type", "(internal/reflectlite.Value).IsNil", "internal/reflectlite.TypeOf", "(internal/reflectlite.Value).Elem", "(internal/reflectlite.Value).Set"], unfollowed := true, recurses := true, named := ["errors.errorType"], apart := false, laid := [("errors.errorType", laid_errors_errorType)], narrowed := true }
def VolumeFewUptoSaid : Prop := volumeFewUptoRow.holds Tryz.pinned (OpenSpec.upto volumeFewSpec)

/-- 'stavelaw12.VolumeReplays', WHERE WHAT IT READS IS OF BULK AT MOST 1048576: true; the input reads as it did. -/
def volumeReplaysUptoRow : OpenClaim := { program := "ythopnbklmlopkaagreatdoor", sum := "f449950b5ab87e3dddb945a856f2f559c8fddb3429af100ebf1f48d5974704b9", func := "stave/stavelaw12.VolumeReplays", spec := "volumeReplays", inPlace := ["internal/reflectlite.ValueOf", "(internal/reflectlite.Value).Type", "(internal/reflectlite.Value).IsNil", "internal/reflectlite.TypeOf", "(internal/reflectlite.Value).Elem", "(internal/reflectlite.Value).Set"], unfollowed := true, recurses := true, named := ["errors.errorType"], apart := false, laid := [("errors.errorType", laid_errors_errorType)], narrowed := true }
def VolumeReplaysUptoSaid : Prop := volumeReplaysUptoRow.holds Tryz.pinned (OpenSpec.upto volumeReplaysSpec)

/-- 'stavelaw12.VolumeLong', WHERE WHAT IT READS IS OF BULK AT MOST 1048576: true; the input reads as it did. -/
def volumeLongUptoRow : OpenClaim := { program := "ythopnbklmlopkaagreatdoor", sum := "f449950b5ab87e3dddb945a856f2f559c8fddb3429af100ebf1f48d5974704b9", func := "stave/stavelaw12.VolumeLong", spec := "volumeLong", inPlace := ["internal/reflectlite.ValueOf", "(internal/reflectlite.Value).Type", "(internal/reflectlite.Value).IsNil", "internal/reflectlite.TypeOf", "(internal/reflectlite.Value).Elem", "(internal/reflectlite.Value).Set"], unfollowed := true, recurses := true, named := ["errors.errorType"], apart := false, laid := [("errors.errorType", laid_errors_errorType)], narrowed := true }
def VolumeLongUptoSaid : Prop := volumeLongUptoRow.holds Tryz.pinned (OpenSpec.upto volumeLongSpec)

/-- 'stavelaw12.VolumeNew', WHERE WHAT IT READS IS OF BULK AT MOST 1048576: true; the input reads as it did. -/
def volumeNewUptoRow : OpenClaim := { program := "ythopnbklmlopkaagreatdoor", sum := "f449950b5ab87e3dddb945a856f2f559c8fddb3429af100ebf1f48d5974704b9", func := "stave/stavelaw12.VolumeNew", spec := "volumeNew", inPlace := ["internal/reflectlite.ValueOf", "(internal/reflectlite.Value).Type", "(internal/reflectlite.Value).IsNil", "internal/reflectlite.TypeOf", "(internal/reflectlite.Value).Elem", "(internal/reflectlite.Value).Set"], unfollowed := true, recurses := true, named := ["errors.errorType"], apart := false, laid := [("errors.errorType", laid_errors_errorType)], narrowed := true }
def VolumeNewUptoSaid : Prop := volumeNewUptoRow.holds Tryz.pinned (OpenSpec.upto volumeNewSpec)

/-- 'stavelaw12.VolumeNumbers', WHERE WHAT IT READS IS OF BULK AT MOST 1048576: true; the input reads as it did. -/
def volumeNumbersUptoRow : OpenClaim := { program := "ythopnbklmlopkaagreatdoor", sum := "f449950b5ab87e3dddb945a856f2f559c8fddb3429af100ebf1f48d5974704b9", func := "stave/stavelaw12.VolumeNumbers", spec := "volumeNumbers", inPlace := ["internal/reflectlite.ValueOf", "(internal/reflectlite.Value).Type", "(internal/reflectlite.Value).IsNil", "internal/reflectlite.TypeOf", "(internal/reflectlite.Value).Elem", "(internal/reflectlite.Value).Set"], unfollowed := true, recurses := true, named := ["errors.errorType"], apart := false, laid := [("errors.errorType", laid_errors_errorType)], narrowed := true }
def VolumeNumbersUptoSaid : Prop := volumeNumbersUptoRow.holds Tryz.pinned (OpenSpec.upto volumeNumbersSpec)

/-- 'stavelaw12.VolumeBeyond', WHERE WHAT IT READS IS OF BULK AT MOST 1048576: true; the input reads as it did. -/
def volumeBeyondUptoRow : OpenClaim := { program := "ythopnbklmlopkaagreatdoor", sum := "f449950b5ab87e3dddb945a856f2f559c8fddb3429af100ebf1f48d5974704b9", func := "stave/stavelaw12.VolumeBeyond", spec := "volumeBeyond", inPlace := ["internal/reflectlite.ValueOf", "(internal/reflectlite.Value).Type", "(internal/reflectlite.Value).IsNil", "internal/reflectlite.TypeOf", "(internal/reflectlite.Value).Elem", "(internal/reflectlite.Value).Set"], unfollowed := true, recurses := true, named := ["errors.errorType"], apart := false, laid := [("errors.errorType", laid_errors_errorType)], narrowed := true }
def VolumeBeyondUptoSaid : Prop := volumeBeyondUptoRow.holds Tryz.pinned (OpenSpec.upto volumeBeyondSpec)

/-- 'stavelaw12.VolumeHolds', WHERE WHAT IT READS IS OF BULK AT MOST 1048576: true; the input reads as it did. -/
def volumeHoldsUptoRow : OpenClaim := { program := "ythopnbklmlopkaagreatdoor", sum := "f449950b5ab87e3dddb945a856f2f559c8fddb3429af100ebf1f48d5974704b9", func := "stave/stavelaw12.VolumeHolds", spec := "volumeHolds", inPlace := ["internal/reflectlite.ValueOf", "(internal/reflectlite.Value).Type", "(internal/reflectlite.Value).IsNil", "internal/reflectlite.TypeOf", "(internal/reflectlite.Value).Elem", "(internal/reflectlite.Value).Set"], unfollowed := true, recurses := true, named := ["errors.errorType"], apart := false, laid := [("errors.errorType", laid_errors_errorType)], narrowed := true }
def VolumeHoldsUptoSaid : Prop := volumeHoldsUptoRow.holds Tryz.pinned (OpenSpec.upto volumeHoldsSpec)

/-- 'stavelaw12.VolumeCrash', WHERE WHAT IT READS IS OF BULK AT MOST 1048576: true; the input reads as it did. -/
def volumeCrashUptoRow : OpenClaim := { program := "ythopnbklmlopkaagreatdoor", sum := "f449950b5ab87e3dddb945a856f2f559c8fddb3429af100ebf1f48d5974704b9", func := "stave/stavelaw12.VolumeCrash", spec := "volumeCrash", inPlace := ["internal/reflectlite.ValueOf", "(internal/reflectlite.Value).Type", "(internal/reflectlite.Value).IsNil", "internal/reflectlite.TypeOf", "(internal/reflectlite.Value).Elem", "(internal/reflectlite.Value).Set"], unfollowed := true, recurses := true, named := ["errors.errorType"], apart := false, laid := [("errors.errorType", laid_errors_errorType)], narrowed := true }
def VolumeCrashUptoSaid : Prop := volumeCrashUptoRow.holds Tryz.pinned (OpenSpec.upto volumeCrashSpec)

end Rows
end Go.Proofs.YthopnbklmlopkaaGreatDoor
