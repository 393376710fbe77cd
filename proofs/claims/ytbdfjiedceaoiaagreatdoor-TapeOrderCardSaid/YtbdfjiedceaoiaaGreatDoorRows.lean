/-
  NARROWER THAN 'FOR EVERY INPUT', by the rows' own cells (each row's printed sentence says how): VolumeNew: laid · VolumeBeyond: laid · TapeGap: laid · TapeOrder: laid · TapeLost: laid.
  DERIVED. THE GIVEN ROWS OF THIS SEAT. 5 by the template 'for every input the law returns true; each argument reads behind the call as it read before'; 0 by the template 'total and deterministic' (their statements: YtbdfjiedceaoiaaGreatDoorTotals.lean).
  GIVEN WITH THE SEED: the statements are not yours to turn. If you find one false, say at which input.
  Laid BY PROGRAM, IN A SANDBOX (cutbox-rows.mjs): the forced cells as the released guide's own fill.sh prints them over the translation 56722ea4c8f80969… (all of the seat's roots in one cut). By AI agents, Wed Nov 11 2026. No macro, syntax, notation, axiom, sorry.
-/
import Derived.Test.YtbdfjiedceaoiaaGreatDoorChecked
import GoSem.Claim
import GoSem.ClaimJoined
import GoSem.ClaimMapViews
import Derived.JoinedTies
import Derived.KernelRfl
namespace Go.Proofs.YtbdfjiedceaoiaaGreatDoor
/- THE CELL 'sum', in the pinned program and in every row, IS THE sha256 OF THE DUMP (.gsa) THAT YtbdfjiedceaoiaaGreatDoorProg.lean LOADS. Nothing in Lean hashes anything: it is a label: what it is worth is what the hold of that sum in a sandbox is worth. -/
noncomputable def Tryz.pinned : Pinned := { name := "ytbdfjiedceaoiaagreatdoor", sum := "56722ea4c8f8096901b532945dc17460552a66ebf502e0eb5edf65221a44185e", checked := Tryz.checked }
namespace Rows
def none {H : Type} : Left H := { results := [], args := [] }

/- WHAT THE LISTED PACKAGE-LEVEL VARIABLES READ AS WHEN THE CALL BEGINS. Each datum BY PROGRAM (the guide's laid-datum.mjs) off the statement by which the dump's own 'gosem.cut.vars' lays the variable. In a bare row this is a premise. The card (YtbdfjiedceaoiaaGreatDoorCards.lean) ties it to the program's text. -/
def laid_errors_errorType {H : Type} : DataW H := .iface "internal/reflectlite.rtype" (.agg [.ptr (.lit (.string [101, 114, 114, 111, 114]))])

/-- 'stavelaw12.VolumeNew': WHATEVER THE INPUT: true; the input reads as it did. -/
def volumeNewSpec : ChangeSpec := { name := "volumeNew", fn := fun _ => fun
  | [d1, d2, d3, d4, d5] => { results := [.lit (.bool true)], args := [d1, d2, d3, d4, d5] }
  | _ => none }
def volumeNewRow : OpenClaim := { program := "ytbdfjiedceaoiaagreatdoor", sum := "56722ea4c8f8096901b532945dc17460552a66ebf502e0eb5edf65221a44185e", func := "stave/stavelaw12.VolumeNew", spec := "volumeNew", inPlace := ["internal/reflectlite.ValueOf", "(internal/reflectlite.Value).Type", "(internal/reflectlite.Value).IsNil", "internal/reflectlite.TypeOf", "(internal/reflectlite.Value).Elem", "(internal/reflectlite.Value).Set"], unfollowed := true, recurses := true, named := ["errors.errorType"], apart := false, laid := [("errors.errorType", laid_errors_errorType)] }
def VolumeNewSaid : Prop := volumeNewRow.holds Tryz.pinned (OpenSpec.ofChange volumeNewSpec)

/-- ITS FALSE NEIGHBOUR: 'it returns false'. Refute it at one input. -/
def volumeNewWrong : ChangeSpec := { name := "volumeNew", fn := fun _ => fun
  | [d1, d2, d3, d4, d5] => { results := [.lit (.bool false)], args := [d1, d2, d3, d4, d5] }
  | _ => none }
def VolumeNewWrongFalsely : Prop := volumeNewRow.holds Tryz.pinned (OpenSpec.ofChange volumeNewWrong)

/-- 'stavelaw12.VolumeBeyond': WHATEVER THE INPUT: true; the input reads as it did. -/
def volumeBeyondSpec : ChangeSpec := { name := "volumeBeyond", fn := fun _ => fun
  | [d1, d2, d3, d4, d5, d6, d7, d8, d9] => { results := [.lit (.bool true)], args := [d1, d2, d3, d4, d5, d6, d7, d8, d9] }
  | _ => none }
def volumeBeyondRow : OpenClaim := { program := "ytbdfjiedceaoiaagreatdoor", sum := "56722ea4c8f8096901b532945dc17460552a66ebf502e0eb5edf65221a44185e", func := "stave/stavelaw12.VolumeBeyond", spec := "volumeBeyond", inPlace := ["internal/reflectlite.ValueOf", "(internal/reflectlite.Value).Type", "(internal/reflectlite.Value).IsNil", "internal/reflectlite.TypeOf", "(internal/reflectlite.Value).Elem", "(internal/reflectlite.Value).Set"], unfollowed := true, recurses := true, named := ["errors.errorType"], apart := false, laid := [("errors.errorType", laid_errors_errorType)] }
def VolumeBeyondSaid : Prop := volumeBeyondRow.holds Tryz.pinned (OpenSpec.ofChange volumeBeyondSpec)

/-- ITS FALSE NEIGHBOUR: 'it returns false'. Refute it at one input. -/
def volumeBeyondWrong : ChangeSpec := { name := "volumeBeyond", fn := fun _ => fun
  | [d1, d2, d3, d4, d5, d6, d7, d8, d9] => { results := [.lit (.bool false)], args := [d1, d2, d3, d4, d5, d6, d7, d8, d9] }
  | _ => none }
def VolumeBeyondWrongFalsely : Prop := volumeBeyondRow.holds Tryz.pinned (OpenSpec.ofChange volumeBeyondWrong)

/-- 'stavelaw14.TapeGap': WHATEVER THE INPUT: true; the input reads as it did. -/
def tapeGapSpec : ChangeSpec := { name := "tapeGap", fn := fun _ => fun
  | [d1, d2, d3] => { results := [.lit (.bool true)], args := [d1, d2, d3] }
  | _ => none }
def tapeGapRow : OpenClaim := { program := "ytbdfjiedceaoiaagreatdoor", sum := "56722ea4c8f8096901b532945dc17460552a66ebf502e0eb5edf65221a44185e", func := "stave/stavelaw14.TapeGap", spec := "tapeGap", inPlace := ["internal/reflectlite.ValueOf", "(internal/reflectlite.Value).Type", "(internal/reflectlite.Value).IsNil", "internal/reflectlite.TypeOf", "(internal/reflectlite.Value).Elem", "(internal/reflectlite.Value).Set"], unfollowed := true, recurses := true, named := ["errors.errorType"], apart := false, laid := [("errors.errorType", laid_errors_errorType)] }
def TapeGapSaid : Prop := tapeGapRow.holds Tryz.pinned (OpenSpec.ofChange tapeGapSpec)

/-- ITS FALSE NEIGHBOUR: 'it returns false'. Refute it at one input. -/
def tapeGapWrong : ChangeSpec := { name := "tapeGap", fn := fun _ => fun
  | [d1, d2, d3] => { results := [.lit (.bool false)], args := [d1, d2, d3] }
  | _ => none }
def TapeGapWrongFalsely : Prop := tapeGapRow.holds Tryz.pinned (OpenSpec.ofChange tapeGapWrong)

/-- 'stavelaw14.TapeOrder': WHATEVER THE INPUT: true; the input reads as it did. -/
def tapeOrderSpec : ChangeSpec := { name := "tapeOrder", fn := fun _ => fun
  | [d1, d2, d3, d4] => { results := [.lit (.bool true)], args := [d1, d2, d3, d4] }
  | _ => none }
def tapeOrderRow : OpenClaim := { program := "ytbdfjiedceaoiaagreatdoor", sum := "56722ea4c8f8096901b532945dc17460552a66ebf502e0eb5edf65221a44185e", func := "stave/stavelaw14.TapeOrder", spec := "tapeOrder", inPlace := ["internal/reflectlite.ValueOf", "(internal/reflectlite.Value).Type", "(internal/reflectlite.Value).IsNil", "internal/reflectlite.TypeOf", "(internal/reflectlite.Value).Elem", "(internal/reflectlite.Value).Set"], unfollowed := true, recurses := true, named := ["errors.errorType"], apart := false, laid := [("errors.errorType", laid_errors_errorType)] }
def TapeOrderSaid : Prop := tapeOrderRow.holds Tryz.pinned (OpenSpec.ofChange tapeOrderSpec)

/-- ITS FALSE NEIGHBOUR: 'it returns false'. Refute it at one input. -/
def tapeOrderWrong : ChangeSpec := { name := "tapeOrder", fn := fun _ => fun
  | [d1, d2, d3, d4] => { results := [.lit (.bool false)], args := [d1, d2, d3, d4] }
  | _ => none }
def TapeOrderWrongFalsely : Prop := tapeOrderRow.holds Tryz.pinned (OpenSpec.ofChange tapeOrderWrong)

/-- 'stavelaw14.TapeLost': WHATEVER THE INPUT: true; the input reads as it did. -/
def tapeLostSpec : ChangeSpec := { name := "tapeLost", fn := fun _ => fun
  | [d1, d2, d3] => { results := [.lit (.bool true)], args := [d1, d2, d3] }
  | _ => none }
def tapeLostRow : OpenClaim := { program := "ytbdfjiedceaoiaagreatdoor", sum := "56722ea4c8f8096901b532945dc17460552a66ebf502e0eb5edf65221a44185e", func := "stave/stavelaw14.TapeLost", spec := "tapeLost", inPlace := ["internal/reflectlite.ValueOf", "(internal/reflectlite.Value).Type", "(internal/reflectlite.Value).IsNil", "internal/reflectlite.TypeOf", "(internal/reflectlite.Value).Elem", "(internal/reflectlite.Value).Set"], unfollowed := true, recurses := true, named := ["errors.errorType"], apart := false, laid := [("errors.errorType", laid_errors_errorType)] }
def TapeLostSaid : Prop := tapeLostRow.holds Tryz.pinned (OpenSpec.ofChange tapeLostSpec)

/-- ITS FALSE NEIGHBOUR: 'it returns false'. Refute it at one input. -/
def tapeLostWrong : ChangeSpec := { name := "tapeLost", fn := fun _ => fun
  | [d1, d2, d3] => { results := [.lit (.bool false)], args := [d1, d2, d3] }
  | _ => none }
def TapeLostWrongFalsely : Prop := tapeLostRow.holds Tryz.pinned (OpenSpec.ofChange tapeLostWrong)

/- THE SECOND FORM. 'bulk': how many values and letters a reading holds, each counted each time it is reached (what is shared counts as often as it is met; a slice's spare places count too). A statement '..UptoSaid' is the law's where the arguments, and the package variables that the reading takes, are together of bulk at most 1048576: NARROWER than '..Said'. Prove '..Said' where nothing that the law and all that it calls make is longer than what came in: it says more and counts as full. Else prove '..UptoSaid'. A law counts once. -/
mutual
def uptoBulk {H : Type} : DataW H → Nat
  | .lit (.string bytes) => bytes.length + 1
  | .lit _ => 1
  | .nil => 1
  | .ptr d => uptoBulk d + 1
  | .slice elems spare => uptoBulkAll elems + uptoBulkAll spare + 1
  | .agg parts => uptoBulkAll parts + 1
  | .iface _ d => uptoBulk d + 1
  | .map entries => uptoBulkEntries entries + 1
  | .held _ => 1
def uptoBulkAll {H : Type} : List (DataW H) → Nat
  | [] => 0
  | d :: r => uptoBulk d + uptoBulkAll r
def uptoBulkEntries {H : Type} : List (Lit × DataW H) → Nat
  | [] => 0
  | x :: r => uptoBulkEntry x + uptoBulkEntries r
def uptoBulkEntry {H : Type} : Lit × DataW H → Nat
  | (.string bytes, d) => bytes.length + uptoBulk d + 1
  | (_, d) => uptoBulk d + 1
 end
def uptoSmall : (H : Type) → List (DataW H) → Bool := fun _ ds => decide (uptoBulkAll ds ≤ 1048576)
def OpenSpec.upto (s : _root_.Go.ChangeSpec) : _root_.Go.OpenSpec := { _root_.Go.OpenSpec.ofChange s with cond := some uptoSmall }

/-- 'stavelaw12.VolumeNew', WHERE WHAT IT READS IS OF BULK AT MOST 1048576: true; the input reads as it did. -/
def volumeNewUptoRow : OpenClaim := { program := "ytbdfjiedceaoiaagreatdoor", sum := "56722ea4c8f8096901b532945dc17460552a66ebf502e0eb5edf65221a44185e", func := "stave/stavelaw12.VolumeNew", spec := "volumeNew", inPlace := ["internal/reflectlite.ValueOf", "(internal/reflectlite.Value).Type", "(internal/reflectlite.Value).IsNil", "internal/reflectlite.TypeOf", "(internal/reflectlite.Value).Elem", "(internal/reflectlite.Value).Set"], unfollowed := true, recurses := true, named := ["errors.errorType"], apart := false, laid := [("errors.errorType", laid_errors_errorType)], narrowed := true }
def VolumeNewUptoSaid : Prop := volumeNewUptoRow.holds Tryz.pinned (OpenSpec.upto volumeNewSpec)

/-- 'stavelaw12.VolumeBeyond', WHERE WHAT IT READS IS OF BULK AT MOST 1048576: true; the input reads as it did. -/
def volumeBeyondUptoRow : OpenClaim := { program := "ytbdfjiedceaoiaagreatdoor", sum := "56722ea4c8f8096901b532945dc17460552a66ebf502e0eb5edf65221a44185e", func := "stave/stavelaw12.VolumeBeyond", spec := "volumeBeyond", inPlace := ["internal/reflectlite.ValueOf", "(internal/reflectlite.Value).Type", "(internal/reflectlite.Value).IsNil", "internal/reflectlite.TypeOf", "(internal/reflectlite.Value).Elem", "(internal/reflectlite.Value).Set"], unfollowed := true, recurses := true, named := ["errors.errorType"], apart := false, laid := [("errors.errorType", laid_errors_errorType)], narrowed := true }
def VolumeBeyondUptoSaid : Prop := volumeBeyondUptoRow.holds Tryz.pinned (OpenSpec.upto volumeBeyondSpec)

/-- 'stavelaw14.TapeGap', WHERE WHAT IT READS IS OF BULK AT MOST 1048576: true; the input reads as it did. -/
def tapeGapUptoRow : OpenClaim := { program := "ytbdfjiedceaoiaagreatdoor", sum := "56722ea4c8f8096901b532945dc17460552a66ebf502e0eb5edf65221a44185e", func := "stave/stavelaw14.TapeGap", spec := "tapeGap", inPlace := ["internal/reflectlite.ValueOf", "(internal/reflectlite.Value).Type", "(internal/reflectlite.Value).IsNil", "internal/reflectlite.TypeOf", "(internal/reflectlite.Value).Elem", "(internal/reflectlite.Value).Set"], unfollowed := true, recurses := true, named := ["errors.errorType"], apart := false, laid := [("errors.errorType", laid_errors_errorType)], narrowed := true }
def TapeGapUptoSaid : Prop := tapeGapUptoRow.holds Tryz.pinned (OpenSpec.upto tapeGapSpec)

/-- 'stavelaw14.TapeOrder', WHERE WHAT IT READS IS OF BULK AT MOST 1048576: true; the input reads as it did. -/
def tapeOrderUptoRow : OpenClaim := { program := "ytbdfjiedceaoiaagreatdoor", sum := "56722ea4c8f8096901b532945dc17460552a66ebf502e0eb5edf65221a44185e", func := "stave/stavelaw14.TapeOrder", spec := "tapeOrder", inPlace := ["internal/reflectlite.ValueOf", "(internal/reflectlite.Value).Type", "(internal/reflectlite.Value).IsNil", "internal/reflectlite.TypeOf", "(internal/reflectlite.Value).Elem", "(internal/reflectlite.Value).Set"], unfollowed := true, recurses := true, named := ["errors.errorType"], apart := false, laid := [("errors.errorType", laid_errors_errorType)], narrowed := true }
def TapeOrderUptoSaid : Prop := tapeOrderUptoRow.holds Tryz.pinned (OpenSpec.upto tapeOrderSpec)

/-- 'stavelaw14.TapeLost', WHERE WHAT IT READS IS OF BULK AT MOST 1048576: true; the input reads as it did. -/
def tapeLostUptoRow : OpenClaim := { program := "ytbdfjiedceaoiaagreatdoor", sum := "56722ea4c8f8096901b532945dc17460552a66ebf502e0eb5edf65221a44185e", func := "stave/stavelaw14.TapeLost", spec := "tapeLost", inPlace := ["internal/reflectlite.ValueOf", "(internal/reflectlite.Value).Type", "(internal/reflectlite.Value).IsNil", "internal/reflectlite.TypeOf", "(internal/reflectlite.Value).Elem", "(internal/reflectlite.Value).Set"], unfollowed := true, recurses := true, named := ["errors.errorType"], apart := false, laid := [("errors.errorType", laid_errors_errorType)], narrowed := true }
def TapeLostUptoSaid : Prop := tapeLostUptoRow.holds Tryz.pinned (OpenSpec.upto tapeLostSpec)

end Rows
end Go.Proofs.YtbdfjiedceaoiaaGreatDoor
