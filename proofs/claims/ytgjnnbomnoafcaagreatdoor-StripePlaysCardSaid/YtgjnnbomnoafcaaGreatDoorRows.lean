/-
  NARROWER THAN 'FOR EVERY INPUT', by the rows' own cells (each row's printed sentence says how): RackPlays: laid · SuperPlays: laid · JournalPlays: laid · StripePlays: laid · VolumePlays: laid · TapePlays: laid.
  DERIVED. THE GIVEN ROWS OF THIS SEAT. 6 by the template 'for every input the law returns true; each argument reads behind the call as it read before'; 0 by the template 'total and deterministic' (their statements: YtgjnnbomnoafcaaGreatDoorTotals.lean).
  GIVEN WITH THE SEED: the statements are not yours to turn. If you find one false, say at which input.
  Laid BY PROGRAM, IN A SANDBOX (cutbox-rows.mjs): the forced cells as the released guide's own fill.sh prints them over the translation 58c1e3edfaa99d3b… (all of the seat's roots in one cut). By AI agents, Wed Nov 11 2026. No macro, syntax, notation, axiom, sorry.
-/
import Derived.Test.YtgjnnbomnoafcaaGreatDoorChecked
import GoSem.Claim
import GoSem.ClaimJoined
import GoSem.ClaimMapViews
import Derived.JoinedTies
import Derived.KernelRfl
namespace Go.Proofs.YtgjnnbomnoafcaaGreatDoor
/- THE CELL 'sum', in the pinned program and in every row, IS THE sha256 OF THE DUMP (.gsa) THAT YtgjnnbomnoafcaaGreatDoorProg.lean LOADS. Nothing in Lean hashes anything: it is a label: what it is worth is what the hold of that sum in a sandbox is worth. -/
noncomputable def Tryz.pinned : Pinned := { name := "ytgjnnbomnoafcaagreatdoor", sum := "58c1e3edfaa99d3b913a216e47604bc78bffad1106ded1814b7249dc24569c57", checked := Tryz.checked }
namespace Rows
def none {H : Type} : Left H := { results := [], args := [] }

/- WHAT THE LISTED PACKAGE-LEVEL VARIABLES READ AS WHEN THE CALL BEGINS. Each datum BY PROGRAM (the guide's laid-datum.mjs) off the statement by which the dump's own 'gosem.cut.vars' lays the variable. In a bare row this is a premise. The card (YtgjnnbomnoafcaaGreatDoorCards.lean) ties it to the program's text. -/
def laid_errors_errorType {H : Type} : DataW H := .iface "internal/reflectlite.rtype" (.agg [.ptr (.lit (.string [101, 114, 114, 111, 114]))])

/-- 'stavelaw8.RackPlays': WHATEVER THE INPUT: true; the input reads as it did. -/
def rackPlaysSpec : ChangeSpec := { name := "rackPlays", fn := fun _ => fun
  | [d1, d2, d3] => { results := [.lit (.bool true)], args := [d1, d2, d3] }
  | _ => none }
def rackPlaysRow : OpenClaim := { program := "ytgjnnbomnoafcaagreatdoor", sum := "58c1e3edfaa99d3b913a216e47604bc78bffad1106ded1814b7249dc24569c57", func := "stave/stavelaw8.RackPlays", spec := "rackPlays", inPlace := ["internal/reflectlite.ValueOf", "(internal/reflectlite.Value).Type", "(internal/reflectlite.Value).IsNil", "internal/reflectlite.TypeOf", "(internal/reflectlite.Value).Elem", "(internal/reflectlite.Value).Set"], unfollowed := true, recurses := true, named := ["errors.errorType"], apart := false, laid := [("errors.errorType", laid_errors_errorType)] }
def RackPlaysSaid : Prop := rackPlaysRow.holds Tryz.pinned (OpenSpec.ofChange rackPlaysSpec)

/-- ITS FALSE NEIGHBOUR: 'it returns false'. Refute it at one input. -/
def rackPlaysWrong : ChangeSpec := { name := "rackPlays", fn := fun _ => fun
  | [d1, d2, d3] => { results := [.lit (.bool false)], args := [d1, d2, d3] }
  | _ => none }
def RackPlaysWrongFalsely : Prop := rackPlaysRow.holds Tryz.pinned (OpenSpec.ofChange rackPlaysWrong)

/-- 'stavelaw9.SuperPlays': WHATEVER THE INPUT: true; the input reads as it did. -/
def superPlaysSpec : ChangeSpec := { name := "superPlays", fn := fun _ => fun
  | [d1, d2, d3, d4, d5] => { results := [.lit (.bool true)], args := [d1, d2, d3, d4, d5] }
  | _ => none }
def superPlaysRow : OpenClaim := { program := "ytgjnnbomnoafcaagreatdoor", sum := "58c1e3edfaa99d3b913a216e47604bc78bffad1106ded1814b7249dc24569c57", func := "stave/stavelaw9.SuperPlays", spec := "superPlays", inPlace := ["internal/reflectlite.ValueOf", "(internal/reflectlite.Value).Type", "(internal/reflectlite.Value).IsNil", "internal/reflectlite.TypeOf", "(internal/reflectlite.Value).Elem", "(internal/reflectlite.Value).Set"], unfollowed := true, recurses := true, named := ["errors.errorType"], apart := false, laid := [("errors.errorType", laid_errors_errorType)] }
def SuperPlaysSaid : Prop := superPlaysRow.holds Tryz.pinned (OpenSpec.ofChange superPlaysSpec)

/-- ITS FALSE NEIGHBOUR: 'it returns false'. Refute it at one input. -/
def superPlaysWrong : ChangeSpec := { name := "superPlays", fn := fun _ => fun
  | [d1, d2, d3, d4, d5] => { results := [.lit (.bool false)], args := [d1, d2, d3, d4, d5] }
  | _ => none }
def SuperPlaysWrongFalsely : Prop := superPlaysRow.holds Tryz.pinned (OpenSpec.ofChange superPlaysWrong)

/-- 'stavelaw10.JournalPlays': WHATEVER THE INPUT: true; the input reads as it did. -/
def journalPlaysSpec : ChangeSpec := { name := "journalPlays", fn := fun _ => fun
  | [d1, d2, d3, d4, d5] => { results := [.lit (.bool true)], args := [d1, d2, d3, d4, d5] }
  | _ => none }
def journalPlaysRow : OpenClaim := { program := "ytgjnnbomnoafcaagreatdoor", sum := "58c1e3edfaa99d3b913a216e47604bc78bffad1106ded1814b7249dc24569c57", func := "stave/stavelaw10.JournalPlays", spec := "journalPlays", inPlace := ["internal/reflectlite.ValueOf", "(internal/reflectlite.Value).Type", "(internal/reflectlite.Value).IsNil", "internal/reflectlite.TypeOf", "(internal/reflectlite.Value).Elem", "(internal/reflectlite.Value).Set"], unfollowed := true, recurses := true, named := ["errors.errorType"], apart := false, laid := [("errors.errorType", laid_errors_errorType)] }
def JournalPlaysSaid : Prop := journalPlaysRow.holds Tryz.pinned (OpenSpec.ofChange journalPlaysSpec)

/-- ITS FALSE NEIGHBOUR: 'it returns false'. Refute it at one input. -/
def journalPlaysWrong : ChangeSpec := { name := "journalPlays", fn := fun _ => fun
  | [d1, d2, d3, d4, d5] => { results := [.lit (.bool false)], args := [d1, d2, d3, d4, d5] }
  | _ => none }
def JournalPlaysWrongFalsely : Prop := journalPlaysRow.holds Tryz.pinned (OpenSpec.ofChange journalPlaysWrong)

/-- 'stavelaw11.StripePlays': WHATEVER THE INPUT: true; the input reads as it did. -/
def stripePlaysSpec : ChangeSpec := { name := "stripePlays", fn := fun _ => fun
  | [d1, d2, d3, d4, d5] => { results := [.lit (.bool true)], args := [d1, d2, d3, d4, d5] }
  | _ => none }
def stripePlaysRow : OpenClaim := { program := "ytgjnnbomnoafcaagreatdoor", sum := "58c1e3edfaa99d3b913a216e47604bc78bffad1106ded1814b7249dc24569c57", func := "stave/stavelaw11.StripePlays", spec := "stripePlays", inPlace := ["internal/reflectlite.ValueOf", "(internal/reflectlite.Value).Type", "(internal/reflectlite.Value).IsNil", "internal/reflectlite.TypeOf", "(internal/reflectlite.Value).Elem", "(internal/reflectlite.Value).Set"], unfollowed := true, recurses := true, named := ["errors.errorType"], apart := false, laid := [("errors.errorType", laid_errors_errorType)] }
def StripePlaysSaid : Prop := stripePlaysRow.holds Tryz.pinned (OpenSpec.ofChange stripePlaysSpec)

/-- ITS FALSE NEIGHBOUR: 'it returns false'. Refute it at one input. -/
def stripePlaysWrong : ChangeSpec := { name := "stripePlays", fn := fun _ => fun
  | [d1, d2, d3, d4, d5] => { results := [.lit (.bool false)], args := [d1, d2, d3, d4, d5] }
  | _ => none }
def StripePlaysWrongFalsely : Prop := stripePlaysRow.holds Tryz.pinned (OpenSpec.ofChange stripePlaysWrong)

/-- 'stavelaw12.VolumePlays': WHATEVER THE INPUT: true; the input reads as it did. -/
def volumePlaysSpec : ChangeSpec := { name := "volumePlays", fn := fun _ => fun
  | [d1, d2, d3, d4, d5] => { results := [.lit (.bool true)], args := [d1, d2, d3, d4, d5] }
  | _ => none }
def volumePlaysRow : OpenClaim := { program := "ytgjnnbomnoafcaagreatdoor", sum := "58c1e3edfaa99d3b913a216e47604bc78bffad1106ded1814b7249dc24569c57", func := "stave/stavelaw12.VolumePlays", spec := "volumePlays", inPlace := ["internal/reflectlite.ValueOf", "(internal/reflectlite.Value).Type", "(internal/reflectlite.Value).IsNil", "internal/reflectlite.TypeOf", "(internal/reflectlite.Value).Elem", "(internal/reflectlite.Value).Set"], unfollowed := true, recurses := true, named := ["errors.errorType"], apart := false, laid := [("errors.errorType", laid_errors_errorType)] }
def VolumePlaysSaid : Prop := volumePlaysRow.holds Tryz.pinned (OpenSpec.ofChange volumePlaysSpec)

/-- ITS FALSE NEIGHBOUR: 'it returns false'. Refute it at one input. -/
def volumePlaysWrong : ChangeSpec := { name := "volumePlays", fn := fun _ => fun
  | [d1, d2, d3, d4, d5] => { results := [.lit (.bool false)], args := [d1, d2, d3, d4, d5] }
  | _ => none }
def VolumePlaysWrongFalsely : Prop := volumePlaysRow.holds Tryz.pinned (OpenSpec.ofChange volumePlaysWrong)

/-- 'stavelaw14.TapePlays': WHATEVER THE INPUT: true; the input reads as it did. -/
def tapePlaysSpec : ChangeSpec := { name := "tapePlays", fn := fun _ => fun
  | [d1, d2, d3, d4, d5] => { results := [.lit (.bool true)], args := [d1, d2, d3, d4, d5] }
  | _ => none }
def tapePlaysRow : OpenClaim := { program := "ytgjnnbomnoafcaagreatdoor", sum := "58c1e3edfaa99d3b913a216e47604bc78bffad1106ded1814b7249dc24569c57", func := "stave/stavelaw14.TapePlays", spec := "tapePlays", inPlace := ["internal/reflectlite.ValueOf", "(internal/reflectlite.Value).Type", "(internal/reflectlite.Value).IsNil", "internal/reflectlite.TypeOf", "(internal/reflectlite.Value).Elem", "(internal/reflectlite.Value).Set"], unfollowed := true, recurses := true, named := ["errors.errorType"], apart := false, laid := [("errors.errorType", laid_errors_errorType)] }
def TapePlaysSaid : Prop := tapePlaysRow.holds Tryz.pinned (OpenSpec.ofChange tapePlaysSpec)

/-- ITS FALSE NEIGHBOUR: 'it returns false'. Refute it at one input. -/
def tapePlaysWrong : ChangeSpec := { name := "tapePlays", fn := fun _ => fun
  | [d1, d2, d3, d4, d5] => { results := [.lit (.bool false)], args := [d1, d2, d3, d4, d5] }
  | _ => none }
def TapePlaysWrongFalsely : Prop := tapePlaysRow.holds Tryz.pinned (OpenSpec.ofChange tapePlaysWrong)

/- THE SECOND FORM. 'bulk': how many values and letters a reading holds, each counted each time it is reached (what is shared counts as often as it is met; a slice's spare places count too). A statement '..UptoSaid' is the law's where the arguments, and the package variables that the reading takes, are together of bulk at most 1048576: NARROWER than '..Said'. Prove '..Said' where nothing that the law and all that it calls make is longer than what came in: it says more and counts as full. Else prove '..UptoSaid'. A law counts once. -/
mutual
def uptoBulk {H : Type} : DataW H → Nat
  | .lit (.string bytes) => bytes.length + 1
  | .lit _ => 1
  | .nil => 1
  | .ptr d => uptoBulk d + 1
  | .slice elems spare => uptoBulkAll elems + uptoBulkAll spare + 1
  | .agg parts => uptoBulkAll parts + 1
  | .iface _ d => uptoBulk d + 1
  | .map entries => uptoBulkEntries entries + 1
  | .held _ => 1
def uptoBulkAll {H : Type} : List (DataW H) → Nat
  | [] => 0
  | d :: r => uptoBulk d + uptoBulkAll r
def uptoBulkEntries {H : Type} : List (Lit × DataW H) → Nat
  | [] => 0
  | x :: r => uptoBulkEntry x + uptoBulkEntries r
def uptoBulkEntry {H : Type} : Lit × DataW H → Nat
  | (.string bytes, d) => bytes.length + uptoBulk d + 1
  | (_, d) => uptoBulk d + 1
 end
def uptoSmall : (H : Type) → List (DataW H) → Bool := fun _ ds => decide (uptoBulkAll ds ≤ 1048576)
def OpenSpec.upto (s : _root_.Go.ChangeSpec) : _root_.Go.OpenSpec := { _root_.Go.OpenSpec.ofChange s with cond := some uptoSmall }

/-- 'stavelaw8.RackPlays', WHERE WHAT IT READS IS OF BULK AT MOST 1048576: true; the input reads as it did. -/
def rackPlaysUptoRow : OpenClaim := { program := "ytgjnnbomnoafcaagreatdoor", sum := "58c1e3edfaa99d3b913a216e47604bc78bffad1106ded1814b7249dc24569c57", func := "stave/stavelaw8.RackPlays", spec := "rackPlays", inPlace := ["internal/reflectlite.ValueOf", "(internal/reflectlite.Value).Type", "(internal/reflectlite.Value).IsNil", "internal/reflectlite.TypeOf", "(internal/reflectlite.Value).Elem", "(internal/reflectlite.Value).Set"], unfollowed := true, recurses := true, named := ["errors.errorType"], apart := false, laid := [("errors.errorType", laid_errors_errorType)], narrowed := true }
def RackPlaysUptoSaid : Prop := rackPlaysUptoRow.holds Tryz.pinned (OpenSpec.upto rackPlaysSpec)

/-- 'stavelaw9.SuperPlays', WHERE WHAT IT READS IS OF BULK AT MOST 1048576: true; the input reads as it did. -/
def superPlaysUptoRow : OpenClaim := { program := "ytgjnnbomnoafcaagreatdoor", sum := "58c1e3edfaa99d3b913a216e47604bc78bffad1106ded1814b7249dc24569c57", func := "stave/stavelaw9.SuperPlays", spec := "superPlays", inPlace := ["internal/reflectlite.ValueOf", "(internal/reflectlite.Value).Type", "(internal/reflectlite.Value).IsNil", "internal/reflectlite.TypeOf", "(internal/reflectlite.Value).Elem", "(internal/reflectlite.Value).Set"], unfollowed := true, recurses := true, named := ["errors.errorType"], apart := false, laid := [("errors.errorType", laid_errors_errorType)], narrowed := true }
def SuperPlaysUptoSaid : Prop := superPlaysUptoRow.holds Tryz.pinned (OpenSpec.upto superPlaysSpec)

/-- 'stavelaw10.JournalPlays', WHERE WHAT IT READS IS OF BULK AT MOST 1048576: true; the input reads as it did. -/
def journalPlaysUptoRow : OpenClaim := { program := "ytgjnnbomnoafcaagreatdoor", sum := "58c1e3edfaa99d3b913a216e47604bc78bffad1106ded1814b7249dc24569c57", func := "stave/stavelaw10.JournalPlays", spec := "journalPlays", inPlace := ["internal/reflectlite.ValueOf", "(internal/reflectlite.Value).Type", "(internal/reflectlite.Value).IsNil", "internal/reflectlite.TypeOf", "(internal/reflectlite.Value).Elem", "(internal/reflectlite.Value).Set"], unfollowed := true, recurses := true, named := ["errors.errorType"], apart := false, laid := [("errors.errorType", laid_errors_errorType)], narrowed := true }
def JournalPlaysUptoSaid : Prop := journalPlaysUptoRow.holds Tryz.pinned (OpenSpec.upto journalPlaysSpec)

/-- 'stavelaw11.StripePlays', WHERE WHAT IT READS IS OF BULK AT MOST 1048576: true; the input reads as it did. -/
def stripePlaysUptoRow : OpenClaim := { program := "ytgjnnbomnoafcaagreatdoor", sum := "58c1e3edfaa99d3b913a216e47604bc78bffad1106ded1814b7249dc24569c57", func := "stave/stavelaw11.StripePlays", spec := "stripePlays", inPlace := ["internal/reflectlite.ValueOf", "(internal/reflectlite.Value).Type", "(internal/reflectlite.Value).IsNil", "internal/reflectlite.TypeOf", "(internal/reflectlite.Value).Elem", "(internal/reflectlite.Value).Set"], unfollowed := true, recurses := true, named := ["errors.errorType"], apart := false, laid := [("errors.errorType", laid_errors_errorType)], narrowed := true }
def StripePlaysUptoSaid : Prop := stripePlaysUptoRow.holds Tryz.pinned (OpenSpec.upto stripePlaysSpec)

/-- 'stavelaw12.VolumePlays', WHERE WHAT IT READS IS OF BULK AT MOST 1048576: true; the input reads as it did. -/
def volumePlaysUptoRow : OpenClaim := { program := "ytgjnnbomnoafcaagreatdoor", sum := "58c1e3edfaa99d3b913a216e47604bc78bffad1106ded1814b7249dc24569c57", func := "stave/stavelaw12.VolumePlays", spec := "volumePlays", inPlace := ["internal/reflectlite.ValueOf", "(internal/reflectlite.Value).Type", "(internal/reflectlite.Value).IsNil", "internal/reflectlite.TypeOf", "(internal/reflectlite.Value).Elem", "(internal/reflectlite.Value).Set"], unfollowed := true, recurses := true, named := ["errors.errorType"], apart := false, laid := [("errors.errorType", laid_errors_errorType)], narrowed := true }
def VolumePlaysUptoSaid : Prop := volumePlaysUptoRow.holds Tryz.pinned (OpenSpec.upto volumePlaysSpec)

/-- 'stavelaw14.TapePlays', WHERE WHAT IT READS IS OF BULK AT MOST 1048576: true; the input reads as it did. -/
def tapePlaysUptoRow : OpenClaim := { program := "ytgjnnbomnoafcaagreatdoor", sum := "58c1e3edfaa99d3b913a216e47604bc78bffad1106ded1814b7249dc24569c57", func := "stave/stavelaw14.TapePlays", spec := "tapePlays", inPlace := ["internal/reflectlite.ValueOf", "(internal/reflectlite.Value).Type", "(internal/reflectlite.Value).IsNil", "internal/reflectlite.TypeOf", "(internal/reflectlite.Value).Elem", "(internal/reflectlite.Value).Set"], unfollowed := true, recurses := true, named := ["errors.errorType"], apart := false, laid := [("errors.errorType", laid_errors_errorType)], narrowed := true }
def TapePlaysUptoSaid : Prop := tapePlaysUptoRow.holds Tryz.pinned (OpenSpec.upto tapePlaysSpec)

end Rows
end Go.Proofs.YtgjnnbomnoafcaaGreatDoor
