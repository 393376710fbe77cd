/-
  NARROWER THAN 'FOR EVERY INPUT', by the rows' own cells (each row's printed sentence says how): RackRuns: laid · RackBoots: laid · RackPlaces: laid · RackFuse: laid · RackApart: laid · SuperRuns: laid · SuperTells: laid · SuperBytes: laid · RackErrors: laid · SuperFew: laid · JournalRuns: laid · JournalRing: laid · JournalLost: laid · SuperOther: laid · JournalOne: laid · JournalCut: laid · JournalUnion: laid.
  DERIVED. THE GIVEN ROWS OF THIS SEAT. 17 by the template 'for every input the law returns true; each argument reads behind the call as it read before'; 0 by the template 'total and deterministic' (their statements: YtkmgdglmlmodmaaDoorTotals.lean).
  GIVEN WITH THE SEED: the statements are not yours to turn. If you find one false, say at which input.
  Laid BY PROGRAM, IN A SANDBOX (cutbox-rows.mjs): the forced cells as the released guide's own fill.sh prints them over the translation 8754294ce9cdcaf5… (all of the seat's roots in one cut). By AI agents, Wed Nov 11 2026. No macro, syntax, notation, axiom, sorry.
-/
import Derived.Test.YtkmgdglmlmodmaaDoorChecked
import GoSem.Claim
import GoSem.ClaimJoined
import GoSem.ClaimMapViews
import Derived.JoinedTies
import Derived.KernelRfl
namespace Go.Proofs.YtkmgdglmlmodmaaDoor
/- THE CELL 'sum', in the pinned program and in every row, IS THE sha256 OF THE DUMP (.gsa) THAT YtkmgdglmlmodmaaDoorProg.lean LOADS. Nothing in Lean hashes anything: it is a label: what it is worth is what the hold of that sum in a sandbox is worth. -/
noncomputable def Tryd.pinned : Pinned := { name := "ytkmgdglmlmodmaadoor", sum := "8754294ce9cdcaf5377f30fcf144aa4a02e05ba6117930125d4afd6303860449", checked := Tryd.checked }
namespace Rows
def none {H : Type} : Left H := { results := [], args := [] }

/- WHAT THE LISTED PACKAGE-LEVEL VARIABLES READ AS WHEN THE CALL BEGINS. Each datum BY PROGRAM (the guide's laid-datum.mjs) off the statement by which the dump's own 'gosem.cut.vars' lays the variable. In a bare row this is a premise. The card (YtkmgdglmlmodmaaDoorCards.lean) ties it to the program's text. -/
def laid_errors_errorType {H : Type} : DataW H := .iface "internal/reflectlite.rtype" (.agg [.ptr (.lit (.string [101, 114, 114, 111, 114]))])

/-- 'stavelaw8.RackRuns': WHATEVER THE INPUT: true; the input reads as it did. -/
def rackRunsSpec : ChangeSpec := { name := "rackRuns", fn := fun _ => fun
  | [] => { results := [.lit (.bool true)], args := [] }
  | _ => none }
def rackRunsRow : OpenClaim := { program := "ytkmgdglmlmodmaadoor", sum := "8754294ce9cdcaf5377f30fcf144aa4a02e05ba6117930125d4afd6303860449", func := "stave/stavelaw8.RackRuns", spec := "rackRuns", inPlace := ["internal/reflectlite.ValueOf", "(internal/reflectlite.Value).Type", "(internal/reflectlite.Value).IsNil", "internal/reflectlite.TypeOf", "(internal/reflectlite.Value).Elem", "(internal/reflectlite.Value).Set"], unfollowed := true, recurses := true, named := ["errors.errorType"], apart := false, laid := [("errors.errorType", laid_errors_errorType)] }
def RackRunsSaid : Prop := rackRunsRow.holds Tryd.pinned (OpenSpec.ofChange rackRunsSpec)

/-- ITS FALSE NEIGHBOUR: 'it returns false'. Refute it at one input. -/
def rackRunsWrong : ChangeSpec := { name := "rackRuns", fn := fun _ => fun
  | [] => { results := [.lit (.bool false)], args := [] }
  | _ => none }
def RackRunsWrongFalsely : Prop := rackRunsRow.holds Tryd.pinned (OpenSpec.ofChange rackRunsWrong)

/-- 'stavelaw8.RackBoots': WHATEVER THE INPUT: true; the input reads as it did. -/
def rackBootsSpec : ChangeSpec := { name := "rackBoots", fn := fun _ => fun
  | [d1, d2, d3] => { results := [.lit (.bool true)], args := [d1, d2, d3] }
  | _ => none }
def rackBootsRow : OpenClaim := { program := "ytkmgdglmlmodmaadoor", sum := "8754294ce9cdcaf5377f30fcf144aa4a02e05ba6117930125d4afd6303860449", func := "stave/stavelaw8.RackBoots", spec := "rackBoots", inPlace := ["internal/reflectlite.ValueOf", "(internal/reflectlite.Value).Type", "(internal/reflectlite.Value).IsNil", "internal/reflectlite.TypeOf", "(internal/reflectlite.Value).Elem", "(internal/reflectlite.Value).Set"], unfollowed := true, recurses := true, named := ["errors.errorType"], apart := false, laid := [("errors.errorType", laid_errors_errorType)] }
def RackBootsSaid : Prop := rackBootsRow.holds Tryd.pinned (OpenSpec.ofChange rackBootsSpec)

/-- ITS FALSE NEIGHBOUR: 'it returns false'. Refute it at one input. -/
def rackBootsWrong : ChangeSpec := { name := "rackBoots", fn := fun _ => fun
  | [d1, d2, d3] => { results := [.lit (.bool false)], args := [d1, d2, d3] }
  | _ => none }
def RackBootsWrongFalsely : Prop := rackBootsRow.holds Tryd.pinned (OpenSpec.ofChange rackBootsWrong)

/-- 'stavelaw8.RackPlaces': WHATEVER THE INPUT: true; the input reads as it did. -/
def rackPlacesSpec : ChangeSpec := { name := "rackPlaces", fn := fun _ => fun
  | [d1, d2, d3, d4, d5, d6, d7] => { results := [.lit (.bool true)], args := [d1, d2, d3, d4, d5, d6, d7] }
  | _ => none }
def rackPlacesRow : OpenClaim := { program := "ytkmgdglmlmodmaadoor", sum := "8754294ce9cdcaf5377f30fcf144aa4a02e05ba6117930125d4afd6303860449", func := "stave/stavelaw8.RackPlaces", spec := "rackPlaces", inPlace := ["internal/reflectlite.ValueOf", "(internal/reflectlite.Value).Type", "(internal/reflectlite.Value).IsNil", "internal/reflectlite.TypeOf", "(internal/reflectlite.Value).Elem", "(internal/reflectlite.Value).Set"], unfollowed := true, recurses := true, named := ["errors.errorType"], apart := false, laid := [("errors.errorType", laid_errors_errorType)] }
def RackPlacesSaid : Prop := rackPlacesRow.holds Tryd.pinned (OpenSpec.ofChange rackPlacesSpec)

/-- ITS FALSE NEIGHBOUR: 'it returns false'. Refute it at one input. -/
def rackPlacesWrong : ChangeSpec := { name := "rackPlaces", fn := fun _ => fun
  | [d1, d2, d3, d4, d5, d6, d7] => { results := [.lit (.bool false)], args := [d1, d2, d3, d4, d5, d6, d7] }
  | _ => none }
def RackPlacesWrongFalsely : Prop := rackPlacesRow.holds Tryd.pinned (OpenSpec.ofChange rackPlacesWrong)

/-- 'stavelaw8.RackFuse': WHATEVER THE INPUT: true; the input reads as it did. -/
def rackFuseSpec : ChangeSpec := { name := "rackFuse", fn := fun _ => fun
  | [d1, d2] => { results := [.lit (.bool true)], args := [d1, d2] }
  | _ => none }
def rackFuseRow : OpenClaim := { program := "ytkmgdglmlmodmaadoor", sum := "8754294ce9cdcaf5377f30fcf144aa4a02e05ba6117930125d4afd6303860449", func := "stave/stavelaw8.RackFuse", spec := "rackFuse", inPlace := ["internal/reflectlite.ValueOf", "(internal/reflectlite.Value).Type", "(internal/reflectlite.Value).IsNil", "internal/reflectlite.TypeOf", "(internal/reflectlite.Value).Elem", "(internal/reflectlite.Value).Set"], unfollowed := true, recurses := true, named := ["errors.errorType"], apart := false, laid := [("errors.errorType", laid_errors_errorType)] }
def RackFuseSaid : Prop := rackFuseRow.holds Tryd.pinned (OpenSpec.ofChange rackFuseSpec)

/-- ITS FALSE NEIGHBOUR: 'it returns false'. Refute it at one input. -/
def rackFuseWrong : ChangeSpec := { name := "rackFuse", fn := fun _ => fun
  | [d1, d2] => { results := [.lit (.bool false)], args := [d1, d2] }
  | _ => none }
def RackFuseWrongFalsely : Prop := rackFuseRow.holds Tryd.pinned (OpenSpec.ofChange rackFuseWrong)

/-- 'stavelaw8.RackApart': WHATEVER THE INPUT: true; the input reads as it did. -/
def rackApartSpec : ChangeSpec := { name := "rackApart", fn := fun _ => fun
  | [d1, d2, d3, d4] => { results := [.lit (.bool true)], args := [d1, d2, d3, d4] }
  | _ => none }
def rackApartRow : OpenClaim := { program := "ytkmgdglmlmodmaadoor", sum := "8754294ce9cdcaf5377f30fcf144aa4a02e05ba6117930125d4afd6303860449", func := "stave/stavelaw8.RackApart", spec := "rackApart", inPlace := ["internal/reflectlite.ValueOf", "(internal/reflectlite.Value).Type", "(internal/reflectlite.Value).IsNil", "internal/reflectlite.TypeOf", "(internal/reflectlite.Value).Elem", "(internal/reflectlite.Value).Set"], unfollowed := true, recurses := true, named := ["errors.errorType"], apart := false, laid := [("errors.errorType", laid_errors_errorType)] }
def RackApartSaid : Prop := rackApartRow.holds Tryd.pinned (OpenSpec.ofChange rackApartSpec)

/-- ITS FALSE NEIGHBOUR: 'it returns false'. Refute it at one input. -/
def rackApartWrong : ChangeSpec := { name := "rackApart", fn := fun _ => fun
  | [d1, d2, d3, d4] => { results := [.lit (.bool false)], args := [d1, d2, d3, d4] }
  | _ => none }
def RackApartWrongFalsely : Prop := rackApartRow.holds Tryd.pinned (OpenSpec.ofChange rackApartWrong)

/-- 'stavelaw9.SuperRuns': WHATEVER THE INPUT: true; the input reads as it did. -/
def superRunsSpec : ChangeSpec := { name := "superRuns", fn := fun _ => fun
  | [] => { results := [.lit (.bool true)], args := [] }
  | _ => none }
def superRunsRow : OpenClaim := { program := "ytkmgdglmlmodmaadoor", sum := "8754294ce9cdcaf5377f30fcf144aa4a02e05ba6117930125d4afd6303860449", func := "stave/stavelaw9.SuperRuns", spec := "superRuns", inPlace := ["internal/reflectlite.ValueOf", "(internal/reflectlite.Value).Type", "(internal/reflectlite.Value).IsNil", "internal/reflectlite.TypeOf", "(internal/reflectlite.Value).Elem", "(internal/reflectlite.Value).Set"], unfollowed := true, recurses := true, named := ["errors.errorType"], apart := false, laid := [("errors.errorType", laid_errors_errorType)] }
def SuperRunsSaid : Prop := superRunsRow.holds Tryd.pinned (OpenSpec.ofChange superRunsSpec)

/-- ITS FALSE NEIGHBOUR: 'it returns false'. Refute it at one input. -/
def superRunsWrong : ChangeSpec := { name := "superRuns", fn := fun _ => fun
  | [] => { results := [.lit (.bool false)], args := [] }
  | _ => none }
def SuperRunsWrongFalsely : Prop := superRunsRow.holds Tryd.pinned (OpenSpec.ofChange superRunsWrong)

/-- 'stavelaw9.SuperTells': WHATEVER THE INPUT: true; the input reads as it did. -/
def superTellsSpec : ChangeSpec := { name := "superTells", fn := fun _ => fun
  | [d1, d2, d3] => { results := [.lit (.bool true)], args := [d1, d2, d3] }
  | _ => none }
def superTellsRow : OpenClaim := { program := "ytkmgdglmlmodmaadoor", sum := "8754294ce9cdcaf5377f30fcf144aa4a02e05ba6117930125d4afd6303860449", func := "stave/stavelaw9.SuperTells", spec := "superTells", inPlace := ["internal/reflectlite.ValueOf", "(internal/reflectlite.Value).Type", "(internal/reflectlite.Value).IsNil", "internal/reflectlite.TypeOf", "(internal/reflectlite.Value).Elem", "(internal/reflectlite.Value).Set"], unfollowed := true, recurses := true, named := ["errors.errorType"], apart := false, laid := [("errors.errorType", laid_errors_errorType)] }
def SuperTellsSaid : Prop := superTellsRow.holds Tryd.pinned (OpenSpec.ofChange superTellsSpec)

/-- ITS FALSE NEIGHBOUR: 'it returns false'. Refute it at one input. -/
def superTellsWrong : ChangeSpec := { name := "superTells", fn := fun _ => fun
  | [d1, d2, d3] => { results := [.lit (.bool false)], args := [d1, d2, d3] }
  | _ => none }
def SuperTellsWrongFalsely : Prop := superTellsRow.holds Tryd.pinned (OpenSpec.ofChange superTellsWrong)

/-- 'stavelaw9.SuperBytes': WHATEVER THE INPUT: true; the input reads as it did. -/
def superBytesSpec : ChangeSpec := { name := "superBytes", fn := fun _ => fun
  | [d1, d2, d3, d4, d5, d6] => { results := [.lit (.bool true)], args := [d1, d2, d3, d4, d5, d6] }
  | _ => none }
def superBytesRow : OpenClaim := { program := "ytkmgdglmlmodmaadoor", sum := "8754294ce9cdcaf5377f30fcf144aa4a02e05ba6117930125d4afd6303860449", func := "stave/stavelaw9.SuperBytes", spec := "superBytes", inPlace := ["internal/reflectlite.ValueOf", "(internal/reflectlite.Value).Type", "(internal/reflectlite.Value).IsNil", "internal/reflectlite.TypeOf", "(internal/reflectlite.Value).Elem", "(internal/reflectlite.Value).Set"], unfollowed := true, recurses := true, named := ["errors.errorType"], apart := false, laid := [("errors.errorType", laid_errors_errorType)] }
def SuperBytesSaid : Prop := superBytesRow.holds Tryd.pinned (OpenSpec.ofChange superBytesSpec)

/-- ITS FALSE NEIGHBOUR: 'it returns false'. Refute it at one input. -/
def superBytesWrong : ChangeSpec := { name := "superBytes", fn := fun _ => fun
  | [d1, d2, d3, d4, d5, d6] => { results := [.lit (.bool false)], args := [d1, d2, d3, d4, d5, d6] }
  | _ => none }
def SuperBytesWrongFalsely : Prop := superBytesRow.holds Tryd.pinned (OpenSpec.ofChange superBytesWrong)

/-- 'stavelaw8.RackErrors': WHATEVER THE INPUT: true; the input reads as it did. -/
def rackErrorsSpec : ChangeSpec := { name := "rackErrors", fn := fun _ => fun
  | [d1, d2, d3] => { results := [.lit (.bool true)], args := [d1, d2, d3] }
  | _ => none }
def rackErrorsRow : OpenClaim := { program := "ytkmgdglmlmodmaadoor", sum := "8754294ce9cdcaf5377f30fcf144aa4a02e05ba6117930125d4afd6303860449", func := "stave/stavelaw8.RackErrors", spec := "rackErrors", inPlace := ["internal/reflectlite.ValueOf", "(internal/reflectlite.Value).Type", "(internal/reflectlite.Value).IsNil", "internal/reflectlite.TypeOf", "(internal/reflectlite.Value).Elem", "(internal/reflectlite.Value).Set"], unfollowed := true, recurses := true, named := ["errors.errorType"], apart := false, laid := [("errors.errorType", laid_errors_errorType)] }
def RackErrorsSaid : Prop := rackErrorsRow.holds Tryd.pinned (OpenSpec.ofChange rackErrorsSpec)

/-- ITS FALSE NEIGHBOUR: 'it returns false'. Refute it at one input. -/
def rackErrorsWrong : ChangeSpec := { name := "rackErrors", fn := fun _ => fun
  | [d1, d2, d3] => { results := [.lit (.bool false)], args := [d1, d2, d3] }
  | _ => none }
def RackErrorsWrongFalsely : Prop := rackErrorsRow.holds Tryd.pinned (OpenSpec.ofChange rackErrorsWrong)

/-- 'stavelaw9.SuperFew': WHATEVER THE INPUT: true; the input reads as it did. -/
def superFewSpec : ChangeSpec := { name := "superFew", fn := fun _ => fun
  | [d1, d2, d3, d4, d5, d6] => { results := [.lit (.bool true)], args := [d1, d2, d3, d4, d5, d6] }
  | _ => none }
def superFewRow : OpenClaim := { program := "ytkmgdglmlmodmaadoor", sum := "8754294ce9cdcaf5377f30fcf144aa4a02e05ba6117930125d4afd6303860449", func := "stave/stavelaw9.SuperFew", spec := "superFew", inPlace := ["internal/reflectlite.ValueOf", "(internal/reflectlite.Value).Type", "(internal/reflectlite.Value).IsNil", "internal/reflectlite.TypeOf", "(internal/reflectlite.Value).Elem", "(internal/reflectlite.Value).Set"], unfollowed := true, recurses := true, named := ["errors.errorType"], apart := false, laid := [("errors.errorType", laid_errors_errorType)] }
def SuperFewSaid : Prop := superFewRow.holds Tryd.pinned (OpenSpec.ofChange superFewSpec)

/-- ITS FALSE NEIGHBOUR: 'it returns false'. Refute it at one input. -/
def superFewWrong : ChangeSpec := { name := "superFew", fn := fun _ => fun
  | [d1, d2, d3, d4, d5, d6] => { results := [.lit (.bool false)], args := [d1, d2, d3, d4, d5, d6] }
  | _ => none }
def SuperFewWrongFalsely : Prop := superFewRow.holds Tryd.pinned (OpenSpec.ofChange superFewWrong)

/-- 'stavelaw10.JournalRuns': WHATEVER THE INPUT: true; the input reads as it did. -/
def journalRunsSpec : ChangeSpec := { name := "journalRuns", fn := fun _ => fun
  | [] => { results := [.lit (.bool true)], args := [] }
  | _ => none }
def journalRunsRow : OpenClaim := { program := "ytkmgdglmlmodmaadoor", sum := "8754294ce9cdcaf5377f30fcf144aa4a02e05ba6117930125d4afd6303860449", func := "stave/stavelaw10.JournalRuns", spec := "journalRuns", inPlace := ["internal/reflectlite.ValueOf", "(internal/reflectlite.Value).Type", "(internal/reflectlite.Value).IsNil", "internal/reflectlite.TypeOf", "(internal/reflectlite.Value).Elem", "(internal/reflectlite.Value).Set"], unfollowed := true, recurses := true, named := ["errors.errorType"], apart := false, laid := [("errors.errorType", laid_errors_errorType)] }
def JournalRunsSaid : Prop := journalRunsRow.holds Tryd.pinned (OpenSpec.ofChange journalRunsSpec)

/-- ITS FALSE NEIGHBOUR: 'it returns false'. Refute it at one input. -/
def journalRunsWrong : ChangeSpec := { name := "journalRuns", fn := fun _ => fun
  | [] => { results := [.lit (.bool false)], args := [] }
  | _ => none }
def JournalRunsWrongFalsely : Prop := journalRunsRow.holds Tryd.pinned (OpenSpec.ofChange journalRunsWrong)

/-- 'stavelaw10.JournalRing': WHATEVER THE INPUT: true; the input reads as it did. -/
def journalRingSpec : ChangeSpec := { name := "journalRing", fn := fun _ => fun
  | [d1, d2, d3, d4] => { results := [.lit (.bool true)], args := [d1, d2, d3, d4] }
  | _ => none }
def journalRingRow : OpenClaim := { program := "ytkmgdglmlmodmaadoor", sum := "8754294ce9cdcaf5377f30fcf144aa4a02e05ba6117930125d4afd6303860449", func := "stave/stavelaw10.JournalRing", spec := "journalRing", inPlace := ["internal/reflectlite.ValueOf", "(internal/reflectlite.Value).Type", "(internal/reflectlite.Value).IsNil", "internal/reflectlite.TypeOf", "(internal/reflectlite.Value).Elem", "(internal/reflectlite.Value).Set"], unfollowed := true, recurses := true, named := ["errors.errorType"], apart := false, laid := [("errors.errorType", laid_errors_errorType)] }
def JournalRingSaid : Prop := journalRingRow.holds Tryd.pinned (OpenSpec.ofChange journalRingSpec)

/-- ITS FALSE NEIGHBOUR: 'it returns false'. Refute it at one input. -/
def journalRingWrong : ChangeSpec := { name := "journalRing", fn := fun _ => fun
  | [d1, d2, d3, d4] => { results := [.lit (.bool false)], args := [d1, d2, d3, d4] }
  | _ => none }
def JournalRingWrongFalsely : Prop := journalRingRow.holds Tryd.pinned (OpenSpec.ofChange journalRingWrong)

/-- 'stavelaw10.JournalLost': WHATEVER THE INPUT: true; the input reads as it did. -/
def journalLostSpec : ChangeSpec := { name := "journalLost", fn := fun _ => fun
  | [d1, d2, d3, d4] => { results := [.lit (.bool true)], args := [d1, d2, d3, d4] }
  | _ => none }
def journalLostRow : OpenClaim := { program := "ytkmgdglmlmodmaadoor", sum := "8754294ce9cdcaf5377f30fcf144aa4a02e05ba6117930125d4afd6303860449", func := "stave/stavelaw10.JournalLost", spec := "journalLost", inPlace := ["internal/reflectlite.ValueOf", "(internal/reflectlite.Value).Type", "(internal/reflectlite.Value).IsNil", "internal/reflectlite.TypeOf", "(internal/reflectlite.Value).Elem", "(internal/reflectlite.Value).Set"], unfollowed := true, recurses := true, named := ["errors.errorType"], apart := false, laid := [("errors.errorType", laid_errors_errorType)] }
def JournalLostSaid : Prop := journalLostRow.holds Tryd.pinned (OpenSpec.ofChange journalLostSpec)

/-- ITS FALSE NEIGHBOUR: 'it returns false'. Refute it at one input. -/
def journalLostWrong : ChangeSpec := { name := "journalLost", fn := fun _ => fun
  | [d1, d2, d3, d4] => { results := [.lit (.bool false)], args := [d1, d2, d3, d4] }
  | _ => none }
def JournalLostWrongFalsely : Prop := journalLostRow.holds Tryd.pinned (OpenSpec.ofChange journalLostWrong)

/-- 'stavelaw9.SuperOther': WHATEVER THE INPUT: true; the input reads as it did. -/
def superOtherSpec : ChangeSpec := { name := "superOther", fn := fun _ => fun
  | [d1, d2, d3] => { results := [.lit (.bool true)], args := [d1, d2, d3] }
  | _ => none }
def superOtherRow : OpenClaim := { program := "ytkmgdglmlmodmaadoor", sum := "8754294ce9cdcaf5377f30fcf144aa4a02e05ba6117930125d4afd6303860449", func := "stave/stavelaw9.SuperOther", spec := "superOther", inPlace := ["internal/reflectlite.ValueOf", "(internal/reflectlite.Value).Type", "(internal/reflectlite.Value).IsNil", "internal/reflectlite.TypeOf", "(internal/reflectlite.Value).Elem", "(internal/reflectlite.Value).Set"], unfollowed := true, recurses := true, named := ["errors.errorType"], apart := false, laid := [("errors.errorType", laid_errors_errorType)] }
def SuperOtherSaid : Prop := superOtherRow.holds Tryd.pinned (OpenSpec.ofChange superOtherSpec)

/-- ITS FALSE NEIGHBOUR: 'it returns false'. Refute it at one input. -/
def superOtherWrong : ChangeSpec := { name := "superOther", fn := fun _ => fun
  | [d1, d2, d3] => { results := [.lit (.bool false)], args := [d1, d2, d3] }
  | _ => none }
def SuperOtherWrongFalsely : Prop := superOtherRow.holds Tryd.pinned (OpenSpec.ofChange superOtherWrong)

/-- 'stavelaw10.JournalOne': WHATEVER THE INPUT: true; the input reads as it did. -/
def journalOneSpec : ChangeSpec := { name := "journalOne", fn := fun _ => fun
  | [d1, d2, d3, d4, d5] => { results := [.lit (.bool true)], args := [d1, d2, d3, d4, d5] }
  | _ => none }
def journalOneRow : OpenClaim := { program := "ytkmgdglmlmodmaadoor", sum := "8754294ce9cdcaf5377f30fcf144aa4a02e05ba6117930125d4afd6303860449", func := "stave/stavelaw10.JournalOne", spec := "journalOne", inPlace := ["internal/reflectlite.ValueOf", "(internal/reflectlite.Value).Type", "(internal/reflectlite.Value).IsNil", "internal/reflectlite.TypeOf", "(internal/reflectlite.Value).Elem", "(internal/reflectlite.Value).Set"], unfollowed := true, recurses := true, named := ["errors.errorType"], apart := false, laid := [("errors.errorType", laid_errors_errorType)] }
def JournalOneSaid : Prop := journalOneRow.holds Tryd.pinned (OpenSpec.ofChange journalOneSpec)

/-- ITS FALSE NEIGHBOUR: 'it returns false'. Refute it at one input. -/
def journalOneWrong : ChangeSpec := { name := "journalOne", fn := fun _ => fun
  | [d1, d2, d3, d4, d5] => { results := [.lit (.bool false)], args := [d1, d2, d3, d4, d5] }
  | _ => none }
def JournalOneWrongFalsely : Prop := journalOneRow.holds Tryd.pinned (OpenSpec.ofChange journalOneWrong)

/-- 'stavelaw10.JournalCut': WHATEVER THE INPUT: true; the input reads as it did. -/
def journalCutSpec : ChangeSpec := { name := "journalCut", fn := fun _ => fun
  | [d1, d2, d3, d4, d5, d6] => { results := [.lit (.bool true)], args := [d1, d2, d3, d4, d5, d6] }
  | _ => none }
def journalCutRow : OpenClaim := { program := "ytkmgdglmlmodmaadoor", sum := "8754294ce9cdcaf5377f30fcf144aa4a02e05ba6117930125d4afd6303860449", func := "stave/stavelaw10.JournalCut", spec := "journalCut", inPlace := ["internal/reflectlite.ValueOf", "(internal/reflectlite.Value).Type", "(internal/reflectlite.Value).IsNil", "internal/reflectlite.TypeOf", "(internal/reflectlite.Value).Elem", "(internal/reflectlite.Value).Set"], unfollowed := true, recurses := true, named := ["errors.errorType"], apart := false, laid := [("errors.errorType", laid_errors_errorType)] }
def JournalCutSaid : Prop := journalCutRow.holds Tryd.pinned (OpenSpec.ofChange journalCutSpec)

/-- ITS FALSE NEIGHBOUR: 'it returns false'. Refute it at one input. -/
def journalCutWrong : ChangeSpec := { name := "journalCut", fn := fun _ => fun
  | [d1, d2, d3, d4, d5, d6] => { results := [.lit (.bool false)], args := [d1, d2, d3, d4, d5, d6] }
  | _ => none }
def JournalCutWrongFalsely : Prop := journalCutRow.holds Tryd.pinned (OpenSpec.ofChange journalCutWrong)

/-- 'stavelaw10.JournalUnion': WHATEVER THE INPUT: true; the input reads as it did. -/
def journalUnionSpec : ChangeSpec := { name := "journalUnion", fn := fun _ => fun
  | [d1, d2, d3, d4] => { results := [.lit (.bool true)], args := [d1, d2, d3, d4] }
  | _ => none }
def journalUnionRow : OpenClaim := { program := "ytkmgdglmlmodmaadoor", sum := "8754294ce9cdcaf5377f30fcf144aa4a02e05ba6117930125d4afd6303860449", func := "stave/stavelaw10.JournalUnion", spec := "journalUnion", inPlace := ["internal/reflectlite.ValueOf", "(internal/reflectlite.Value).Type", "(internal/reflectlite.Value).IsNil", "internal/reflectlite.TypeOf", "(internal/reflectlite.Value).Elem", "(internal/reflectlite.Value).Set"], unfollowed := true, recurses := true, named := ["errors.errorType"], apart := false, laid := [("errors.errorType", laid_errors_errorType)] }
def JournalUnionSaid : Prop := journalUnionRow.holds Tryd.pinned (OpenSpec.ofChange journalUnionSpec)

/-- ITS FALSE NEIGHBOUR: 'it returns false'. Refute it at one input. -/
def journalUnionWrong : ChangeSpec := { name := "journalUnion", fn := fun _ => fun
  | [d1, d2, d3, d4] => { results := [.lit (.bool false)], args := [d1, d2, d3, d4] }
  | _ => none }
def JournalUnionWrongFalsely : Prop := journalUnionRow.holds Tryd.pinned (OpenSpec.ofChange journalUnionWrong)

/- THE SECOND FORM. 'bulk': how many values and letters a reading holds, each counted each time it is reached (what is shared counts as often as it is met; a slice's spare places count too). A statement '..UptoSaid' is the law's where the arguments, and the package variables that the reading takes, are together of bulk at most 1048576: NARROWER than '..Said'. Prove '..Said' where nothing that the law and all that it calls make is longer than what came in: it says more and counts as full. Else prove '..UptoSaid'. A law counts once. -/
mutual
def uptoBulk {H : Type} : DataW H → Nat
  | .lit (.string bytes) => bytes.length + 1
  | .lit _ => 1
  | .nil => 1
  | .ptr d => uptoBulk d + 1
  | .slice elems spare => uptoBulkAll elems + uptoBulkAll spare + 1
  | .agg parts => uptoBulkAll parts + 1
  | .iface _ d => uptoBulk d + 1
  | .map entries => uptoBulkEntries entries + 1
  | .held _ => 1
def uptoBulkAll {H : Type} : List (DataW H) → Nat
  | [] => 0
  | d :: r => uptoBulk d + uptoBulkAll r
def uptoBulkEntries {H : Type} : List (Lit × DataW H) → Nat
  | [] => 0
  | x :: r => uptoBulkEntry x + uptoBulkEntries r
def uptoBulkEntry {H : Type} : Lit × DataW H → Nat
  | (.string bytes, d) => bytes.length + uptoBulk d + 1
  | (_, d) => uptoBulk d + 1
 end
def uptoSmall : (H : Type) → List (DataW H) → Bool := fun _ ds => decide (uptoBulkAll ds ≤ 1048576)
def OpenSpec.upto (s : _root_.Go.ChangeSpec) : _root_.Go.OpenSpec := { _root_.Go.OpenSpec.ofChange s with cond := some uptoSmall }

/-- 'stavelaw8.RackRuns', WHERE WHAT IT READS IS OF BULK AT MOST 1048576: true; the input reads as it did. -/
def rackRunsUptoRow : OpenClaim := { program := "ytkmgdglmlmodmaadoor", sum := "8754294ce9cdcaf5377f30fcf144aa4a02e05ba6117930125d4afd6303860449", func := "stave/stavelaw8.RackRuns", spec := "rackRuns", inPlace := ["internal/reflectlite.ValueOf", "(internal/reflectlite.Value).Type", "(internal/reflectlite.Value).IsNil", "internal/reflectlite.TypeOf", "(internal/reflectlite.Value).Elem", "(internal/reflectlite.Value).Set"], unfollowed := true, recurses := true, named := ["errors.errorType"], apart := false, laid := [("errors.errorType", laid_errors_errorType)], narrowed := true }
def RackRunsUptoSaid : Prop := rackRunsUptoRow.holds Tryd.pinned (OpenSpec.upto rackRunsSpec)

/-- 'stavelaw8.RackBoots', WHERE WHAT IT READS IS OF BULK AT MOST 1048576: true; the input reads as it did. -/
def rackBootsUptoRow : OpenClaim := { program := "ytkmgdglmlmodmaadoor", sum := "8754294ce9cdcaf5377f30fcf144aa4a02e05ba6117930125d4afd6303860449", func := "stave/stavelaw8.RackBoots", spec := "rackBoots", inPlace := ["internal/reflectlite.ValueOf", "(internal/reflectlite.Value).Type", "(internal/reflectlite.Value).IsNil", "internal/reflectlite.TypeOf", "(internal/reflectlite.Value).Elem", "(internal/reflectlite.Value).Set"], unfollowed := true, recurses := true, named := ["errors.errorType"], apart := false, laid := [("errors.errorType", laid_errors_errorType)], narrowed := true }
def RackBootsUptoSaid : Prop := rackBootsUptoRow.holds Tryd.pinned (OpenSpec.upto rackBootsSpec)

/-- 'stavelaw8.RackPlaces', WHERE WHAT IT READS IS OF BULK AT MOST 1048576: true; the input reads as it did. -/
def rackPlacesUptoRow : OpenClaim := { program := "ytkmgdglmlmodmaadoor", sum := "8754294ce9cdcaf5377f30fcf144aa4a02e05ba6117930125d4afd6303860449", func := "stave/stavelaw8.RackPlaces", spec := "rackPlaces", inPlace := ["internal/reflectlite.ValueOf", "(internal/reflectlite.Value).Type", "(internal/reflectlite.Value).IsNil", "internal/reflectlite.TypeOf", "(internal/reflectlite.Value).Elem", "(internal/reflectlite.Value).Set"], unfollowed := true, recurses := true, named := ["errors.errorType"], apart := false, laid := [("errors.errorType", laid_errors_errorType)], narrowed := true }
def RackPlacesUptoSaid : Prop := rackPlacesUptoRow.holds Tryd.pinned (OpenSpec.upto rackPlacesSpec)

/-- 'stavelaw8.RackFuse', WHERE WHAT IT READS IS OF BULK AT MOST 1048576: true; the input reads as it did. -/
def rackFuseUptoRow : OpenClaim := { program := "ytkmgdglmlmodmaadoor", sum := "8754294ce9cdcaf5377f30fcf144aa4a02e05ba6117930125d4afd6303860449", func := "stave/stavelaw8.RackFuse", spec := "rackFuse", inPlace := ["internal/reflectlite.ValueOf", "(internal/reflectlite.Value).Type", "(internal/reflectlite.Value).IsNil", "internal/reflectlite.TypeOf", "(internal/reflectlite.Value).Elem", "(internal/reflectlite.Value).Set"], unfollowed := true, recurses := true, named := ["errors.errorType"], apart := false, laid := [("errors.errorType", laid_errors_errorType)], narrowed := true }
def RackFuseUptoSaid : Prop := rackFuseUptoRow.holds Tryd.pinned (OpenSpec.upto rackFuseSpec)

/-- 'stavelaw8.RackApart', WHERE WHAT IT READS IS OF BULK AT MOST 1048576: true; the input reads as it did. -/
def rackApartUptoRow : OpenClaim := { program := "ytkmgdglmlmodmaadoor", sum := "8754294ce9cdcaf5377f30fcf144aa4a02e05ba6117930125d4afd6303860449", func := "stave/stavelaw8.RackApart", spec := "rackApart", inPlace := ["internal/reflectlite.ValueOf", "(internal/reflectlite.Value).Type", "(internal/reflectlite.Value).IsNil", "internal/reflectlite.TypeOf", "(internal/reflectlite.Value).Elem", "(internal/reflectlite.Value).Set"], unfollowed := true, recurses := true, named := ["errors.errorType"], apart := false, laid := [("errors.errorType", laid_errors_errorType)], narrowed := true }
def RackApartUptoSaid : Prop := rackApartUptoRow.holds Tryd.pinned (OpenSpec.upto rackApartSpec)

/-- 'stavelaw9.SuperRuns', WHERE WHAT IT READS IS OF BULK AT MOST 1048576: true; the input reads as it did. -/
def superRunsUptoRow : OpenClaim := { program := "ytkmgdglmlmodmaadoor", sum := "8754294ce9cdcaf5377f30fcf144aa4a02e05ba6117930125d4afd6303860449", func := "stave/stavelaw9.SuperRuns", spec := "superRuns", inPlace := ["internal/reflectlite.ValueOf", "(internal/reflectlite.Value).Type", "(internal/reflectlite.Value).IsNil", "internal/reflectlite.TypeOf", "(internal/reflectlite.Value).Elem", "(internal/reflectlite.Value).Set"], unfollowed := true, recurses := true, named := ["errors.errorType"], apart := false, laid := [("errors.errorType", laid_errors_errorType)], narrowed := true }
def SuperRunsUptoSaid : Prop := superRunsUptoRow.holds Tryd.pinned (OpenSpec.upto superRunsSpec)

/-- 'stavelaw9.SuperTells', WHERE WHAT IT READS IS OF BULK AT MOST 1048576: true; the input reads as it did. -/
def superTellsUptoRow : OpenClaim := { program := "ytkmgdglmlmodmaadoor", sum := "8754294ce9cdcaf5377f30fcf144aa4a02e05ba6117930125d4afd6303860449", func := "stave/stavelaw9.SuperTells", spec := "superTells", inPlace := ["internal/reflectlite.ValueOf", "(internal/reflectlite.Value).Type", "(internal/reflectlite.Value).IsNil", "internal/reflectlite.TypeOf", "(internal/reflectlite.Value).Elem", "(internal/reflectlite.Value).Set"], unfollowed := true, recurses := true, named := ["errors.errorType"], apart := false, laid := [("errors.errorType", laid_errors_errorType)], narrowed := true }
def SuperTellsUptoSaid : Prop := superTellsUptoRow.holds Tryd.pinned (OpenSpec.upto superTellsSpec)

/-- 'stavelaw9.SuperBytes', WHERE WHAT IT READS IS OF BULK AT MOST 1048576: true; the input reads as it did. -/
def superBytesUptoRow : OpenClaim := { program := "ytkmgdglmlmodmaadoor", sum := "8754294ce9cdcaf5377f30fcf144aa4a02e05ba6117930125d4afd6303860449", func := "stave/stavelaw9.SuperBytes", spec := "superBytes", inPlace := ["internal/reflectlite.ValueOf", "(internal/reflectlite.Value).Type", "(internal/reflectlite.Value).IsNil", "internal/reflectlite.TypeOf", "(internal/reflectlite.Value).Elem", "(internal/reflectlite.Value).Set"], unfollowed := true, recurses := true, named := ["errors.errorType"], apart := false, laid := [("errors.errorType", laid_errors_errorType)], narrowed := true }
def SuperBytesUptoSaid : Prop := superBytesUptoRow.holds Tryd.pinned (OpenSpec.upto superBytesSpec)

/-- 'stavelaw8.RackErrors', WHERE WHAT IT READS IS OF BULK AT MOST 1048576: true; the input reads as it did. -/
def rackErrorsUptoRow : OpenClaim := { program := "ytkmgdglmlmodmaadoor", sum := "8754294ce9cdcaf5377f30fcf144aa4a02e05ba6117930125d4afd6303860449", func := "stave/stavelaw8.RackErrors", spec := "rackErrors", inPlace := ["internal/reflectlite.ValueOf", "(internal/reflectlite.Value).Type", "(internal/reflectlite.Value).IsNil", "internal/reflectlite.TypeOf", "(internal/reflectlite.Value).Elem", "(internal/reflectlite.Value).Set"], unfollowed := true, recurses := true, named := ["errors.errorType"], apart := false, laid := [("errors.errorType", laid_errors_errorType)], narrowed := true }
def RackErrorsUptoSaid : Prop := rackErrorsUptoRow.holds Tryd.pinned (OpenSpec.upto rackErrorsSpec)

/-- 'stavelaw9.SuperFew', WHERE WHAT IT READS IS OF BULK AT MOST 1048576: true; the input reads as it did. -/
def superFewUptoRow : OpenClaim := { program := "ytkmgdglmlmodmaadoor", sum := "8754294ce9cdcaf5377f30fcf144aa4a02e05ba6117930125d4afd6303860449", func := "stave/stavelaw9.SuperFew", spec := "superFew", inPlace := ["internal/reflectlite.ValueOf", "(internal/reflectlite.Value).Type", "(internal/reflectlite.Value).IsNil", "internal/reflectlite.TypeOf", "(internal/reflectlite.Value).Elem", "(internal/reflectlite.Value).Set"], unfollowed := true, recurses := true, named := ["errors.errorType"], apart := false, laid := [("errors.errorType", laid_errors_errorType)], narrowed := true }
def SuperFewUptoSaid : Prop := superFewUptoRow.holds Tryd.pinned (OpenSpec.upto superFewSpec)

/-- 'stavelaw10.JournalRuns', WHERE WHAT IT READS IS OF BULK AT MOST 1048576: true; the input reads as it did. -/
def journalRunsUptoRow : OpenClaim := { program := "ytkmgdglmlmodmaadoor", sum := "8754294ce9cdcaf5377f30fcf144aa4a02e05ba6117930125d4afd6303860449", func := "stave/stavelaw10.JournalRuns", spec := "journalRuns", inPlace := ["internal/reflectlite.ValueOf", "(internal/reflectlite.Value).Type", "(internal/reflectlite.Value).IsNil", "internal/reflectlite.TypeOf", "(internal/reflectlite.Value).Elem", "(internal/reflectlite.Value).Set"], unfollowed := true, recurses := true, named := ["errors.errorType"], apart := false, laid := [("errors.errorType", laid_errors_errorType)], narrowed := true }
def JournalRunsUptoSaid : Prop := journalRunsUptoRow.holds Tryd.pinned (OpenSpec.upto journalRunsSpec)

/-- 'stavelaw10.JournalRing', WHERE WHAT IT READS IS OF BULK AT MOST 1048576: true; the input reads as it did. -/
def journalRingUptoRow : OpenClaim := { program := "ytkmgdglmlmodmaadoor", sum := "8754294ce9cdcaf5377f30fcf144aa4a02e05ba6117930125d4afd6303860449", func := "stave/stavelaw10.JournalRing", spec := "journalRing", inPlace := ["internal/reflectlite.ValueOf", "(internal/reflectlite.Value).Type", "(internal/reflectlite.Value).IsNil", "internal/reflectlite.TypeOf", "(internal/reflectlite.Value).Elem", "(internal/reflectlite.Value).Set"], unfollowed := true, recurses := true, named := ["errors.errorType"], apart := false, laid := [("errors.errorType", laid_errors_errorType)], narrowed := true }
def JournalRingUptoSaid : Prop := journalRingUptoRow.holds Tryd.pinned (OpenSpec.upto journalRingSpec)

/-- 'stavelaw10.JournalLost', WHERE WHAT IT READS IS OF BULK AT MOST 1048576: true; the input reads as it did. -/
def journalLostUptoRow : OpenClaim := { program := "ytkmgdglmlmodmaadoor", sum := "8754294ce9cdcaf5377f30fcf144aa4a02e05ba6117930125d4afd6303860449", func := "stave/stavelaw10.JournalLost", spec := "journalLost", inPlace := ["internal/reflectlite.ValueOf", "(internal/reflectlite.Value).Type", "(internal/reflectlite.Value).IsNil", "internal/reflectlite.TypeOf", "(internal/reflectlite.Value).Elem", "(internal/reflectlite.Value).Set"], unfollowed := true, recurses := true, named := ["errors.errorType"], apart := false, laid := [("errors.errorType", laid_errors_errorType)], narrowed := true }
def JournalLostUptoSaid : Prop := journalLostUptoRow.holds Tryd.pinned (OpenSpec.upto journalLostSpec)

/-- 'stavelaw9.SuperOther', WHERE WHAT IT READS IS OF BULK AT MOST 1048576: true; the input reads as it did. -/
def superOtherUptoRow : OpenClaim := { program := "ytkmgdglmlmodmaadoor", sum := "8754294ce9cdcaf5377f30fcf144aa4a02e05ba6117930125d4afd6303860449", func := "stave/stavelaw9.SuperOther", spec := "superOther", inPlace := ["internal/reflectlite.ValueOf", "(internal/reflectlite.Value).Type", "(internal/reflectlite.Value).IsNil", "internal/reflectlite.TypeOf", "(internal/reflectlite.Value).Elem", "(internal/reflectlite.Value).Set"], unfollowed := true, recurses := true, named := ["errors.errorType"], apart := false, laid := [("errors.errorType", laid_errors_errorType)], narrowed := true }
def SuperOtherUptoSaid : Prop := superOtherUptoRow.holds Tryd.pinned (OpenSpec.upto superOtherSpec)

/-- 'stavelaw10.JournalOne', WHERE WHAT IT READS IS OF BULK AT MOST 1048576: true; the input reads as it did. -/
def journalOneUptoRow : OpenClaim := { program := "ytkmgdglmlmodmaadoor", sum := "8754294ce9cdcaf5377f30fcf144aa4a02e05ba6117930125d4afd6303860449", func := "stave/stavelaw10.JournalOne", spec := "journalOne", inPlace := ["internal/reflectlite.ValueOf", "(internal/reflectlite.Value).Type", "(internal/reflectlite.Value).IsNil", "internal/reflectlite.TypeOf", "(internal/reflectlite.Value).Elem", "(internal/reflectlite.Value).Set"], unfollowed := true, recurses := true, named := ["errors.errorType"], apart := false, laid := [("errors.errorType", laid_errors_errorType)], narrowed := true }
def JournalOneUptoSaid : Prop := journalOneUptoRow.holds Tryd.pinned (OpenSpec.upto journalOneSpec)

/-- 'stavelaw10.JournalCut', WHERE WHAT IT READS IS OF BULK AT MOST 1048576: true; the input reads as it did. -/
def journalCutUptoRow : OpenClaim := { program := "ytkmgdglmlmodmaadoor", sum := "8754294ce9cdcaf5377f30fcf144aa4a02e05ba6117930125d4afd6303860449", func := "stave/stavelaw10.JournalCut", spec := "journalCut", inPlace := ["internal/reflectlite.ValueOf", "(internal/reflectlite.Value).Type", "(internal/reflectlite.Value).IsNil", "internal/reflectlite.TypeOf", "(internal/reflectlite.Value).Elem", "(internal/reflectlite.Value).Set"], unfollowed := true, recurses := true, named := ["errors.errorType"], apart := false, laid := [("errors.errorType", laid_errors_errorType)], narrowed := true }
def JournalCutUptoSaid : Prop := journalCutUptoRow.holds Tryd.pinned (OpenSpec.upto journalCutSpec)

/-- 'stavelaw10.JournalUnion', WHERE WHAT IT READS IS OF BULK AT MOST 1048576: true; the input reads as it did. -/
def journalUnionUptoRow : OpenClaim := { program := "ytkmgdglmlmodmaadoor", sum := "8754294ce9cdcaf5377f30fcf144aa4a02e05ba6117930125d4afd6303860449", func := "stave/stavelaw10.JournalUnion", spec := "journalUnion", inPlace := ["internal/reflectlite.ValueOf", "(internal/reflectlite.Value).Type", "(internal/reflectlite.Value).IsNil", "internal/reflectlite.TypeOf", "(internal/reflectlite.Value).Elem", "(internal/reflectlite.Value).Set"], unfollowed := true, recurses := true, named := ["errors.errorType"], apart := false, laid := [("errors.errorType", laid_errors_errorType)], narrowed := true }
def JournalUnionUptoSaid : Prop := journalUnionUptoRow.holds Tryd.pinned (OpenSpec.upto journalUnionSpec)

end Rows
end Go.Proofs.YtkmgdglmlmodmaaDoor
