/-
  NARROWER THAN 'FOR EVERY INPUT', by the rows' own cells (each row's printed sentence says how): RackBoots: laid · RackPlaces: laid · RackFuse: laid · RackApart: laid · SuperRuns: laid · SuperTells: laid · SuperBytes: laid · RackErrors: laid · SuperFew: laid · SuperOther: laid.
  DERIVED. THE GIVEN ROWS OF THIS SEAT. 10 by the template 'for every input the law returns true; each argument reads behind the call as it read before'; 0 by the template 'total and deterministic' (their statements: YtdbjojnejkklhaaDoorTotals.lean).
  GIVEN WITH THE SEED: the statements are not yours to turn. If you find one false, say at which input.
  Laid BY PROGRAM, IN A SANDBOX (cutbox-rows.mjs): the forced cells as the released guide's own fill.sh prints them over the translation 4abc7bdc7aca8115… (all of the seat's roots in one cut). By AI agents, Wed Nov 11 2026. No macro, syntax, notation, axiom, sorry.
-/
import Derived.Test.YtdbjojnejkklhaaDoorChecked
import GoSem.Claim
import GoSem.ClaimJoined
import GoSem.ClaimMapViews
import Derived.JoinedTies
import Derived.KernelRfl
namespace Go.Proofs.YtdbjojnejkklhaaDoor
/- THE CELL 'sum', in the pinned program and in every row, IS THE sha256 OF THE DUMP (.gsa) THAT YtdbjojnejkklhaaDoorProg.lean LOADS. Nothing in Lean hashes anything: it is a label: what it is worth is what the hold of that sum in a sandbox is worth. -/
noncomputable def Tryd.pinned : Pinned := { name := "ytdbjojnejkklhaadoor", sum := "4abc7bdc7aca8115001480cbb1f93fdf7199e7061042362087451450571f806f", checked := Tryd.checked }
namespace Rows
def none {H : Type} : Left H := { results := [], args := [] }

/- WHAT THE LISTED PACKAGE-LEVEL VARIABLES READ AS WHEN THE CALL BEGINS. Each datum BY PROGRAM (the guide's laid-datum.mjs) off the statement by which the dump's own 'gosem.cut.vars' lays the variable. In a bare row this is a premise. The card (YtdbjojnejkklhaaDoorCards.lean) ties it to the program's text. -/
def laid_errors_errorType {H : Type} : DataW H := .iface "internal/reflectlite.rtype" (.agg [.ptr (.lit (.string [101, 114, 114, 111, 114]))])

/-- 'stavelaw8.RackBoots': WHATEVER THE INPUT: true; the input reads as it did. -/
def rackBootsSpec : ChangeSpec := { name := "rackBoots", fn := fun _ => fun
  | [d1, d2, d3] => { results := [.lit (.bool true)], args := [d1, d2, d3] }
  | _ => none }
def rackBootsRow : OpenClaim := { program := "ytdbjojnejkklhaadoor", sum := "4abc7bdc7aca8115001480cbb1f93fdf7199e7061042362087451450571f806f", func := "stave/stavelaw8.RackBoots", spec := "rackBoots", inPlace := ["internal/reflectlite.ValueOf", "(internal/reflectlite.Value).Type", "(internal/reflectlite.Value).IsNil", "internal/reflectlite.TypeOf", "(internal/reflectlite.Value).Elem", "(internal/reflectlite.Value).Set"], unfollowed := true, recurses := true, named := ["errors.errorType"], apart := false, laid := [("errors.errorType", laid_errors_errorType)] }
def RackBootsSaid : Prop := rackBootsRow.holds Tryd.pinned (OpenSpec.ofChange rackBootsSpec)

/-- ITS FALSE NEIGHBOUR: 'it returns false'. Refute it at one input. -/
def rackBootsWrong : ChangeSpec := { name := "rackBoots", fn := fun _ => fun
  | [d1, d2, d3] => { results := [.lit (.bool false)], args := [d1, d2, d3] }
  | _ => none }
def RackBootsWrongFalsely : Prop := rackBootsRow.holds Tryd.pinned (OpenSpec.ofChange rackBootsWrong)

/-- 'stavelaw8.RackPlaces': WHATEVER THE INPUT: true; the input reads as it did. -/
def rackPlacesSpec : ChangeSpec := { name := "rackPlaces", fn := fun _ => fun
  | [d1, d2, d3, d4, d5, d6, d7] => { results := [.lit (.bool true)], args := [d1, d2, d3, d4, d5, d6, d7] }
  | _ => none }
def rackPlacesRow : OpenClaim := { program := "ytdbjojnejkklhaadoor", sum := "4abc7bdc7aca8115001480cbb1f93fdf7199e7061042362087451450571f806f", func := "stave/stavelaw8.RackPlaces", spec := "rackPlaces", inPlace := ["internal/reflectlite.ValueOf", "(internal/reflectlite.Value).Type", "(internal/reflectlite.Value).IsNil", "internal/reflectlite.TypeOf", "(internal/reflectlite.Value).Elem", "(internal/reflectlite.Value).Set"], unfollowed := true, recurses := true, named := ["errors.errorType"], apart := false, laid := [("errors.errorType", laid_errors_errorType)] }
def RackPlacesSaid : Prop := rackPlacesRow.holds Tryd.pinned (OpenSpec.ofChange rackPlacesSpec)

/-- ITS FALSE NEIGHBOUR: 'it returns false'. Refute it at one input. -/
def rackPlacesWrong : ChangeSpec := { name := "rackPlaces", fn := fun _ => fun
  | [d1, d2, d3, d4, d5, d6, d7] => { results := [.lit (.bool false)], args := [d1, d2, d3, d4, d5, d6, d7] }
  | _ => none }
def RackPlacesWrongFalsely : Prop := rackPlacesRow.holds Tryd.pinned (OpenSpec.ofChange rackPlacesWrong)

/-- 'stavelaw8.RackFuse': WHATEVER THE INPUT: true; the input reads as it did. -/
def rackFuseSpec : ChangeSpec := { name := "rackFuse", fn := fun _ => fun
  | [d1, d2] => { results := [.lit (.bool true)], args := [d1, d2] }
  | _ => none }
def rackFuseRow : OpenClaim := { program := "ytdbjojnejkklhaadoor", sum := "4abc7bdc7aca8115001480cbb1f93fdf7199e7061042362087451450571f806f", func := "stave/stavelaw8.RackFuse", spec := "rackFuse", inPlace := ["internal/reflectlite.ValueOf", "(internal/reflectlite.Value).Type", "(internal/reflectlite.Value).IsNil", "internal/reflectlite.TypeOf", "(internal/reflectlite.Value).Elem", "(internal/reflectlite.Value).Set"], unfollowed := true, recurses := true, named := ["errors.errorType"], apart := false, laid := [("errors.errorType", laid_errors_errorType)] }
def RackFuseSaid : Prop := rackFuseRow.holds Tryd.pinned (OpenSpec.ofChange rackFuseSpec)

/-- ITS FALSE NEIGHBOUR: 'it returns false'. Refute it at one input. -/
def rackFuseWrong : ChangeSpec := { name := "rackFuse", fn := fun _ => fun
  | [d1, d2] => { results := [.lit (.bool false)], args := [d1, d2] }
  | _ => none }
def RackFuseWrongFalsely : Prop := rackFuseRow.holds Tryd.pinned (OpenSpec.ofChange rackFuseWrong)

/-- 'stavelaw8.RackApart': WHATEVER THE INPUT: true; the input reads as it did. -/
def rackApartSpec : ChangeSpec := { name := "rackApart", fn := fun _ => fun
  | [d1, d2, d3, d4] => { results := [.lit (.bool true)], args := [d1, d2, d3, d4] }
  | _ => none }
def rackApartRow : OpenClaim := { program := "ytdbjojnejkklhaadoor", sum := "4abc7bdc7aca8115001480cbb1f93fdf7199e7061042362087451450571f806f", func := "stave/stavelaw8.RackApart", spec := "rackApart", inPlace := ["internal/reflectlite.ValueOf", "(internal/reflectlite.Value).Type", "(internal/reflectlite.Value).IsNil", "internal/reflectlite.TypeOf", "(internal/reflectlite.Value).Elem", "(internal/reflectlite.Value).Set"], unfollowed := true, recurses := true, named := ["errors.errorType"], apart := false, laid := [("errors.errorType", laid_errors_errorType)] }
def RackApartSaid : Prop := rackApartRow.holds Tryd.pinned (OpenSpec.ofChange rackApartSpec)

/-- ITS FALSE NEIGHBOUR: 'it returns false'. Refute it at one input. -/
def rackApartWrong : ChangeSpec := { name := "rackApart", fn := fun _ => fun
  | [d1, d2, d3, d4] => { results := [.lit (.bool false)], args := [d1, d2, d3, d4] }
  | _ => none }
def RackApartWrongFalsely : Prop := rackApartRow.holds Tryd.pinned (OpenSpec.ofChange rackApartWrong)

/-- 'stavelaw9.SuperRuns': WHATEVER THE INPUT: true; the input reads as it did. -/
def superRunsSpec : ChangeSpec := { name := "superRuns", fn := fun _ => fun
  | [] => { results := [.lit (.bool true)], args := [] }
  | _ => none }
def superRunsRow : OpenClaim := { program := "ytdbjojnejkklhaadoor", sum := "4abc7bdc7aca8115001480cbb1f93fdf7199e7061042362087451450571f806f", func := "stave/stavelaw9.SuperRuns", spec := "superRuns", inPlace := ["internal/reflectlite.ValueOf", "(internal/reflectlite.Value).Type", "(internal/reflectlite.Value).IsNil", "internal/reflectlite.TypeOf", "(internal/reflectlite.Value).Elem", "(internal/reflectlite.Value).Set"], unfollowed := true, recurses := true, named := ["errors.errorType"], apart := false, laid := [("errors.errorType", laid_errors_errorType)] }
def SuperRunsSaid : Prop := superRunsRow.holds Tryd.pinned (OpenSpec.ofChange superRunsSpec)

/-- ITS FALSE NEIGHBOUR: 'it returns false'. Refute it at one input. -/
def superRunsWrong : ChangeSpec := { name := "superRuns", fn := fun _ => fun
  | [] => { results := [.lit (.bool false)], args := [] }
  | _ => none }
def SuperRunsWrongFalsely : Prop := superRunsRow.holds Tryd.pinned (OpenSpec.ofChange superRunsWrong)

/-- 'stavelaw9.SuperTells': WHATEVER THE INPUT: true; the input reads as it did. -/
def superTellsSpec : ChangeSpec := { name := "superTells", fn := fun _ => fun
  | [d1, d2, d3] => { results := [.lit (.bool true)], args := [d1, d2, d3] }
  | _ => none }
def superTellsRow : OpenClaim := { program := "ytdbjojnejkklhaadoor", sum := "4abc7bdc7aca8115001480cbb1f93fdf7199e7061042362087451450571f806f", func := "stave/stavelaw9.SuperTells", spec := "superTells", inPlace := ["internal/reflectlite.ValueOf", "(internal/reflectlite.Value).Type", "(internal/reflectlite.Value).IsNil", "internal/reflectlite.TypeOf", "(internal/reflectlite.Value).Elem", "(internal/reflectlite.Value).Set"], unfollowed := true, recurses := true, named := ["errors.errorType"], apart := false, laid := [("errors.errorType", laid_errors_errorType)] }
def SuperTellsSaid : Prop := superTellsRow.holds Tryd.pinned (OpenSpec.ofChange superTellsSpec)

/-- ITS FALSE NEIGHBOUR: 'it returns false'. Refute it at one input. -/
def superTellsWrong : ChangeSpec := { name := "superTells", fn := fun _ => fun
  | [d1, d2, d3] => { results := [.lit (.bool false)], args := [d1, d2, d3] }
  | _ => none }
def SuperTellsWrongFalsely : Prop := superTellsRow.holds Tryd.pinned (OpenSpec.ofChange superTellsWrong)

/-- 'stavelaw9.SuperBytes': WHATEVER THE INPUT: true; the input reads as it did. -/
def superBytesSpec : ChangeSpec := { name := "superBytes", fn := fun _ => fun
  | [d1, d2, d3, d4, d5, d6] => { results := [.lit (.bool true)], args := [d1, d2, d3, d4, d5, d6] }
  | _ => none }
def superBytesRow : OpenClaim := { program := "ytdbjojnejkklhaadoor", sum := "4abc7bdc7aca8115001480cbb1f93fdf7199e7061042362087451450571f806f", func := "stave/stavelaw9.SuperBytes", spec := "superBytes", inPlace := ["internal/reflectlite.ValueOf", "(internal/reflectlite.Value).Type", "(internal/reflectlite.Value).IsNil", "internal/reflectlite.TypeOf", "(internal/reflectlite.Value).Elem", "(internal/reflectlite.Value).Set"], unfollowed := true, recurses := true, named := ["errors.errorType"], apart := false, laid := [("errors.errorType", laid_errors_errorType)] }
def SuperBytesSaid : Prop := superBytesRow.holds Tryd.pinned (OpenSpec.ofChange superBytesSpec)

/-- ITS FALSE NEIGHBOUR: 'it returns false'. Refute it at one input. -/
def superBytesWrong : ChangeSpec := { name := "superBytes", fn := fun _ => fun
  | [d1, d2, d3, d4, d5, d6] => { results := [.lit (.bool false)], args := [d1, d2, d3, d4, d5, d6] }
  | _ => none }
def SuperBytesWrongFalsely : Prop := superBytesRow.holds Tryd.pinned (OpenSpec.ofChange superBytesWrong)

/-- 'stavelaw8.RackErrors': WHATEVER THE INPUT: true; the input reads as it did. -/
def rackErrorsSpec : ChangeSpec := { name := "rackErrors", fn := fun _ => fun
  | [d1, d2, d3] => { results := [.lit (.bool true)], args := [d1, d2, d3] }
  | _ => none }
def rackErrorsRow : OpenClaim := { program := "ytdbjojnejkklhaadoor", sum := "4abc7bdc7aca8115001480cbb1f93fdf7199e7061042362087451450571f806f", func := "stave/stavelaw8.RackErrors", spec := "rackErrors", inPlace := ["internal/reflectlite.ValueOf", "(internal/reflectlite.Value).Type", "(internal/reflectlite.Value).IsNil", "internal/reflectlite.TypeOf", "(internal/reflectlite.Value).Elem", "(internal/reflectlite.Value).Set"], unfollowed := true, recurses := true, named := ["errors.errorType"], apart := false, laid := [("errors.errorType", laid_errors_errorType)] }
def RackErrorsSaid : Prop := rackErrorsRow.holds Tryd.pinned (OpenSpec.ofChange rackErrorsSpec)

/-- ITS FALSE NEIGHBOUR: 'it returns false'. Refute it at one input. -/
def rackErrorsWrong : ChangeSpec := { name := "rackErrors", fn := fun _ => fun
  | [d1, d2, d3] => { results := [.lit (.bool false)], args := [d1, d2, d3] }
  | _ => none }
def RackErrorsWrongFalsely : Prop := rackErrorsRow.holds Tryd.pinned (OpenSpec.ofChange rackErrorsWrong)

/-- 'stavelaw9.SuperFew': WHATEVER THE INPUT: true; the input reads as it did. -/
def superFewSpec : ChangeSpec := { name := "superFew", fn := fun _ => fun
  | [d1, d2, d3, d4, d5, d6] => { results := [.lit (.bool true)], args := [d1, d2, d3, d4, d5, d6] }
  | _ => none }
def superFewRow : OpenClaim := { program := "ytdbjojnejkklhaadoor", sum := "4abc7bdc7aca8115001480cbb1f93fdf7199e7061042362087451450571f806f", func := "stave/stavelaw9.SuperFew", spec := "superFew", inPlace := ["internal/reflectlite.ValueOf", "(internal/reflectlite.Value).Type", "(internal/reflectlite.Value).IsNil", "internal/reflectlite.TypeOf", "(internal/reflectlite.Value).Elem", "(internal/reflectlite.Value).Set"], unfollowed := true, recurses := true, named := ["errors.errorType"], apart := false, laid := [("errors.errorType", laid_errors_errorType)] }
def SuperFewSaid : Prop := superFewRow.holds Tryd.pinned (OpenSpec.ofChange superFewSpec)

/-- ITS FALSE NEIGHBOUR: 'it returns false'. Refute it at one input. -/
def superFewWrong : ChangeSpec := { name := "superFew", fn := fun _ => fun
  | [d1, d2, d3, d4, d5, d6] => { results := [.lit (.bool false)], args := [d1, d2, d3, d4, d5, d6] }
  | _ => none }
def SuperFewWrongFalsely : Prop := superFewRow.holds Tryd.pinned (OpenSpec.ofChange superFewWrong)

/-- 'stavelaw9.SuperOther': WHATEVER THE INPUT: true; the input reads as it did. -/
def superOtherSpec : ChangeSpec := { name := "superOther", fn := fun _ => fun
  | [d1, d2, d3] => { results := [.lit (.bool true)], args := [d1, d2, d3] }
  | _ => none }
def superOtherRow : OpenClaim := { program := "ytdbjojnejkklhaadoor", sum := "4abc7bdc7aca8115001480cbb1f93fdf7199e7061042362087451450571f806f", func := "stave/stavelaw9.SuperOther", spec := "superOther", inPlace := ["internal/reflectlite.ValueOf", "(internal/reflectlite.Value).Type", "(internal/reflectlite.Value).IsNil", "internal/reflectlite.TypeOf", "(internal/reflectlite.Value).Elem", "(internal/reflectlite.Value).Set"], unfollowed := true, recurses := true, named := ["errors.errorType"], apart := false, laid := [("errors.errorType", laid_errors_errorType)] }
def SuperOtherSaid : Prop := superOtherRow.holds Tryd.pinned (OpenSpec.ofChange superOtherSpec)

/-- ITS FALSE NEIGHBOUR: 'it returns false'. Refute it at one input. -/
def superOtherWrong : ChangeSpec := { name := "superOther", fn := fun _ => fun
  | [d1, d2, d3] => { results := [.lit (.bool false)], args := [d1, d2, d3] }
  | _ => none }
def SuperOtherWrongFalsely : Prop := superOtherRow.holds Tryd.pinned (OpenSpec.ofChange superOtherWrong)

/- THE SECOND FORM. 'bulk': how many values and letters a reading holds, each counted each time it is reached (what is shared counts as often as it is met; a slice's spare places count too). A statement '..UptoSaid' is the law's where the arguments, and the package variables that the reading takes, are together of bulk at most 1048576: NARROWER than '..Said'. Prove '..Said' where nothing that the law and all that it calls make is longer than what came in: it says more and counts as full. Else prove '..UptoSaid'. A law counts once. -/
mutual
def uptoBulk {H : Type} : DataW H → Nat
  | .lit (.string bytes) => bytes.length + 1
  | .lit _ => 1
  | .nil => 1
  | .ptr d => uptoBulk d + 1
  | .slice elems spare => uptoBulkAll elems + uptoBulkAll spare + 1
  | .agg parts => uptoBulkAll parts + 1
  | .iface _ d => uptoBulk d + 1
  | .map entries => uptoBulkEntries entries + 1
  | .held _ => 1
def uptoBulkAll {H : Type} : List (DataW H) → Nat
  | [] => 0
  | d :: r => uptoBulk d + uptoBulkAll r
def uptoBulkEntries {H : Type} : List (Lit × DataW H) → Nat
  | [] => 0
  | x :: r => uptoBulkEntry x + uptoBulkEntries r
def uptoBulkEntry {H : Type} : Lit × DataW H → Nat
  | (.string bytes, d) => bytes.length + uptoBulk d + 1
  | (_, d) => uptoBulk d + 1
 end
def uptoSmall : (H : Type) → List (DataW H) → Bool := fun _ ds => decide (uptoBulkAll ds ≤ 1048576)
def OpenSpec.upto (s : _root_.Go.ChangeSpec) : _root_.Go.OpenSpec := { _root_.Go.OpenSpec.ofChange s with cond := some uptoSmall }

/-- 'stavelaw8.RackBoots', WHERE WHAT IT READS IS OF BULK AT MOST 1048576: true; the input reads as it did. -/
def rackBootsUptoRow : OpenClaim := { program := "ytdbjojnejkklhaadoor", sum := "4abc7bdc7aca8115001480cbb1f93fdf7199e7061042362087451450571f806f", func := "stave/stavelaw8.RackBoots", spec := "rackBoots", inPlace := ["internal/reflectlite.ValueOf", "(internal/reflectlite.Value).Type", "(internal/reflectlite.Value).IsNil", "internal/reflectlite.TypeOf", "(internal/reflectlite.Value).Elem", "(internal/reflectlite.Value).Set"], unfollowed := true, recurses := true, named := ["errors.errorType"], apart := false, laid := [("errors.errorType", laid_errors_errorType)], narrowed := true }
def RackBootsUptoSaid : Prop := rackBootsUptoRow.holds Tryd.pinned (OpenSpec.upto rackBootsSpec)

/-- 'stavelaw8.RackPlaces', WHERE WHAT IT READS IS OF BULK AT MOST 1048576: true; the input reads as it did. -/
def rackPlacesUptoRow : OpenClaim := { program := "ytdbjojnejkklhaadoor", sum := "4abc7bdc7aca8115001480cbb1f93fdf7199e7061042362087451450571f806f", func := "stave/stavelaw8.RackPlaces", spec := "rackPlaces", inPlace := ["internal/reflectlite.ValueOf", "(internal/reflectlite.Value).Type", "(internal/reflectlite.Value).IsNil", "internal/reflectlite.TypeOf", "(internal/reflectlite.Value).Elem", "(internal/reflectlite.Value).Set"], unfollowed := true, recurses := true, named := ["errors.errorType"], apart := false, laid := [("errors.errorType", laid_errors_errorType)], narrowed := true }
def RackPlacesUptoSaid : Prop := rackPlacesUptoRow.holds Tryd.pinned (OpenSpec.upto rackPlacesSpec)

/-- 'stavelaw8.RackFuse', WHERE WHAT IT READS IS OF BULK AT MOST 1048576: true; the input reads as it did. -/
def rackFuseUptoRow : OpenClaim := { program := "ytdbjojnejkklhaadoor", sum := "4abc7bdc7aca8115001480cbb1f93fdf7199e7061042362087451450571f806f", func := "stave/stavelaw8.RackFuse", spec := "rackFuse", inPlace := ["internal/reflectlite.ValueOf", "(internal/reflectlite.Value).Type", "(internal/reflectlite.Value).IsNil", "internal/reflectlite.TypeOf", "(internal/reflectlite.Value).Elem", "(internal/reflectlite.Value).Set"], unfollowed := true, recurses := true, named := ["errors.errorType"], apart := false, laid := [("errors.errorType", laid_errors_errorType)], narrowed := true }
def RackFuseUptoSaid : Prop := rackFuseUptoRow.holds Tryd.pinned (OpenSpec.upto rackFuseSpec)

/-- 'stavelaw8.RackApart', WHERE WHAT IT READS IS OF BULK AT MOST 1048576: true; the input reads as it did. -/
def rackApartUptoRow : OpenClaim := { program := "ytdbjojnejkklhaadoor", sum := "4abc7bdc7aca8115001480cbb1f93fdf7199e7061042362087451450571f806f", func := "stave/stavelaw8.RackApart", spec := "rackApart", inPlace := ["internal/reflectlite.ValueOf", "(internal/reflectlite.Value).Type", "(internal/reflectlite.Value).IsNil", "internal/reflectlite.TypeOf", "(internal/reflectlite.Value).Elem", "(internal/reflectlite.Value).Set"], unfollowed := true, recurses := true, named := ["errors.errorType"], apart := false, laid := [("errors.errorType", laid_errors_errorType)], narrowed := true }
def RackApartUptoSaid : Prop := rackApartUptoRow.holds Tryd.pinned (OpenSpec.upto rackApartSpec)

/-- 'stavelaw9.SuperRuns', WHERE WHAT IT READS IS OF BULK AT MOST 1048576: true; the input reads as it did. -/
def superRunsUptoRow : OpenClaim := { program := "ytdbjojnejkklhaadoor", sum := "4abc7bdc7aca8115001480cbb1f93fdf7199e7061042362087451450571f806f", func := "stave/stavelaw9.SuperRuns", spec := "superRuns", inPlace := ["internal/reflectlite.ValueOf", "(internal/reflectlite.Value).Type", "(internal/reflectlite.Value).IsNil", "internal/reflectlite.TypeOf", "(internal/reflectlite.Value).Elem", "(internal/reflectlite.Value).Set"], unfollowed := true, recurses := true, named := ["errors.errorType"], apart := false, laid := [("errors.errorType", laid_errors_errorType)], narrowed := true }
def SuperRunsUptoSaid : Prop := superRunsUptoRow.holds Tryd.pinned (OpenSpec.upto superRunsSpec)

/-- 'stavelaw9.SuperTells', WHERE WHAT IT READS IS OF BULK AT MOST 1048576: true; the input reads as it did. -/
def superTellsUptoRow : OpenClaim := { program := "ytdbjojnejkklhaadoor", sum := "4abc7bdc7aca8115001480cbb1f93fdf7199e7061042362087451450571f806f", func := "stave/stavelaw9.SuperTells", spec := "superTells", inPlace := ["internal/reflectlite.ValueOf", "(internal/reflectlite.Value).Type", "(internal/reflectlite.Value).IsNil", "internal/reflectlite.TypeOf", "(internal/reflectlite.Value).Elem", "(internal/reflectlite.Value).Set"], unfollowed := true, recurses := true, named := ["errors.errorType"], apart := false, laid := [("errors.errorType", laid_errors_errorType)], narrowed := true }
def SuperTellsUptoSaid : Prop := superTellsUptoRow.holds Tryd.pinned (OpenSpec.upto superTellsSpec)

/-- 'stavelaw9.SuperBytes', WHERE WHAT IT READS IS OF BULK AT MOST 1048576: true; the input reads as it did. -/
def superBytesUptoRow : OpenClaim := { program := "ytdbjojnejkklhaadoor", sum := "4abc7bdc7aca8115001480cbb1f93fdf7199e7061042362087451450571f806f", func := "stave/stavelaw9.SuperBytes", spec := "superBytes", inPlace := ["internal/reflectlite.ValueOf", "(internal/reflectlite.Value).Type", "(internal/reflectlite.Value).IsNil", "internal/reflectlite.TypeOf", "(internal/reflectlite.Value).Elem", "(internal/reflectlite.Value).Set"], unfollowed := true, recurses := true, named := ["errors.errorType"], apart := false, laid := [("errors.errorType", laid_errors_errorType)], narrowed := true }
def SuperBytesUptoSaid : Prop := superBytesUptoRow.holds Tryd.pinned (OpenSpec.upto superBytesSpec)

/-- 'stavelaw8.RackErrors', WHERE WHAT IT READS IS OF BULK AT MOST 1048576: true; the input reads as it did. -/
def rackErrorsUptoRow : OpenClaim := { program := "ytdbjojnejkklhaadoor", sum := "4abc7bdc7aca8115001480cbb1f93fdf7199e7061042362087451450571f806f", func := "stave/stavelaw8.RackErrors", spec := "rackErrors", inPlace := ["internal/reflectlite.ValueOf", "(internal/reflectlite.Value).Type", "(internal/reflectlite.Value).IsNil", "internal/reflectlite.TypeOf", "(internal/reflectlite.Value).Elem", "(internal/reflectlite.Value).Set"], unfollowed := true, recurses := true, named := ["errors.errorType"], apart := false, laid := [("errors.errorType", laid_errors_errorType)], narrowed := true }
def RackErrorsUptoSaid : Prop := rackErrorsUptoRow.holds Tryd.pinned (OpenSpec.upto rackErrorsSpec)

/-- 'stavelaw9.SuperFew', WHERE WHAT IT READS IS OF BULK AT MOST 1048576: true; the input reads as it did. -/
def superFewUptoRow : OpenClaim := { program := "ytdbjojnejkklhaadoor", sum := "4abc7bdc7aca8115001480cbb1f93fdf7199e7061042362087451450571f806f", func := "stave/stavelaw9.SuperFew", spec := "superFew", inPlace := ["internal/reflectlite.ValueOf", "(internal/reflectlite.Value).Type", "(internal/reflectlite.Value).IsNil", "internal/reflectlite.TypeOf", "(internal/reflectlite.Value).Elem", "(internal/reflectlite.Value).Set"], unfollowed := true, recurses := true, named := ["errors.errorType"], apart := false, laid := [("errors.errorType", laid_errors_errorType)], narrowed := true }
def SuperFewUptoSaid : Prop := superFewUptoRow.holds Tryd.pinned (OpenSpec.upto superFewSpec)

/-- 'stavelaw9.SuperOther', WHERE WHAT IT READS IS OF BULK AT MOST 1048576: true; the input reads as it did. -/
def superOtherUptoRow : OpenClaim := { program := "ytdbjojnejkklhaadoor", sum := "4abc7bdc7aca8115001480cbb1f93fdf7199e7061042362087451450571f806f", func := "stave/stavelaw9.SuperOther", spec := "superOther", inPlace := ["internal/reflectlite.ValueOf", "(internal/reflectlite.Value).Type", "(internal/reflectlite.Value).IsNil", "internal/reflectlite.TypeOf", "(internal/reflectlite.Value).Elem", "(internal/reflectlite.Value).Set"], unfollowed := true, recurses := true, named := ["errors.errorType"], apart := false, laid := [("errors.errorType", laid_errors_errorType)], narrowed := true }
def SuperOtherUptoSaid : Prop := superOtherUptoRow.holds Tryd.pinned (OpenSpec.upto superOtherSpec)

end Rows
end Go.Proofs.YtdbjojnejkklhaaDoor
