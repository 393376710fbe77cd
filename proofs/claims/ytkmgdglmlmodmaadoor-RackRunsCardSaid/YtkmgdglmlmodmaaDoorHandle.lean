/- The seat's one listed variable: what the condition gives a walk; a world that meets it. -/
import Derived.Test.YtkmgdglmlmodmaaDoorRows
import Derived.Test.YtkmgdglmlmodmaaDoorBase
import Derived.Test.YtkmgdglmlmodmaaDoorErrAsTop
import Derived.ChangeSame
import Derived.ChangeVars
import Derived.JoinedOf
import Derived.RowKit
import Derived.RowKitTokens
import Derived.LaidLaws
import Derived.LaidHandle
import Derived.Stop.Joined
namespace Go.Proofs.YtkmgdglmlmodmaaDoor
open Go.ChangeShapes Go.WideShapes Go.RowKit
def theLaid : List (String × DataW Unit) := [("errors.errorType", Rows.laid_errors_errorType)]
theorem hOwn : ownKnob Tryd.prog.godebug = none := by kernel_rfl
theorem hEt : Tryd.prog.globalNamed "errors.errorType" = some 0 := by kernel_rfl
theorem hRt : (Tryd.prog.cutTypes.find? (·.1 == "internal/reflectlite.rtype")).map (·.2) = some 179 := by kernel_rfl
theorem hSize : Tryd.prog.types.size = 221 := by kernel_rfl
theorem hOneRow : ((List.range 221).filter fun t => Tryd.prog.rowNamed t [101, 114, 114, 111, 114]) = [24] := by kernel_rfl
/-- What the condition gives a walk: the variable's one cell. -/
theorem etLaid_of {W : World} (h : laidMetH Tryd.prog theLaid W) : EtLaid W := by
  have h' : laidMet Tryd.prog [] W ∧ handlesMet Tryd.prog theLaid W := h
  obtain ⟨name, u, ty, e1, e2, e3, e4, e5⟩ := h'.2 _ (List.mem_singleton.2 rfl)
  have en : name = [101, 114, 114, 111, 114] := (Option.some.inj e1).symm
  subst en
  obtain rfl := Option.some.inj (hRt.symm.trans e2)
  have hm : ty ∈ (List.range 221).filter fun t => Tryd.prog.rowNamed t [101, 114, 114, 111, 114] := List.mem_filter.2 ⟨List.mem_range.2 (by rw [← hSize]; exact e3), e4⟩
  rw [hOneRow] at hm
  obtain rfl := List.mem_singleton.1 hm
  have hh : typeHandle Tryd.prog 24 = .pointer (some ⟨1, 24, none⟩) := by kernel_rfl
  rw [hh] at e5
  unfold EtLaid
  simpa using World.var?_cell hEt e5 0
/-- A world that meets the condition: the settled one, the variable's cell laid. -/
noncomputable def laidWorld (os : Os) : World :=
  let w0 := World.holding Tryd.prog os ⟨#[], #[], []⟩
  { w0 with heap := w0.heap.modify 0 fun
      | .cells _ t frozen => .cells #[.iface 179 (.agg #[.pointer (some ⟨1, 24, none⟩)])] t frozen
      | o => o }
theorem laidWorld_met (os : Os) (args : Array Value) : laidMetH Tryd.prog theLaid ((laidWorld os).forCall (fun _ _ => 0) ⟨#[], args, []⟩).memory :=
  laidMetH_of_parts (laidMet_nil _ _) (by kernel_rfl)
end Go.Proofs.YtkmgdglmlmodmaaDoor
