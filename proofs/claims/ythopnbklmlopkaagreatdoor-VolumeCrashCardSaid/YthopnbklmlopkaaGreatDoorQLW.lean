/- What the condition of the one listed variable gives a walk; a world that meets it. -/
import Derived.Test.YthopnbklmlopkaaGreatDoorRows
import Derived.Test.YthopnbklmlopkaaGreatDoorQA
import Derived.Test.YthopnbklmlopkaaGreatDoorQC
import Derived.ChangeSame
import Derived.ChangeVars
import Derived.JoinedOf
import Derived.RowKit
import Derived.RowKitTokens
import Derived.LaidLaws
import Derived.LaidHandle
import Derived.Stop.Joined
namespace Go.Proofs.YthopnbklmlopkaaGreatDoor
set_option linter.unusedVariables false
set_option linter.unusedSimpArgs false
open Go Go.ChangeShapes Go.WideShapes Go.RowKit
theorem Ext.below {a b : World} (h : Ext a b) : Below a.heap.size a b := ⟨h.os, h.tape, h.output, h.size, fun k hk => h.block k hk (fun x => x)⟩
theorem hOwn : ownKnob Tryz.prog.godebug = none := by kernel_rfl
theorem hEt : Tryz.prog.globalNamed "errors.errorType" = some 0 := by kernel_rfl
theorem hRt : (Tryz.prog.cutTypes.find? (·.1 == "internal/reflectlite.rtype")).map (·.2) = some 182 := by kernel_rfl
theorem hSize : Tryz.prog.types.size = 268 := by kernel_rfl
theorem hOneRow : ((List.range 268).filter fun t => Tryz.prog.rowNamed t [101, 114, 114, 111, 114]) = [26] := by kernel_rfl
theorem etLaid_of {W : World} (h : laidMetH Tryz.prog theLaid W) : EtLaid W := by
  have h' : laidMet Tryz.prog [] W ∧ handlesMet Tryz.prog theLaid W := h
  obtain ⟨name, u, ty, e1, e2, e3, e4, e5⟩ := h'.2 _ (List.mem_singleton.2 rfl)
  have en : name = [101, 114, 114, 111, 114] := (Option.some.inj e1).symm
  subst en
  obtain rfl := Option.some.inj (hRt.symm.trans e2)
  have hm : ty ∈ (List.range 268).filter fun t => Tryz.prog.rowNamed t [101, 114, 114, 111, 114] := List.mem_filter.2 ⟨List.mem_range.2 (by rw [← hSize]; exact e3), e4⟩
  rw [hOneRow] at hm
  obtain rfl := List.mem_singleton.1 hm
  have hh : typeHandle Tryz.prog 26 = .pointer (some ⟨1, 26, none⟩) := by kernel_rfl
  rw [hh] at e5
  unfold EtLaid
  simpa using World.var?_cell hEt e5 0
theorem laidWorld_met (os : Os) (args : Array Value) : laidMetH Tryz.prog theLaid ((laidWorld os).forCall (fun _ _ => 0) ⟨#[], args, []⟩).memory :=
  laidMetH_of_parts (laidMet_nil _ _) (by kernel_rfl)
end Go.Proofs.YthopnbklmlopkaaGreatDoor
