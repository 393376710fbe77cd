/- The walks of the statements on the field's numbers: GfRuns, GfTells. -/
import Derived.Test.YtoafabbdoejegaaGfOps
import Derived.Test.YtoafabbdoejegaaGfRef
namespace Go.Proofs.Ytoafabbdoejegaa
set_option linter.unusedVariables false
open Go.RowKit Gf

set_option maxRecDepth 100000 in
set_option maxHeartbeats 1000000 in
theorem gfRuns_c (w : World) : Calls Try.prog 3 #[] w fun e w' => e = .returned (.bool true) ∧ Ext w w' := by
  have m1 : Gf.mul 2 128 = 29 := by decide +kernel
  have m2 : Gf.mul 3 7 = 9 := by decide +kernel
  have m3 : Gf.inv 2 = 142 := by decide +kernel
  have m4 : Gf.exp 8 = 29 := by decide +kernel
  have m5 : Gf.lg 29 = 8 := by decide +kernel
  go_enter Try.func3, Try.ntmps3
  go_wp2_with fail
  refine (make_c w).mono ?_
  rintro e w1 ⟨fb, rfl, _, hf, h0⟩
  go_wp2_with (first
    | (go_at_call 11; refine (mul_c fb _ _ _ hf (by omega) (by omega)).mono ?_; rintro e w' ⟨rfl, hx⟩; have hf := hf.ext hx; have h0 := h0.trans hx; clear hx)
    | (go_at_call 12; refine (inv_c fb _ _ hf (by omega)).mono ?_; rintro e w' ⟨rfl, hx⟩; have hf := hf.ext hx; have h0 := h0.trans hx; clear hx)
    | (go_at_call 13; refine (exp_c fb _ _ hf (by omega) (by omega)).mono ?_; rintro e w' ⟨rfl, hx⟩; have hf := hf.ext hx; have h0 := h0.trans hx; clear hx)
    | (go_at_call 14; refine (log_c fb _ _ hf (by omega)).mono ?_; rintro e w' ⟨rfl, hx⟩; have hf := hf.ext hx; have h0 := h0.trans hx; clear hx))
  go_ret
  exact ⟨rfl, h0⟩
end Go.Proofs.Ytoafabbdoejegaa
