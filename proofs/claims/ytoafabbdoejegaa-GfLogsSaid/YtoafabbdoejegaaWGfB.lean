/- The walks of the statements on the field's numbers: GfTells, GfLogs, GfPowers, GfField. -/
import Derived.Test.YtoafabbdoejegaaWGfA
import Derived.OpenShut
namespace Go.Proofs.Ytoafabbdoejegaa
set_option linter.unusedVariables false
open Go.RowKit Gf

set_option maxRecDepth 100000 in
set_option maxHeartbeats 1000000 in
theorem gfTells_c (A B : Int) (wa : (Lit.int .u8 A).wf = true) (wb : (Lit.int .u8 B).wf = true) (w : World) :
    Calls Try.prog 6 #[.int .u8 A, .int .u8 B] w fun e w' => e = .returned (.bool true) ∧ Ext w w' := by
  have ba := bounds_u8 wa
  have bb := bounds_u8 wb
  have bi := Gf.inv_bd B.toNat
  clear wa wb
  go_enter Try.func6, Try.ntmps6
  go_wp2_with fail
  refine (make_c w).mono ?_
  rintro e w1 ⟨fb, rfl, _, hf, h0⟩
  go_wp2_with (first
    | (go_at_call 11; refine (mul_c fb _ _ _ hf (by omega) (by omega)).mono ?_; rintro e w' ⟨rfl, hx⟩; have hf := hf.ext hx; have h0 := h0.trans hx; clear hx)
    | (go_at_call 12; refine (inv_c fb _ _ hf (by omega)).mono ?_; rintro e w' ⟨rfl, hx⟩; have hf := hf.ext hx; have h0 := h0.trans hx; clear hx)
    | (go_at_call 18; refine (div_c fb _ _ _ hf (by omega) (by omega)).mono ?_; rintro e w' ⟨rfl, hx⟩; have hf := hf.ext hx; have h0 := h0.trans hx; clear hx)
    | (go_at_call 16; refine (refMul_c _ _ _ (by omega) (by omega)).mono ?_; rintro e w' ⟨rfl, rfl⟩)
    | (go_at_call 17; refine (refInv_c _ _ (by omega)).mono ?_; rintro e w' ⟨rfl, rfl⟩)
    | (go_at_call 3; refine (gfRuns_c _).mono ?_; rintro e w' ⟨rfl, hx⟩; have h0 := h0.trans hx; clear hx))
  go_ret
  exact ⟨rfl, h0⟩

set_option maxRecDepth 100000 in
set_option maxHeartbeats 1000000 in
theorem gfLogs_c (N M A : Int) (_wn : (Lit.int .i64 N).wf = true) (_wm : (Lit.int .i64 M).wf = true) (wa : (Lit.int .u8 A).wf = true) (w : World) :
    Calls Try.prog 4 #[.int .i64 N, .int .i64 M, .int .u8 A] w fun e w' => e = .returned (.bool true) ∧ Ext w w' := by
  have ba := bounds_u8 wa
  clear wa _wn _wm
  obtain ⟨a, rfl⟩ := Int.eq_ofNat_of_zero_le ba.1
  have ba := ba.2
  go_enter Try.func4, Try.ntmps4
  go_wp2_with fail
  refine (make_c w).mono ?_
  rintro e w1 ⟨fb, rfl, _, hf, h0⟩
  go_wp2_with fail
  refine (within_c _ _ _ _ (by omega) (by omega) (by omega)).mono ?_
  rintro e w' ⟨rfl, rfl⟩
  have bx := within_bd N (-600) 600 (by omega)
  generalize within N (-600) 600 = x at *
  go_wp2_with fail
  refine (within_c _ _ _ _ (by omega) (by omega) (by omega)).mono ?_
  rintro e w' ⟨rfl, rfl⟩
  have bz := within_bd M (-600) 600 (by omega)
  generalize within M (-600) 600 = y at *
  have e1 := Gf.exp_255 x
  have e2 : Gf.mul 2 (Gf.exp x) = Gf.exp (x + 1) := by
    rw [← Gf.exp_one, Gf.exp_add, Int.add_comm]
  have e3 := Gf.exp_add x y
  have e4 : ((Gf.exp x : Int) == 0) = false := beq_eq_false_iff_ne.2 (by have := Gf.exp_bd x; omega)
  have e5 := Gf.exp_zero
  have e6 := Gf.exp_bd x
  have e7 := Gf.exp_bd y
  by_cases a0 : a = 0
  · subst a0
    have e8 : Gf.lg 0 = -1 := rfl
    go_wp2_with (first
      | (go_at_call 11; refine (mul_c fb _ _ _ hf (by omega) (by omega)).mono ?_; rintro e w' ⟨rfl, hx⟩; have hf := hf.ext hx; have h0 := h0.trans hx; clear hx)
      | (go_at_call 13; refine (exp_c fb _ _ hf (by omega) (by omega)).mono ?_; rintro e w' ⟨rfl, hx⟩; have hf := hf.ext hx; have h0 := h0.trans hx; clear hx)
      | (go_at_call 14; refine (log_c fb _ _ hf (by omega)).mono ?_; rintro e w' ⟨rfl, hx⟩; have hf := hf.ext hx; have h0 := h0.trans hx; clear hx)
      | (go_at_call 3; refine (gfRuns_c _).mono ?_; rintro e w' ⟨rfl, hx⟩; have h0 := h0.trans hx; clear hx))
    go_ret
    exact ⟨rfl, h0⟩
  · have c0 : ((a : Int) == 0) = false := beq_eq_false_iff_ne.2 (by omega)
    have l1 := Gf.lg_bd a (by omega) (by omega)
    have l2 := Gf.exp_lg a (by omega) (by omega)
    clear a0
    go_wp2_with (first
      | (go_at_call 11; refine (mul_c fb _ _ _ hf (by omega) (by omega)).mono ?_; rintro e w' ⟨rfl, hx⟩; have hf := hf.ext hx; have h0 := h0.trans hx; clear hx)
      | (go_at_call 13; refine (exp_c fb _ _ hf (by omega) (by omega)).mono ?_; rintro e w' ⟨rfl, hx⟩; have hf := hf.ext hx; have h0 := h0.trans hx; clear hx)
      | (go_at_call 14; refine (log_c fb _ _ hf (by omega)).mono ?_; rintro e w' ⟨rfl, hx⟩; have hf := hf.ext hx; have h0 := h0.trans hx; clear hx)
      | (go_at_call 3; refine (gfRuns_c _).mono ?_; rintro e w' ⟨rfl, hx⟩; have h0 := h0.trans hx; clear hx))
    go_ret
    exact ⟨rfl, h0⟩
end Go.Proofs.Ytoafabbdoejegaa
