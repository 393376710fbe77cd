/- The walks of the statements on the field's numbers: GfPowers, GfField. -/
import Derived.Test.YtoafabbdoejegaaWGfB
namespace Go.Proofs.Ytoafabbdoejegaa
set_option linter.unusedVariables false
open Go.RowKit Gf

set_option maxRecDepth 100000 in
set_option maxHeartbeats 1000000 in
theorem gfPowers_c (A N : Int) (wa : (Lit.int .u8 A).wf = true) (_wn : (Lit.int .i64 N).wf = true) (w : World) :
    Calls Try.prog 5 #[.int .u8 A, .int .i64 N] w fun e w' => e = .returned (.bool true) ∧ Ext w w' := by
  have ba := bounds_u8 wa
  clear wa _wn
  obtain ⟨a, rfl⟩ := Int.eq_ofNat_of_zero_le ba.1
  have ba := ba.2
  go_enter Try.func5, Try.ntmps5
  go_wp2_with fail
  refine (make_c w).mono ?_
  rintro e w1 ⟨fb, rfl, _, hf, h0⟩
  go_wp2_with fail
  refine (within_c _ _ _ _ (by omega) (by omega) (by omega)).mono ?_
  rintro e w' ⟨rfl, rfl⟩
  have bx := within_bd N 0 300 (by omega)
  generalize within N 0 300 = K at *
  obtain ⟨q, rfl⟩ := Int.eq_ofNat_of_zero_le bx.1
  go_wp2
  go_loopw [7, 8] (fun x i wr => ∃ k : Nat, k ≤ q ∧ i = .int .i64 k ∧ x = .int .u8 (Gf.pw a k : Nat) ∧ FieldAt wr fb ∧ Ext w wr) (fun _ i _ => q - (intOf i).toNat)
  case atStart => exact ⟨0, by omega, rfl, rfl, hf, h0⟩
  case round =>
    obtain ⟨k, hk, rfl, rfl, hf, h0⟩ := hrel
    by_cases hlt : k < q
    · have hp := Gf.pw_bd a k
      have hs : Hid (Gf.pw a (k + 1) = Gf.mul (Gf.pw a k) a) := hid rfl
      go_wp2_with fail
      refine (mul_c fb _ _ _ hf (by omega) (by omega)).mono ?_
      rintro e w' ⟨rfl, hx⟩
      have hf := hf.ext hx
      have h0 := h0.trans hx
      simp only [Int.toNat_natCast]
      have HF := hid hf; have H0 := hid h0
      clear hx hf h0
      go_wp2
      go_roundw
      case rel => exact ⟨k + 1, by omega, by go_num, by rw [hs.out], HF.out, H0.out⟩
      case measure => simp [intOf]; omega
    · obtain rfl : k = q := by omega
      by_cases a0 : a = 0
      · subst a0
        have hz := Gf.pw_zero k
        by_cases k0 : k = 0
        · subst k0
          have hz : Gf.pw 0 0 = 1 := rfl
          go_wp2_with (first
            | (go_at_call 3; refine (gfRuns_c _).mono ?_; rintro e w' ⟨rfl, hx⟩; have h0 := h0.trans hx; clear hx))
          go_ret
          exact ⟨rfl, h0⟩
        · rw [if_neg k0] at hz
          go_wp2_with (first
            | (go_at_call 3; refine (gfRuns_c _).mono ?_; rintro e w' ⟨rfl, hx⟩; have h0 := h0.trans hx; clear hx))
          go_ret
          exact ⟨rfl, h0⟩
      · have c0 : ((a : Int) == 0) = false := beq_eq_false_iff_ne.2 (by omega)
        have l1 := Gf.lg_bd a (by omega) (by omega)
        have p1 := Gf.pw_exp a k (by omega) (by omega)
        have p2 := Gf.exp_255_mul (Gf.lg a)
        have p3 := Gf.exp_neg a (by omega) (by omega)
        have p4 := Gf.exp_bd (-Gf.lg a)
        have l3 : Gf.lg a * (k : Int) ≤ 254 * 300 := by
          have := Int.mul_le_mul (show Gf.lg a ≤ 254 by omega) (show (k : Int) ≤ 300 by omega) (by omega) (by omega)
          omega
        have l4 : 0 ≤ Gf.lg a * (k : Int) := Int.mul_nonneg (by omega) (by omega)
        clear a0 hk bx hlt
        go_wp2_with (first
          | (go_at_call 11; refine (mul_c fb _ _ _ hf (by omega) (by omega)).mono ?_; rintro e w' ⟨rfl, hx⟩; have hf := hf.ext hx; have h0 := h0.trans hx; clear hx)
          | (go_at_call 13; refine (exp_c fb _ _ hf (by omega) (by omega)).mono ?_; rintro e w' ⟨rfl, hx⟩; have hf := hf.ext hx; have h0 := h0.trans hx; clear hx)
          | (go_at_call 14; refine (log_c fb _ _ hf (by omega)).mono ?_; rintro e w' ⟨rfl, hx⟩; have hf := hf.ext hx; have h0 := h0.trans hx; clear hx)
          | (go_at_call 3; refine (gfRuns_c _).mono ?_; rintro e w' ⟨rfl, hx⟩; have h0 := h0.trans hx; clear hx))
        go_ret
        exact ⟨rfl, h0⟩
end Go.Proofs.Ytoafabbdoejegaa
