/- The walk of GfField. -/
import Derived.Test.YtoafabbdoejegaaWGfB
namespace Go.Proofs.Ytoafabbdoejegaa
set_option linter.unusedVariables false
open Go.RowKit Gf

set_option maxRecDepth 100000 in
set_option maxHeartbeats 2000000 in
theorem gfField_c (A B C : Int) (wa : (Lit.int .u8 A).wf = true) (wb : (Lit.int .u8 B).wf = true) (wc : (Lit.int .u8 C).wf = true) (w : World) :
    Calls Try.prog 7 #[.int .u8 A, .int .u8 B, .int .u8 C] w fun e w' => e = .returned (.bool true) ∧ Ext w w' := by
  have ba := bounds_u8 wa
  have bb := bounds_u8 wb
  have bc := bounds_u8 wc
  clear wa wb wc
  obtain ⟨a, rfl⟩ := Int.eq_ofNat_of_zero_le ba.1
  obtain ⟨b, rfl⟩ := Int.eq_ofNat_of_zero_le bb.1
  obtain ⟨c, rfl⟩ := Int.eq_ofNat_of_zero_le bc.1
  have ba := ba.2
  have bb := bb.2
  have bc := bc.2
  have hx := xor_bd b c (by omega) (by omega)
  have e1 : bits .xor .u8 (b : Int) (c : Int) = ((b ^^^ c : Nat) : Int) := u8_xor_nat b c (by omega) (by omega)
  obtain ⟨z, hz⟩ : ∃ z : Nat, b ^^^ c = z := ⟨_, rfl⟩
  rw [hz] at hx e1
  have d1 : Gf.mul a z = Gf.mul a b ^^^ Gf.mul a c := by rw [← hz]; exact Gf.mul_xor a b c (by omega) (by omega)
  have d2 := Gf.mul_assoc a b c (by omega) (by omega) (by omega)
  have d3 := Gf.mul_comm b a
  have d4 := Gf.mul_one a (by omega)
  have d5 := Gf.mul_zero a
  obtain ⟨p, hp⟩ : ∃ p : Nat, Gf.mul a b = p := ⟨_, rfl⟩
  obtain ⟨q, hq⟩ : ∃ q : Nat, Gf.mul a c = q := ⟨_, rfl⟩
  obtain ⟨r, hr⟩ : ∃ r : Nat, Gf.mul a (Gf.mul b c) = r := ⟨_, rfl⟩
  have bp : p < 256 := by rw [← hp]; exact Gf.mul_bd _ _
  have bq : q < 256 := by rw [← hq]; exact Gf.mul_bd _ _
  have br : Gf.mul b c < 256 := Gf.mul_bd _ _
  have e2 : bits .xor .u8 (p : Int) (q : Int) = ((p ^^^ q : Nat) : Int) := u8_xor_nat p q bp bq
  obtain ⟨y, hy⟩ : ∃ y : Nat, p ^^^ q = y := ⟨_, rfl⟩
  rw [hp, hq, hy] at d1
  rw [hp, hr] at d2
  rw [hp] at d3
  rw [hy] at e2
  have f1 : b ≠ 0 → Gf.mul (Gf.mul a (Gf.inv b)) b = a := fun h => Gf.div_mul a b (by omega) (by omega) (by omega)
  have f2 : a ≠ 0 → Gf.mul a (Gf.inv a) = 1 := fun h => Gf.mul_inv a (by omega) (by omega)
  have f3 : a ≠ 0 → b ≠ 0 → ((p : Int) == 0) = false := fun h h' => beq_eq_false_iff_ne.2 (by have := Gf.mul_pos a b (by omega) (by omega); omega)
  have f4 := Gf.inv_bd a
  have f5 := Gf.inv_bd b
  have f6 := Gf.mul_bd a (Gf.inv b)
  have g0 := Gf.inv_zero
  have F1 := hid f1; have F2 := hid f2; have F3 := hid f3
  clear hz hy f1 f2 f3
  by_cases a0 : a = 0
  · have c0 : ((a : Int) != 0) = false := by simp [a0]
    by_cases b0 : b = 0
    · have c1 : ((b : Int) == 0) = true := by simp [b0]
      clear a0 b0
      go_enter Try.func7, Try.ntmps7
      go_wp2_with fail
      refine (make_c w).mono ?_
      rintro e w1 ⟨fb, rfl, _, hf, h0⟩
      go_wp2_with (first
        | (go_at_call 11; refine (mul_c fb _ _ _ hf (by omega) (by omega)).mono ?_; rintro e w' ⟨rfl, hx⟩; have hf := hf.ext hx; have h0 := h0.trans hx; clear hx)
        | (go_at_call 12; refine (inv_c fb _ _ hf (by omega)).mono ?_; rintro e w' ⟨rfl, hx⟩; have hf := hf.ext hx; have h0 := h0.trans hx; clear hx)
        | (go_at_call 18; refine (div_c fb _ _ _ hf (by omega) (by omega)).mono ?_; rintro e w' ⟨rfl, hx⟩; have hf := hf.ext hx; have h0 := h0.trans hx; clear hx)
        | (go_at_call 3; refine (gfRuns_c _).mono ?_; rintro e w' ⟨rfl, hx⟩; have h0 := h0.trans hx; clear hx))
      go_ret
      exact ⟨rfl, h0⟩
    · have c1 : ((b : Int) == 0) = false := by simp [b0]
      have g1 := F1.out b0
      clear a0 b0
      go_enter Try.func7, Try.ntmps7
      go_wp2_with fail
      refine (make_c w).mono ?_
      rintro e w1 ⟨fb, rfl, _, hf, h0⟩
      go_wp2_with (first
        | (go_at_call 11; refine (mul_c fb _ _ _ hf (by omega) (by omega)).mono ?_; rintro e w' ⟨rfl, hx⟩; have hf := hf.ext hx; have h0 := h0.trans hx; clear hx)
        | (go_at_call 12; refine (inv_c fb _ _ hf (by omega)).mono ?_; rintro e w' ⟨rfl, hx⟩; have hf := hf.ext hx; have h0 := h0.trans hx; clear hx)
        | (go_at_call 18; refine (div_c fb _ _ _ hf (by omega) (by omega)).mono ?_; rintro e w' ⟨rfl, hx⟩; have hf := hf.ext hx; have h0 := h0.trans hx; clear hx)
        | (go_at_call 3; refine (gfRuns_c _).mono ?_; rintro e w' ⟨rfl, hx⟩; have h0 := h0.trans hx; clear hx))
      go_ret
      exact ⟨rfl, h0⟩
  · have c0 : ((a : Int) != 0) = true := by simp [a0]
    have g2 := F2.out a0
    by_cases b0 : b = 0
    · have c1 : ((b : Int) == 0) = true := by simp [b0]
      have c2 : ((b : Int) != 0) = false := by simp [b0]
      clear a0 b0
      go_enter Try.func7, Try.ntmps7
      go_wp2_with fail
      refine (make_c w).mono ?_
      rintro e w1 ⟨fb, rfl, _, hf, h0⟩
      go_wp2_with (first
        | (go_at_call 11; refine (mul_c fb _ _ _ hf (by omega) (by omega)).mono ?_; rintro e w' ⟨rfl, hx⟩; have hf := hf.ext hx; have h0 := h0.trans hx; clear hx)
        | (go_at_call 12; refine (inv_c fb _ _ hf (by omega)).mono ?_; rintro e w' ⟨rfl, hx⟩; have hf := hf.ext hx; have h0 := h0.trans hx; clear hx)
        | (go_at_call 18; refine (div_c fb _ _ _ hf (by omega) (by omega)).mono ?_; rintro e w' ⟨rfl, hx⟩; have hf := hf.ext hx; have h0 := h0.trans hx; clear hx)
        | (go_at_call 3; refine (gfRuns_c _).mono ?_; rintro e w' ⟨rfl, hx⟩; have h0 := h0.trans hx; clear hx))
      go_ret
      exact ⟨rfl, h0⟩
    · have c1 : ((b : Int) == 0) = false := by simp [b0]
      have c2 : ((b : Int) != 0) = true := by simp [b0]
      have g1 := F1.out b0
      have g3 := F3.out a0 b0
      clear a0 b0
      go_enter Try.func7, Try.ntmps7
      go_wp2_with fail
      refine (make_c w).mono ?_
      rintro e w1 ⟨fb, rfl, _, hf, h0⟩
      go_wp2_with (first
        | (go_at_call 11; refine (mul_c fb _ _ _ hf (by omega) (by omega)).mono ?_; rintro e w' ⟨rfl, hx⟩; have hf := hf.ext hx; have h0 := h0.trans hx; clear hx)
        | (go_at_call 12; refine (inv_c fb _ _ hf (by omega)).mono ?_; rintro e w' ⟨rfl, hx⟩; have hf := hf.ext hx; have h0 := h0.trans hx; clear hx)
        | (go_at_call 18; refine (div_c fb _ _ _ hf (by omega) (by omega)).mono ?_; rintro e w' ⟨rfl, hx⟩; have hf := hf.ext hx; have h0 := h0.trans hx; clear hx)
        | (go_at_call 3; refine (gfRuns_c _).mono ?_; rintro e w' ⟨rfl, hx⟩; have h0 := h0.trans hx; clear hx))
      go_ret
      exact ⟨rfl, h0⟩
end Go.Proofs.Ytoafabbdoejegaa
