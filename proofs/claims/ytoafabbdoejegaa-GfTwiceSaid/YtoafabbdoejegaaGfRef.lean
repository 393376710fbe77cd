/- The document's own product and inverse are the field's. -/
import Derived.Test.YtoafabbdoejegaaWithin
import Derived.Test.YtoafabbdoejegaaGfPure
namespace Go.Proofs.Ytoafabbdoejegaa
set_option linter.unusedVariables false
open Go.RowKit Gf
set_option maxRecDepth 100000 in
set_option maxHeartbeats 400000 in
theorem refMul_c (A B : Int) (w : World) (ha : 0 ≤ A ∧ A < 256) (hb : 0 ≤ B ∧ B < 256) :
    Calls Try.prog 16 #[.int .u8 A, .int .u8 B] w fun e w' => e = .returned (.int .u8 (Gf.mul A.toNat B.toNat : Nat)) ∧ w = w' := by
  obtain ⟨a, rfl⟩ := Int.eq_ofNat_of_zero_le ha.1
  obtain ⟨b, rfl⟩ := Int.eq_ofNat_of_zero_le hb.1
  have ha := ha.2
  have hb := hb.2
  rw [Int.toNat_natCast, Int.toNat_natCast]
  go_enter Try.func16, Try.ntmps16
  go_wp2
  go_loop [5, 6, 7] (fun x o y => ∃ i j k : Nat, i < 256 ∧ j < 256 ∧ k < 256 ∧ x = .int .i64 i ∧ o = .int .i64 j ∧ y = .int .i64 k ∧ j ^^^ Gf.mul i k = Gf.mul a b) (fun _ _ y => (intOf y).toNat)
  case atStart => exact ⟨a, 0, b, by omega, by omega, by omega, rfl, rfl, rfl, by rw [Nat.zero_xor]⟩
  case round =>
    obtain ⟨i, j, k, hi, hj, hk, rfl, rfl, rfl, hq⟩ := hrel
    have HQ := hid hq
    clear hq
    by_cases h0 : 0 < k
    · have hand : bits .and .i64 (k : Int) 1 = ((k % 2 : Nat) : Int) := by
        rw [show (1 : Int) = ((1 : Nat) : Int) by rfl, i64_and_nat k 1 (by omega) (by omega), Nat.and_one_is_mod]
      have hx := xor_bd j i hj hi
      have hxo : bits .xor .i64 (j : Int) (i : Int) = ((j ^^^ i : Nat) : Int) := i64_xor_nat j i (by omega) (by omega)
      obtain ⟨z, hz⟩ : ∃ z : Nat, (2 * i) ^^^ 285 = z := ⟨_, rfl⟩
      have hzb : z < 512 := by rw [← hz]; exact Nat.xor_lt_two_pow (n := 9) (by omega) (by omega)
      obtain ⟨y, hy⟩ : ∃ y : Nat, j ^^^ i = y := ⟨_, rfl⟩
      rw [hy] at hx hxo
      have hst : bits .xor .i64 ((i : Int) * 2) 285 = (z : Int) := by
        rw [← hz]
        rw [show ((i : Int) * 2) = ((2 * i : Nat) : Int) by omega]; exact i64_xor_nat (2 * i) 285 (by omega) (by omega)
      have HH : Hid ((if k % 2 = 1 then y else j) ^^^ Gf.mul (Gf.step i) (k / 2) = Gf.mul a b) := by
        refine hid ?_
        rw [← HQ.out, mul_half i k hi hk, ← hy]
        split
        · rw [Nat.xor_assoc]
        · rw [Nat.zero_xor]
      have hsb : Gf.step i < 256 := step_bd i hi
      rcases Nat.mod_two_eq_zero_or_one k with hk2 | hk2
      · rw [hk2] at hand
        have HH2 : Hid (j ^^^ Gf.mul (Gf.step i) (k / 2) = Gf.mul a b) := by
          refine hid ?_; have := HH.out; rwa [if_neg (by omega)] at this
        have HST : Hid (Gf.step i = if 256 ≤ 2 * i then z else 2 * i) := hid (by rw [← hz]; rfl)
        clear HH HQ hk2 hy hz
        have hand : bits .and .i64 (k : Int) 1 = 0 := hand
        go_wp2
        · have HI := HST.out
          rw [if_pos (by omega)] at HI
          refine ⟨⟨Gf.step i, j, k / 2, hsb, by omega, by omega, by rw [HI], rfl, by go_num, HH2.out⟩, by simp [intOf]; omega⟩
        · have HI := HST.out
          rw [if_neg (by omega)] at HI
          refine ⟨⟨Gf.step i, j, k / 2, hsb, by omega, by omega, by rw [HI]; go_num, rfl, by go_num, HH2.out⟩, by simp [intOf]; omega⟩
      · rw [hk2] at hand
        have HH2 : Hid (y ^^^ Gf.mul (Gf.step i) (k / 2) = Gf.mul a b) := by
          refine hid ?_; have := HH.out; rwa [if_pos (by omega)] at this
        have HST : Hid (Gf.step i = if 256 ≤ 2 * i then z else 2 * i) := hid (by rw [← hz]; rfl)
        clear HH HQ hk2 hy hz
        have hand : bits .and .i64 (k : Int) 1 = 1 := hand
        go_wp2
        · have HI := HST.out
          rw [if_pos (by omega)] at HI
          refine ⟨⟨Gf.step i, y, k / 2, hsb, by omega, by omega, by rw [HI], rfl, by go_num, HH2.out⟩, by simp [intOf]; omega⟩
        · have HI := HST.out
          rw [if_neg (by omega)] at HI
          refine ⟨⟨Gf.step i, y, k / 2, hsb, by omega, by omega, by rw [HI]; go_num, rfl, by go_num, HH2.out⟩, by simp [intOf]; omega⟩
    · obtain rfl : k = 0 := by omega
      have HJ : Hid (j = Gf.mul a b) := by
        refine hid ?_; have := HQ.out; rwa [Gf.mul_zero, Nat.xor_zero] at this
      clear HQ
      go_wp2
      go_ret
      exact ⟨by rw [← HJ.out]; rfl, rfl⟩

set_option maxRecDepth 100000 in
set_option maxHeartbeats 400000 in
theorem refInv_c (A : Int) (w : World) (ha : 0 ≤ A ∧ A < 256) :
    Calls Try.prog 17 #[.int .u8 A] w fun e w' => e = .returned (.int .u8 (Gf.inv A.toNat : Nat)) ∧ w = w' := by
  obtain ⟨a, rfl⟩ := Int.eq_ofNat_of_zero_le ha.1
  have ha := ha.2
  rw [Int.toNat_natCast]
  have hib := Gf.inv_bd a
  have HU : Hid (∀ k, 0 < k → k < 256 → Gf.mul a k = 1 → k = Gf.inv a) := by
    refine hid fun k h0 hk hm => ?_
    by_cases a0 : a = 0
    · subst a0; rw [Gf.zero_mul] at hm; omega
    · have h1 : Gf.mul (Gf.inv a) (Gf.mul a k) = Gf.inv a := by rw [hm, Gf.mul_one _ hib]
      rw [← Gf.mul_assoc _ _ _ hib (by omega) hk, Gf.mul_comm (Gf.inv a) a, Gf.mul_inv a (by omega) (by omega), Gf.mul_comm, Gf.mul_one _ hk] at h1
      exact h1
  have HZ : Hid (a = 0 → Gf.inv a = 0) := hid (fun e => by rw [e, Gf.inv_zero])
  have HP : Hid (a ≠ 0 → Gf.mul a (Gf.inv a) = 1) := hid (fun e => Gf.mul_inv a (by omega) (by omega))
  have HI0 : Hid (a ≠ 0 → Gf.inv a ≠ 0) := hid (fun e h => by have := HP.out e; rw [h, Gf.mul_zero] at this; omega)
  go_enter Try.func17, Try.ntmps17
  go_wp2
  go_loop [3] (fun b => ∃ k : Nat, 0 < k ∧ k ≤ 256 ∧ b = .int .i64 k ∧ ∀ j, 0 < j → j < k → Gf.mul a j ≠ 1) (fun b => 256 - (intOf b).toNat)
  case atStart => exact ⟨1, by omega, by omega, rfl, fun j h1 h2 => by omega⟩
  case round =>
    obtain ⟨k, h0, hk, rfl, hn⟩ := hrel
    have HN := hid hn
    clear hn
    by_cases hlt : k < 256
    · have hmb := Gf.mul_bd a k
      by_cases h1 : Gf.mul a k = 1
      · have HE := hid (HU.out k h0 hlt h1)
        have h2 : ((Gf.mul a k : Int) == 1) = true := by rw [h1]; rfl
        clear h1
        go_wp2_with fail
        refine (refMul_c (a : Int) k _ (by omega) (by omega)).mono ?_
        rintro e w' ⟨rfl, rfl⟩
        simp only [Int.toNat_natCast]
        go_wp2
        go_ret
        exact ⟨by rw [← HE.out]; rfl, rfl⟩
      · have HS : Hid (∀ j, 0 < j → j < k + 1 → Gf.mul a j ≠ 1) := by
          refine hid fun j g1 g2 => ?_
          by_cases e : j = k
          · rw [e]; exact h1
          · exact HN.out j g1 (by omega)
        have h2 : ((Gf.mul a k : Int) == 1) = false := beq_eq_false_iff_ne.2 (by omega)
        clear h1
        go_wp2_with fail
        refine (refMul_c (a : Int) k _ (by omega) (by omega)).mono ?_
        rintro e w' ⟨rfl, rfl⟩
        simp only [Int.toNat_natCast]
        go_wp2
        go_round
        case rel => exact ⟨k + 1, by omega, by omega, by go_num, HS.out⟩
        case measure => simp [intOf]; omega
    · have HE : Hid (Gf.inv a = 0) := by
        refine hid ?_
        by_cases a0 : a = 0
        · exact HZ.out a0
        · exact absurd (HP.out a0) (HN.out _ (by have := HI0.out a0; omega) (by omega))
      go_wp2
      go_ret
      exact ⟨by rw [HE.out]; rfl, rfl⟩
end Go.Proofs.Ytoafabbdoejegaa
