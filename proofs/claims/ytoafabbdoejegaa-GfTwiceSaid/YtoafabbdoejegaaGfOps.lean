/- What the methods of a field tell: products, inverses, powers, logarithms; the document's own product and inverse; Within. -/
import Derived.Test.YtoafabbdoejegaaGfMake
namespace Go.Proofs.Ytoafabbdoejegaa
set_option linter.unusedVariables false
open Go.RowKit Gf

theorem Gf.FieldAt.ext {w w' : World} {b : Nat} (h : FieldAt w b) (e : Ext w w') : FieldAt w' b := e.at h
theorem Gf.FieldAt.e {w : World} {b : Nat} (h : FieldAt w b) (j : Nat) (hj : j < 510) : w.cell? ⟨b, j, none⟩ = some (.int .u8 (xs j)) := by
  rw [cell_at h, tb_get 255 j (by omega)]
  simp only [cellAt]; rw [if_pos hj, if_pos (Nat.mod_lt _ (by omega)), xs_mod]
theorem Gf.FieldAt.l {w : World} {b : Nat} (h : FieldAt w b) (a : Nat) (ha : a < 256) : w.cell? ⟨b, 510 + a, none⟩ = some (.int .i64 (lg a)) := by
  rw [cell_at h, tb_get 255 (510 + a) (by omega)]
  simp only [cellAt]; rw [if_neg (by omega)]
  unfold lg
  by_cases h0 : a = 0
  · subst h0; rfl
  · rw [if_neg (by omega), Nat.add_sub_cancel_left, if_pos (lgN_lt a (by omega) ha), if_neg h0]

set_option maxHeartbeats 400000 in
theorem mul_q (b : Nat) (X Y : Int) (w : World) (hf : FieldAt w b) (hx : 0 ≤ X ∧ X < 256) (hy : 0 ≤ Y ∧ Y < 256) :
    Calls Try.prog 11 #[.pointer (some ⟨b, 0, none⟩), .int .u8 X, .int .u8 Y] w fun e w' => e = .returned (.int .u8 (Gf.mul X.toNat Y.toNat : Nat)) ∧ ∃ m, w' = w.drewN m := by
  obtain ⟨x, rfl⟩ := Int.eq_ofNat_of_zero_le hx.1
  obtain ⟨y, rfl⟩ := Int.eq_ofNat_of_zero_le hy.1
  have hx := hx.2
  have hy := hy.2
  rw [Int.toNat_natCast, Int.toNat_natCast]
  by_cases h0 : x = 0
  · subst h0
    go_enter Try.func11, Try.ntmps11
    go_wp2
    go_ret
    exact ⟨by rw [Gf.zero_mul]; rfl, 0, rfl⟩
  · have c1 : ((x:Int) == 0) = false := by simpa using h0
    by_cases h1 : y = 0
    · have hm : Gf.mul x y = 0 := by simp [Gf.mul, h1]
      rw [hm]
      have c2 : ((y:Int) == 0) = true := by simpa using h1
      clear h0 h1 hm
      go_enter Try.func11, Try.ntmps11
      go_wp2
      go_ret
      exact ⟨rfl, 0, rfl⟩
    · have l1 := hf.l x (by omega)
      have l2 := hf.l y (by omega)
      have b1 := lg_bd x (by omega) (by omega)
      have b2 := lg_bd y (by omega) (by omega)
      have e := hf.e ((lg x + lg y).toNat) (by omega)
      have hm : Gf.mul x y = xs ((lg x + lg y).toNat) := by
        unfold Gf.mul lg; rw [if_neg (by omega), if_neg h0, if_neg h1]; congr 1
      rw [hm]
      have c2 : ((y:Int) == 0) = false := by simpa using h1
      clear h0 h1 hf hm
      generalize lg x = p at *
      generalize lg y = q at *
      go_enter Try.func11, Try.ntmps11
      go_wp2
      go_quiet (fail)
      go_wp2
      go_ret
      exact ⟨rfl, _, rfl⟩
theorem mul_c (b : Nat) (X Y : Int) (w : World) (hf : FieldAt w b) (hx : 0 ≤ X ∧ X < 256) (hy : 0 ≤ Y ∧ Y < 256) :
    Calls Try.prog 11 #[.pointer (some ⟨b, 0, none⟩), .int .u8 X, .int .u8 Y] w fun e w' => e = .returned (.int .u8 (Gf.mul X.toNat Y.toNat : Nat)) ∧ Ext w w' :=
  (mul_q b X Y w hf hx hy).mono fun _ _ ⟨he, m, hm⟩ => ⟨he, by rw [hm]; exact (Ext.refl w).drewN _⟩

set_option maxHeartbeats 400000 in
theorem inv_c (b : Nat) (X : Int) (w : World) (hf : FieldAt w b) (hx : 0 ≤ X ∧ X < 256) :
    Calls Try.prog 12 #[.pointer (some ⟨b, 0, none⟩), .int .u8 X] w fun e w' => e = .returned (.int .u8 (Gf.inv X.toNat : Nat)) ∧ Ext w w' := by
  obtain ⟨x, rfl⟩ := Int.eq_ofNat_of_zero_le hx.1
  have hx := hx.2
  rw [Int.toNat_natCast]
  by_cases h0 : x = 0
  · subst h0
    go_enter Try.func12, Try.ntmps12
    go_wp2
    go_ret
    exact ⟨by rw [Gf.inv_zero]; rfl, Ext.refl _⟩
  · have c1 : ((x:Int) == 0) = false := by simpa using h0
    have l1 := hf.l x (by omega)
    have b1 := lg_bd x (by omega) (by omega)
    have e := hf.e ((255 - lg x).toNat) (by omega)
    have hm : Gf.inv x = xs ((255 - lg x).toNat) := by
      unfold Gf.inv lg; rw [if_neg (by omega), if_neg h0]; congr 1; omega
    rw [hm]
    clear h0 hf hm
    generalize lg x = p at *
    go_enter Try.func12, Try.ntmps12
    go_wp2
    go_quiet (fail)
    go_wp2
    go_ret
    exact ⟨rfl, (Ext.refl w).drewN _⟩

set_option maxHeartbeats 400000 in
theorem div_c (b : Nat) (X Y : Int) (w : World) (hf : FieldAt w b) (hx : 0 ≤ X ∧ X < 256) (hy : 0 ≤ Y ∧ Y < 256) :
    Calls Try.prog 18 #[.pointer (some ⟨b, 0, none⟩), .int .u8 X, .int .u8 Y] w fun e w' => e = .returned (.int .u8 (Gf.mul X.toNat (Gf.inv Y.toNat) : Nat)) ∧ Ext w w' := by
  go_enter Try.func18, Try.ntmps18
  go_wp2_with fail
  refine (inv_c b Y w hf hy).mono ?_
  rintro e w1 ⟨rfl, x1⟩
  have hb := Gf.inv_bd Y.toNat
  go_wp2_with fail
  refine (mul_c b X _ w1 (hf.ext x1) hx (by omega)).mono ?_
  rintro e w2 ⟨rfl, x2⟩
  rw [Int.toNat_natCast]
  go_wp2
  go_ret
  exact ⟨rfl, x1.trans x2⟩

set_option maxHeartbeats 400000 in
theorem log_c (b : Nat) (X : Int) (w : World) (hf : FieldAt w b) (hx : 0 ≤ X ∧ X < 256) :
    Calls Try.prog 14 #[.pointer (some ⟨b, 0, none⟩), .int .u8 X] w fun e w' => e = .returned (.int .i64 (lg X.toNat)) ∧ Ext w w' := by
  obtain ⟨x, rfl⟩ := Int.eq_ofNat_of_zero_le hx.1
  have hx := hx.2
  rw [Int.toNat_natCast]
  have l1 := hf.l x (by omega)
  go_enter Try.func14, Try.ntmps14
  go_wp2
  go_ret
  exact ⟨rfl, Ext.refl _⟩

set_option maxHeartbeats 400000 in
theorem exp_c (b : Nat) (n : Int) (w : World) (hf : FieldAt w b) (h1 : -1000000 ≤ n) (h2 : n ≤ 1000000) :
    Calls Try.prog 13 #[.pointer (some ⟨b, 0, none⟩), .int .i64 n] w fun e w' => e = .returned (.int .u8 (Gf.exp n : Nat)) ∧ Ext w w' := by
  have e := hf.e ((n % 255).toNat) (by omega)
  have hm : Gf.exp n = xs ((n % 255).toNat) := rfl
  have hb := tmod_bd n 255 (by omega)
  have ht : n.tmod 255 % 255 = n % 255 := by
    rcases tmod_cases n 255 (by omega) with ⟨_, h⟩ | ⟨_, h⟩ <;> rw [h] <;> omega
  rw [hm]
  rw [← ht] at e ⊢
  clear ht hm
  go_enter Try.func13, Try.ntmps13
  go_wp2
  go_ret
  exact ⟨rfl, Ext.refl _⟩
end Go.Proofs.Ytoafabbdoejegaa
