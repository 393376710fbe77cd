/- The field with 256 elements as plain arithmetic on natural numbers: powers of 2, logarithms, products; that they are a field. No program stands here. -/
import Derived.RowKit
namespace Go.Proofs.Ytoafabbdoejegaa.Gf

/-- Twice a byte. -/
def step (x : Nat) : Nat := if 256 ≤ 2 * x then (2 * x) ^^^ 285 else 2 * x
/-- Powers of 2. -/
def xs : Nat → Nat
  | 0 => 1
  | n + 1 => step (xs n)
def tabGo : Nat → Nat → List Nat
  | 0, _ => []
  | n + 1, x => x :: tabGo n (step x)
/-- The place of a byte among the powers. -/
def lgN (a : Nat) : Nat := (tabGo 255 1).findIdx (· == a)
def lg (a : Nat) : Int := if a = 0 then -1 else (lgN a : Int)
def mul (a b : Nat) : Nat := if a = 0 ∨ b = 0 then 0 else xs (lgN a + lgN b)
def inv (a : Nat) : Nat := if a = 0 then 0 else xs (255 - lgN a)
def exp (n : Int) : Nat := xs (n % 255).toNat
def stepn : Nat → Nat → Nat
  | 0, x => x
  | n + 1, x => step (stepn n x)

theorem all_range {n : Nat} {p : Nat → Bool} (h : (List.range n).all p = true) (i : Nat) (hi : i < n) : p i = true := by
  rw [List.all_eq_true] at h
  exact h i (List.mem_range.2 hi)

theorem xs_255 : xs 255 = 1 := by decide +kernel
theorem xs_add_255 (n : Nat) : xs (n + 255) = xs n := by
  induction n with
  | zero => exact xs_255
  | succ n ih => show step (xs (n + 255)) = step (xs n); rw [ih]
theorem xs_mul (k n : Nat) : xs (n + 255 * k) = xs n := by
  induction k with
  | zero => rfl
  | succ k ih => rw [show n + 255 * (k + 1) = (n + 255 * k) + 255 by omega, xs_add_255, ih]
theorem xs_mod (n : Nat) : xs (n % 255) = xs n := by
  have h := xs_mul (n / 255) (n % 255)
  rw [show n % 255 + 255 * (n / 255) = n by omega] at h
  exact h.symm
theorem xs_bd0 : (List.range 255).all (fun n => decide (0 < xs n ∧ xs n < 256)) = true := by decide +kernel
theorem xs_bd (n : Nat) : 0 < xs n ∧ xs n < 256 := by
  have h := all_range xs_bd0 (n % 255) (Nat.mod_lt _ (by omega))
  rw [xs_mod] at h
  simpa using h
theorem lgN_xs0 : (List.range 255).all (fun n => lgN (xs n) == n) = true := by decide +kernel
theorem lgN_xs (n : Nat) : lgN (xs n) = n % 255 := by
  have h := all_range lgN_xs0 (n % 255) (Nat.mod_lt _ (by omega))
  rw [xs_mod] at h
  simpa using h
theorem xs_lgN0 : (List.range 255).all (fun n => decide (lgN (n + 1) < 255) && (xs (lgN (n + 1)) == n + 1)) = true := by decide +kernel
theorem lgN_lt (a : Nat) (h0 : 0 < a) (h : a < 256) : lgN a < 255 := by
  have h := all_range xs_lgN0 (a - 1) (by omega)
  rw [Nat.sub_add_cancel h0] at h
  simp at h; exact h.1
theorem xs_lgN (a : Nat) (h0 : 0 < a) (h : a < 256) : xs (lgN a) = a := by
  have h := all_range xs_lgN0 (a - 1) (by omega)
  rw [Nat.sub_add_cancel h0] at h
  simp at h; exact h.2
theorem lgN_one : lgN 1 = 0 := by decide +kernel
theorem lgN_two : lgN 2 = 1 := by decide +kernel

theorem mul_xs (i j : Nat) : mul (xs i) (xs j) = xs (i + j) := by
  have a := xs_bd i; have b := xs_bd j
  unfold mul
  rw [if_neg (by omega), lgN_xs, lgN_xs, ← xs_mod, ← xs_mod (i + j), ← Nat.add_mod]
theorem mul_zero (a : Nat) : mul a 0 = 0 := by simp [mul]
theorem zero_mul (a : Nat) : mul 0 a = 0 := by simp [mul]
theorem mul_bd (a b : Nat) : mul a b < 256 := by
  unfold mul; split
  · omega
  · exact (xs_bd _).2
theorem mul_pos (a b : Nat) (ha : 0 < a) (hb : 0 < b) : 0 < mul a b := by
  unfold mul; rw [if_neg (by omega)]; exact (xs_bd _).1
theorem mul_comm (a b : Nat) : mul a b = mul b a := by
  unfold mul; rw [Nat.add_comm]
  by_cases h : a = 0 ∨ b = 0
  · rw [if_pos h, if_pos (by omega)]
  · rw [if_neg h, if_neg (by omega)]
theorem mul_assoc (a b c : Nat) (ha : a < 256) (hb : b < 256) (hc : c < 256) : mul (mul a b) c = mul a (mul b c) := by
  by_cases a0 : a = 0
  · subst a0; simp [zero_mul]
  by_cases b0 : b = 0
  · subst b0; simp [zero_mul, mul_zero]
  by_cases c0 : c = 0
  · subst c0; simp [mul_zero]
  rw [← xs_lgN a (by omega) ha, ← xs_lgN b (by omega) hb, ← xs_lgN c (by omega) hc]
  simp only [mul_xs, Nat.add_assoc]
theorem mul_one (a : Nat) (ha : a < 256) : mul a 1 = a := by
  by_cases a0 : a = 0
  · subst a0; simp [zero_mul]
  · show mul a (xs 0) = a
    conv => lhs; arg 1; rw [← xs_lgN a (by omega) ha]
    rw [mul_xs, Nat.add_zero, xs_lgN a (by omega) ha]
theorem inv_bd (a : Nat) : inv a < 256 := by
  unfold inv; split
  · omega
  · exact (xs_bd _).2
theorem mul_inv (a : Nat) (h0 : 0 < a) (ha : a < 256) : mul a (inv a) = 1 := by
  have hl := lgN_lt a h0 ha
  have hi : inv a = xs (255 - lgN a) := by unfold inv; rw [if_neg (by omega)]
  rw [hi]
  conv => lhs; arg 1; rw [← xs_lgN a h0 ha]
  rw [mul_xs, show lgN a + (255 - lgN a) = 255 by omega, xs_255]
theorem inv_zero : inv 0 = 0 := by simp [inv]

theorem step_xor0 : (List.range 256).all (fun x => (List.range 256).all fun y => step (x ^^^ y) == step x ^^^ step y) = true := by decide +kernel
theorem step_xor (x y : Nat) (hx : x < 256) (hy : y < 256) : step (x ^^^ y) = step x ^^^ step y := by
  have h := all_range (all_range step_xor0 x hx) y hy
  simpa using h
theorem step_bd0 : (List.range 256).all (fun x => decide (step x < 256)) = true := by decide +kernel
theorem step_bd (x : Nat) (h : x < 256) : step x < 256 := by simpa using all_range step_bd0 x h
theorem xor_bd (x y : Nat) (hx : x < 256) (hy : y < 256) : x ^^^ y < 256 := Nat.xor_lt_two_pow (n := 8) hx hy
theorem stepn_bd (n x : Nat) (h : x < 256) : stepn n x < 256 := by
  induction n with
  | zero => exact h
  | succ n ih => exact step_bd _ ih
theorem stepn_xor (n x y : Nat) (hx : x < 256) (hy : y < 256) : stepn n (x ^^^ y) = stepn n x ^^^ stepn n y := by
  induction n with
  | zero => rfl
  | succ n ih => show step _ = step _ ^^^ step _; rw [ih, step_xor _ _ (stepn_bd _ _ hx) (stepn_bd _ _ hy)]
theorem stepn_xs (n j : Nat) : stepn n (xs j) = xs (n + j) := by
  induction n with
  | zero => show xs j = xs (0 + j); rw [Nat.zero_add]
  | succ n ih => show step _ = _; rw [ih, show n + 1 + j = (n + j) + 1 by omega]; rfl
theorem stepn_zero (n : Nat) : stepn n 0 = 0 := by
  induction n with
  | zero => rfl
  | succ n ih => show step _ = _; rw [ih]; rfl
theorem mul_stepn (a b : Nat) (h0 : 0 < a) (hb : b < 256) : mul a b = stepn (lgN a) b := by
  by_cases b0 : b = 0
  · subst b0; rw [mul_zero, stepn_zero]
  · conv => rhs; rw [← xs_lgN b (by omega) hb]
    rw [stepn_xs]; unfold mul; rw [if_neg (by omega)]
theorem mul_xor (a b c : Nat) (hb : b < 256) (hc : c < 256) : mul a (b ^^^ c) = mul a b ^^^ mul a c := by
  by_cases a0 : a = 0
  · subst a0; simp [zero_mul]
  · rw [mul_stepn a _ (by omega) (xor_bd b c hb hc), mul_stepn a b (by omega) hb, mul_stepn a c (by omega) hc, stepn_xor _ _ _ hb hc]
theorem xor_mul (a b c : Nat) (ha : a < 256) (hb : b < 256) : mul (a ^^^ b) c = mul a c ^^^ mul b c := by
  rw [mul_comm, mul_xor c a b ha hb, mul_comm c a, mul_comm c b]
theorem step_mul (x : Nat) (hx : x < 256) : step x = mul 2 x := by
  rw [mul_stepn 2 x (by omega) hx, lgN_two]; rfl
theorem mul_step (x z : Nat) (hx : x < 256) (hz : z < 256) : mul x (step z) = mul (step x) z := by
  rw [step_mul z hz, step_mul x hx, mul_comm 2 x, mul_assoc x 2 z hx (by omega) hz]

/-- One round of the document's product. -/
theorem mul_half (x y : Nat) (hx : x < 256) (hy : y < 256) : mul x y = (if y % 2 = 1 then x else 0) ^^^ mul (step x) (y / 2) := by
  have e : y = (y % 2) ^^^ step (y / 2) := by
    unfold step; rw [if_neg (by omega)]
    apply Nat.eq_of_testBit_eq; intro i
    rw [Nat.testBit_xor]
    cases i with
    | zero => simp [Nat.testBit_zero]
    | succ i => simp [Nat.testBit_succ, show y % 2 / 2 = 0 by omega]
  conv => lhs; rw [e]
  rw [mul_xor x _ _ (by omega) (step_bd _ (by omega)), mul_step x (y / 2) hx (by omega)]
  congr 1
  rcases Nat.mod_two_eq_zero_or_one y with h | h <;> rw [h]
  · simp [mul_zero]
  · simp [mul_one x hx]

theorem exp_nat (n : Nat) : exp (n : Int) = xs n := by
  unfold exp; rw [show ((n : Int) % 255).toNat = n % 255 by omega, xs_mod]
theorem exp_add (a b : Int) : mul (exp a) (exp b) = exp (a + b) := by
  unfold exp; rw [mul_xs, ← xs_mod]; congr 1; omega
theorem exp_255 (a : Int) : exp (a + 255) = exp a := by unfold exp; congr 1; omega
theorem exp_bd (a : Int) : 0 < exp a ∧ exp a < 256 := xs_bd _
theorem exp_one : exp 1 = 2 := by decide +kernel
theorem exp_zero : exp 0 = 1 := by decide +kernel
theorem exp_lg (a : Nat) (h0 : 0 < a) (ha : a < 256) : exp (lg a) = a := by
  unfold lg; rw [if_neg (by omega), exp_nat, xs_lgN a h0 ha]
theorem lg_bd (a : Nat) (h0 : 0 < a) (ha : a < 256) : 0 ≤ lg a ∧ lg a < 255 := by
  have := lgN_lt a h0 ha
  unfold lg; rw [if_neg (by omega)]; omega
theorem div_mul (a b : Nat) (ha : a < 256) (h0 : 0 < b) (hb : b < 256) : mul (mul a (inv b)) b = a := by
  rw [mul_assoc a _ b ha (inv_bd b) hb, mul_comm (inv b) b, mul_inv b h0 hb, mul_one a ha]
/-- A power is as many products. -/
def pw (a : Nat) : Nat → Nat
  | 0 => 1
  | n + 1 => mul (pw a n) a
theorem pw_bd (a n : Nat) : pw a n < 256 := by
  cases n with
  | zero => show 1 < 256; omega
  | succ n => exact mul_bd _ _
theorem pw_exp (a n : Nat) (h0 : 0 < a) (ha : a < 256) : pw a n = exp (lg a * n) := by
  induction n with
  | zero => simp [pw, exp_zero]
  | succ n ih =>
    show mul (pw a n) a = _
    conv => lhs; arg 2; rw [← exp_lg a h0 ha]
    rw [ih, exp_add]; congr 1; rw [Int.natCast_add, Int.mul_add]; simp
theorem pw_zero (n : Nat) : pw 0 n = if n = 0 then 1 else 0 := by
  cases n with
  | zero => rfl
  | succ n => simp [pw, mul_zero]
theorem exp_255_mul (k : Int) : exp (k * 255) = 1 := by
  unfold exp; rw [Int.mul_emod_left]; rfl
theorem exp_neg (a : Nat) (h0 : 0 < a) (ha : a < 256) : mul (exp (- lg a)) a = 1 := by
  conv => lhs; arg 2; rw [← exp_lg a h0 ha]
  rw [exp_add, Int.add_left_neg, exp_zero]
end Go.Proofs.Ytoafabbdoejegaa.Gf
