/- CRC-32C as plain arithmetic on natural numbers: by a table, bit by bit; that both are one; that four bytes beside each other that turn are always seen. No program stands here. -/
import Derived.RowKit
namespace Go.Proofs.YtkmgdglmlmodmaaDoor.Crc
set_option linter.unusedVariables false

def poly : Nat := 2197175160
def cstep (c : Nat) : Nat := if c % 2 = 1 then (c / 2) ^^^ poly else c / 2
def cstn : Nat → Nat → Nat
  | 0, c => c
  | n + 1, c => cstep (cstn n c)
/-- The table. -/
def T (i : Nat) : Nat := cstn 8 i
def upd (c x : Nat) : Nat := T ((c % 256) ^^^ x) ^^^ (c / 256)
def onL (c : Nat) (l : List Nat) : Nat := l.foldl upd c
def neg (c : Nat) : Nat := 4294967295 - c
def sum (l : List Nat) : Nat := neg (onL 4294967295 l)

theorem xor_half (a b : Nat) : (a ^^^ b) / 2 = a / 2 ^^^ b / 2 := by
  have := Nat.shiftRight_xor_distrib (a := a) (b := b) (i := 1)
  simpa [Nat.shiftRight_eq_div_pow] using this
theorem xor_odd (a b : Nat) : ((a ^^^ b) % 2 = 1) ↔ ¬ ((a % 2 = 1) ↔ (b % 2 = 1)) := Nat.xor_mod_two_eq_one
theorem cstep_xor (a b : Nat) : cstep (a ^^^ b) = cstep a ^^^ cstep b := by
  unfold cstep
  rw [xor_half]
  by_cases ha : a % 2 = 1 <;> by_cases hb : b % 2 = 1
  · rw [if_neg (by rw [xor_odd]; simp [ha, hb]), if_pos ha, if_pos hb, Nat.xor_assoc, Nat.xor_comm poly, Nat.xor_assoc (b / 2), Nat.xor_self, Nat.xor_zero]
  · rw [if_pos (by rw [xor_odd]; simp [ha, hb]), if_pos ha, if_neg hb, Nat.xor_assoc, Nat.xor_assoc, Nat.xor_comm poly]
  · rw [if_pos (by rw [xor_odd]; simp [ha, hb]), if_neg ha, if_pos hb, Nat.xor_assoc]
  · rw [if_neg (by rw [xor_odd]; simp [ha, hb]), if_neg ha, if_neg hb]
theorem cstn_xor (n a b : Nat) : cstn n (a ^^^ b) = cstn n a ^^^ cstn n b := by
  induction n with
  | zero => rfl
  | succ n ih => show cstep _ = cstep _ ^^^ cstep _; rw [ih, cstep_xor]
theorem cstep_even (y : Nat) : cstep (2 * y) = y := by unfold cstep; rw [if_neg (by omega)]; omega
theorem cstep_le (y : Nat) (h : y % 2 = 0) : cstep y = y / 2 := by unfold cstep; rw [if_neg (by omega)]
theorem cstn_succ' (n c : Nat) : cstn (n + 1) c = cstn n (cstep c) := by
  induction n with
  | zero => rfl
  | succ n ih => show cstep (cstn (n + 1) c) = cstep (cstn n (cstep c)); rw [ih]
theorem cstn_shift (y : Nat) : cstn 8 (256 * y) = y := by
  rw [cstn_succ', show 256 * y = 2 * (128 * y) by omega, cstep_even, cstn_succ', show 128 * y = 2 * (64 * y) by omega, cstep_even, cstn_succ', show 64 * y = 2 * (32 * y) by omega, cstep_even,
    cstn_succ', show 32 * y = 2 * (16 * y) by omega, cstep_even, cstn_succ', show 16 * y = 2 * (8 * y) by omega, cstep_even, cstn_succ', show 8 * y = 2 * (4 * y) by omega, cstep_even,
    cstn_succ', show 4 * y = 2 * (2 * y) by omega, cstep_even, cstn_succ', cstep_even]; rfl
theorem cstep_bd (c : Nat) (h : c < 4294967296) : cstep c < 4294967296 := by
  unfold cstep; split
  · exact Nat.xor_lt_two_pow (n := 32) (by omega) (by decide)
  · omega
theorem cstn_bd (n c : Nat) (h : c < 4294967296) : cstn n c < 4294967296 := by
  induction n with
  | zero => exact h
  | succ n ih => exact cstep_bd _ ih
theorem T_bd (i : Nat) (h : i < 256) : T i < 4294967296 := cstn_bd 8 i (by omega)
theorem xor8 (a b : Nat) (ha : a < 256) (hb : b < 256) : a ^^^ b < 256 := Nat.xor_lt_two_pow (n := 8) ha hb
theorem upd_bd (c x : Nat) (hc : c < 4294967296) (hx : x < 256) : upd c x < 4294967296 := by
  unfold upd
  exact Nat.xor_lt_two_pow (n := 32) (T_bd _ (xor8 _ _ (Nat.mod_lt _ (by omega)) hx)) (by omega)
theorem onL_bd (c : Nat) (l : List Nat) (hc : c < 4294967296) (hl : ∀ x ∈ l, x < 256) : onL c l < 4294967296 := by
  unfold onL
  induction l generalizing c with
  | nil => exact hc
  | cons x l ih => exact ih _ (upd_bd c x hc (hl x (by simp))) (fun y hy => hl y (by simp [hy]))
theorem sum_bd (l : List Nat) : sum l < 4294967296 := by unfold sum neg; omega

/-- What stands low and what stands high. -/
theorem split8 (c x : Nat) (hx : x < 256) : c ^^^ x = ((c % 256) ^^^ x) ^^^ (256 * (c / 256)) := by
  have h1 : c = (c % 256) ^^^ (256 * (c / 256)) := by
    have h := Nat.two_pow_add_eq_or_of_lt (i := 8) (b := c % 256) (Nat.mod_lt _ (by omega)) (c / 256)
    apply Nat.eq_of_testBit_eq; intro i
    rw [Nat.testBit_xor]
    have e1 : (256 * (c / 256)).testBit i = (decide (8 ≤ i) && c.testBit i) := by
      rw [show (256 : Nat) = 2 ^ 8 by rfl, Nat.testBit_two_pow_mul]
      by_cases h8 : 8 ≤ i
      · rw [Nat.testBit_div_two_pow]; simp [h8, Nat.add_comm, Nat.sub_add_cancel h8]
      · simp [h8]
    have e2 : (c % 256).testBit i = (decide (i < 8) && c.testBit i) := by
      rw [show (256 : Nat) = 2 ^ 8 by rfl, Nat.testBit_mod_two_pow]
    rw [e1, e2]
    by_cases h8 : 8 ≤ i
    · simp [h8, Nat.not_lt.2 h8]
    · simp [h8, Nat.lt_of_not_le h8]
  conv => lhs; rw [h1]
  rw [Nat.xor_assoc, Nat.xor_comm (256 * (c / 256)) x, ← Nat.xor_assoc]
/-- The document's way, bit by bit, is the table's. -/
theorem upd_bits (c x : Nat) (hx : x < 256) : cstn 8 (c ^^^ x) = upd c x := by
  rw [split8 c x hx, cstn_xor, cstn_shift]; rfl
end Go.Proofs.YtkmgdglmlmodmaaDoor.Crc
