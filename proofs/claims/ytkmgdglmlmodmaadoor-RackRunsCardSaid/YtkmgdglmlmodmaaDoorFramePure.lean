/- Frames as plain data: the bytes of one, and which one bytes are. No program stands here. -/
import Derived.Test.YtkmgdglmlmodmaaDoorCrcPure
import Derived.WalkKit
namespace Go.Proofs.YtkmgdglmlmodmaaDoor
set_option linter.unusedVariables false

open Go Go.RowKit
structure Frm where
  kind : Int
  slot : Int
  stripe : Int
  gen : Int
  data : List Nat
namespace Frm
def zero : Frm := ⟨0, 0, 0, 0, List.replicate 108 0⟩
/-- It is one: so many bytes. -/
structure Ok (f : Frm) : Prop where
  len : f.data.length = 108
  byte : ∀ x ∈ f.data, x < 256
def isIn (n lo hi : Int) : Bool := decide (lo ≤ n) && decide (n ≤ hi)
def right (f : Frm) : Bool := isIn f.kind 1 3 && isIn f.slot 0 7 && isIn f.stripe 0 63 && isIn f.gen 0 1152921504606846976
/-- The lowest bytes of a number, the lowest first. -/
def low (n v : Nat) : List Nat := (List.range n).map fun i => v / 2 ^ (8 * i) % 256
/-- The number of bytes. -/
def num : List Nat → Nat
  | [] => 0
  | x :: l => x + 256 * num l
def numI (l : List Nat) : Int := wrap64 (num l)
def body (f : Frm) : List Nat := [83, 84, f.kind.toNat, f.slot.toNat] ++ (low 4 f.stripe.toNat ++ (low 8 f.gen.toNat ++ f.data))
def bytes (f : Frm) : List Nat := body f ++ low 4 (Crc.sum (body f))
def put (f : Frm) : List Nat := if f.right then f.bytes else []
def parse (l : List Nat) : Frm := ⟨(l.getD 2 0 : Nat), (l.getD 3 0 : Nat), numI ((l.drop 4).take 4), numI ((l.drop 8).take 8), (l.drop 16).take 108⟩
def get (l : List Nat) : Option Frm := if l.length = 128 ∧ put (parse l) = l then some (parse l) else none

theorem low_len (n v : Nat) : (low n v).length = n := by simp [low]
theorem low_byte (n v : Nat) : ∀ x ∈ low n v, x < 256 := by
  intro x hx
  obtain ⟨i, _, rfl⟩ := List.mem_map.1 hx
  exact Nat.mod_lt _ (by omega)
theorem low_succ (n v : Nat) : low (n + 1) v = v % 256 :: low n (v / 256) := by
  unfold low
  rw [List.range_succ_eq_map, List.map_cons, List.map_map]
  congr 1
  · simp
  · apply List.map_congr_left
    intro i _
    show v / 2 ^ (8 * (i + 1)) % 256 = v / 256 / 2 ^ (8 * i) % 256
    rw [Nat.div_div_eq_div_mul, show (2 : Nat) ^ (8 * (i + 1)) = 256 * 2 ^ (8 * i) by rw [show 8 * (i + 1) = 8 + 8 * i by omega, Nat.pow_add]]
theorem num_low (n v : Nat) : num (low n v) = v % 256 ^ n := by
  induction n generalizing v with
  | zero => simp [low, num, Nat.mod_one]
  | succ n ih =>
    rw [low_succ]
    show v % 256 + 256 * num (low n (v / 256)) = _
    rw [ih, Nat.pow_succ, Nat.mul_comm (256 ^ n) 256, Nat.mod_mul]
theorem num_snoc (l : List Nat) (x : Nat) : num (l ++ [x]) = num l + x * 256 ^ l.length := by
  induction l with
  | nil => simp [num]
  | cons y l ih =>
    show y + 256 * num (l ++ [x]) = y + 256 * num l + x * 256 ^ (l.length + 1)
    rw [ih, Nat.pow_succ, Nat.mul_add, Nat.add_assoc, ← Nat.mul_assoc x, Nat.mul_comm (x * 256 ^ l.length) 256]
theorem num_bd (l : List Nat) (h : ∀ x ∈ l, x < 256) : num l < 256 ^ l.length := by
  induction l with
  | nil => simp [num]
  | cons x l ih =>
    have h1 := h x (by simp)
    have h2 := ih (fun y hy => h y (by simp [hy]))
    show x + 256 * num l < 256 ^ (l.length + 1)
    rw [Nat.pow_succ]; omega
theorem low_num (l : List Nat) (h : ∀ x ∈ l, x < 256) : low l.length (num l) = l := by
  induction l with
  | nil => rfl
  | cons x l ih =>
    have h1 := h x (by simp)
    rw [List.length_cons, low_succ]
    show (x + 256 * num l) % 256 :: low l.length ((x + 256 * num l) / 256) = x :: l
    rw [show (x + 256 * num l) % 256 = x by omega, show (x + 256 * num l) / 256 = num l by omega, ih (fun y hy => h y (by simp [hy]))]
theorem body_len (f : Frm) (h : f.Ok) : (body f).length = 124 := by
  simp [body, low_len, h.len]
theorem bytes_len (f : Frm) (h : f.Ok) : (bytes f).length = 128 := by
  rw [bytes, List.length_append, body_len f h, low_len]
theorem right_spec {f : Frm} (h : f.right = true) : 1 ≤ f.kind ∧ f.kind ≤ 3 ∧ 0 ≤ f.slot ∧ f.slot ≤ 7 ∧ 0 ≤ f.stripe ∧ f.stripe ≤ 63 ∧ 0 ≤ f.gen ∧ f.gen ≤ 1152921504606846976 := by
  simp only [right, isIn, Bool.and_eq_true, decide_eq_true_eq] at h
  omega
theorem body_byte (f : Frm) (h : f.Ok) (hr : f.right = true) : ∀ x ∈ body f, x < 256 := by
  have := right_spec hr
  intro x hx
  simp only [body, List.mem_append, List.mem_cons, List.not_mem_nil, or_false] at hx
  rcases hx with (rfl | rfl | rfl | rfl) | hx | hx | hx
  · omega
  · omega
  · omega
  · omega
  · exact low_byte _ _ _ hx
  · exact low_byte _ _ _ hx
  · exact h.byte _ hx
theorem bytes_byte (f : Frm) (h : f.Ok) (hr : f.right = true) : ∀ x ∈ bytes f, x < 256 := by
  intro x hx
  rcases List.mem_append.1 hx with hx | hx
  · exact body_byte f h hr x hx
  · exact low_byte _ _ _ hx
theorem parse_bytes (f : Frm) (h : f.Ok) (hr : f.right = true) : parse (bytes f) = f := by
  have hs := right_spec hr
  obtain ⟨k, s, st, g, d⟩ := f
  simp only at hs
  have hlen := h.len
  simp only at hlen
  have e4 : (low 4 st.toNat).length = 4 := low_len _ _
  have e8 : (low 8 g.toNat).length = 8 := low_len _ _
  have q1 : numI (low 4 st.toNat) = st := by
    unfold numI
    rw [num_low, Nat.mod_eq_of_lt (by omega)]
    unfold wrap64; omega
  have q2 : numI (low 8 g.toNat) = g := by
    unfold numI
    rw [num_low, Nat.mod_eq_of_lt (by omega)]
    unfold wrap64; omega
  unfold parse bytes body
  simp only [List.cons_append, List.nil_append, List.append_assoc]
  have r1 : ((k.toNat : Nat) : Int) = k := by omega
  have r2 : ((s.toNat : Nat) : Int) = s := by omega
  generalize Crc.sum _ = c
  have r3 : numI ((low 4 st.toNat ++ (low 8 g.toNat ++ (d ++ low 4 c))).take 4) = st := by
    rw [List.take_append_of_le_length (by omega), List.take_of_length_le (by omega), q1]
  have r4 : numI (((low 4 st.toNat ++ (low 8 g.toNat ++ (d ++ low 4 c))).drop 4).take 8) = g := by
    rw [List.drop_append_of_le_length (by omega), List.drop_of_length_le (by omega), List.nil_append, List.take_append_of_le_length (by omega), List.take_of_length_le (by omega), q2]
  have r5 : ((low 4 st.toNat ++ (low 8 g.toNat ++ (d ++ low 4 c))).drop 12).take 108 = d := by
    rw [← List.append_assoc, List.drop_append_of_le_length (by simp [e4, e8]), List.drop_of_length_le (by simp [e4, e8]), List.nil_append, List.take_append_of_le_length (by omega), List.take_of_length_le (by omega)]
  show Frm.mk ((k.toNat : Nat) : Int) ((s.toNat : Nat) : Int) (numI ((low 4 st.toNat ++ (low 8 g.toNat ++ (d ++ low 4 c))).take 4)) (numI (((low 4 st.toNat ++ (low 8 g.toNat ++ (d ++ low 4 c))).drop 4).take 8)) (((low 4 st.toNat ++ (low 8 g.toNat ++ (d ++ low 4 c))).drop 12).take 108) = _
  rw [r1, r2, r3, r4, r5]
theorem get_bytes (f : Frm) (h : f.Ok) (hr : f.right = true) : get (bytes f) = some f := by
  unfold get
  rw [parse_bytes f h hr, if_pos ⟨bytes_len f h, by unfold put; rw [if_pos hr]⟩]
theorem get_some {l : List Nat} {f : Frm} (h : get l = some f) : f.right = true ∧ l = bytes f ∧ l.length = 128 := by
  unfold get at h
  split at h
  · rename_i hc
    cases h
    obtain ⟨h1, h2⟩ := hc
    by_cases hr : (parse l).right = true
    · exact ⟨hr, by rw [put, if_pos hr] at h2; exact h2.symm, h1⟩
    · rw [put, if_neg hr] at h2; rw [← h2] at h1; cases h1
  · cases h
end Frm
end Go.Proofs.YtkmgdglmlmodmaaDoor
