/- Texts of one proof, joined: TapeSome, NestRow. -/
import Derived.Test.YtbdfjiedceaoiaaGreatPBB
import Derived.Test.YtbdfjiedceaoiaaGreatPJ
import Derived.Test.YtbdfjiedceaoiaaGreatPO
import Derived.Test.YtbdfjiedceaoiaaGreatPA
import Derived.Deep.Matrix
set_option linter.unusedVariables false
set_option linter.unusedSimpArgs false
namespace Go.Proofs.YtbdfjiedceaoiaaGreat
set_option linter.unusedVariables false
open Go Go.RowKit
attribute [local irreducible] wpSQ
def NestAt (w : World) (a : Option Addr) (len : Nat) (Z : Nat → List Nat) : Prop := ∀ r, r < len → ∃ g off p C, a = some ⟨g, off, none⟩ ∧ w.cell? ⟨g, off + r, none⟩ = some (.slice p (Z r).length C) ∧ (Z r).length ≤ C ∧ C ≤ 9223372036854775807 ∧ (p = none → C = 0) ∧ ∀ n, n ≤ (Z r).length → n ≤ 140737488355328 → BytesAt w p n ((Z r).take n)
theorem NestAt.ext {w w' : World} {a : Option Addr} {len : Nat} {Z : Nat → List Nat} (h : NestAt w a len Z) (e : Ext w w') : NestAt w' a len Z := fun r hr => by
 obtain ⟨g, off, p, C, h1, h2, h3, h4, h5, h6⟩ := h r hr
 exact ⟨g, off, p, C, h1, e.cell h2, h3, h4, h5, fun n hn hs => (h6 n hn hs).ext e⟩
theorem cell_lt {w : World} {b o : Nat} {v : Value} (h : w.cell? ⟨b, o, none⟩ = some v) : b < w.heap.size := by
 unfold World.cell? at h
 rcases Nat.lt_or_ge b w.heap.size with q | q
 ·
  exact q
 ·
  rw [Array.getElem?_eq_none q] at h; cases h
def someL (Z : Nat → List Nat) (most n : Nat) : List (List Nat) := (List.range n).map fun r => (Z r).take most
theorem someL_succ (Z : Nat → List Nat) (most n : Nat) : someL Z most n ++ [(Z n).take most] = someL Z most (n + 1) := by unfold someL; rw [List.range_succ, List.map_append]; rfl
theorem someL_len (Z : Nat → List Nat) (most n : Nat) : (someL Z most n).length = n := by simp [someL]
def SomePost (w : World) (es : List (List Nat)) (e : Ending) (w' : World) : Prop := ∃ v bk cp, e = .returned v ∧ EOwn w' w.heap.size v es bk cp ∧ Ext w w'
theorem take_min {l : List Nat} {m n : Nat} (h : n = min l.length m) : l.take n = l.take m := by
 rcases Nat.le_total l.length m with q | q
 ·
  rw [h, Nat.min_eq_left q, List.take_length, List.take_of_length_le q]
 ·
  rw [h, Nat.min_eq_right q]
end Go.Proofs.YtbdfjiedceaoiaaGreat
namespace Go.Proofs.YtbdfjiedceaoiaaGreat
set_option linter.unusedVariables false
open Go Go.RowKit
theorem rowB_len {z : List Int} {n : Nat} (h : n ≤ z.length) : (rowB z n).length = n := by simp [rowB]; omega
theorem rowB_take (z : List Int) {n m : Nat} (h : n ≤ m) : (rowB z m).take n = rowB z n := by
 unfold rowB
 rw [← List.map_take, List.take_take, Nat.min_eq_left h]
theorem nest_of {w : World} {base : Nat} {a : Addr} {len cap : Nat} {A : Nat → Option Addr} {L C : Nat → Nat} {Z : Nat → List Int} (hl : len ≤ cap)
  (h : ∀ r, r < cap → w.cell? (a.add r) = some (.slice (A r) (L r) (C r)) ∧ L r ≤ C r ∧ C r ≤ maxLen ∧ (Z r).length = C r ∧ (∀ n ∈ Z r, (Lit.int .u8 n).wf = true) ∧ (A r = none → C r = 0) ∧ ∀ a', A r = some a' → base ≤ a'.block ∧ ∀ c, c < C r → w.cell? (a'.add c) = some (.int .u8 ((Z r).getD c 0))) :
  NestAt w (some a) len fun r => rowB (Z r) (L r) := fun r hr => by
 obtain ⟨h1, h2, h3, h4, h5, h6, h7⟩ := h r (by omega)
 have hrl : (rowB (Z r) (L r)).length = L r := rowB_len (by omega)
 have hrow : IsRow .u8 w (A r) (L r) (C r) (Z r) := by
  rcases e : A r with _ | x
  ·
   have h0 := h6 e
   exact .inl ⟨rfl, by omega, h0, List.length_eq_zero_iff.1 (by omega)⟩
  ·
   exact .inr ⟨x, rfl, h2, h3, h4, fun i hi => (h7 x e).2 i (by omega), h5⟩
 obtain ⟨b, off, sp⟩ := a
 rcases sp with _ | sp
 ·
  have e : (⟨b, off, none⟩ : Addr).add r = ⟨b, off + r, none⟩ := by unfold Addr.add; split <;> simp_all
  rw [e] at h1
  refine ⟨b, off, A r, C r, rfl, by rw [hrl]; exact h1, by rw [hrl]; exact h2, by unfold maxLen at h3; omega, h6, fun n hn hs => ?_⟩
  rw [hrl] at hn
  rw [rowB_take _ hn]
  exact hrow.bytes n hn hs
 ·
  exfalso
  have h0 := (h 0 (by omega)).1
  unfold World.cell? Addr.add at h0
  split at h0 <;> simp_all
theorem NestAt.nil (w : World) (a : Option Addr) (Z : Nat → List Nat) : NestAt w a 0 Z := fun r hr => by omega
end Go.Proofs.YtbdfjiedceaoiaaGreat
