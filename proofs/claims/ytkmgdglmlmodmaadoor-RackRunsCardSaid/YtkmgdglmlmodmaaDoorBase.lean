/- Words on memory that all walks share: what a call may change ('Only', 'Ext'), and small laws on blocks. No program stands here. -/
import Derived.WalkKit
import Derived.ProofKit
import Derived.Below
import Derived.Deep.Draws
namespace Go.Proofs.YtkmgdglmlmodmaaDoor
set_option linter.unusedVariables false
open Go.RowKit

/-- Of the blocks that were there at most those in F are other than they were; the streams are as they were. -/
structure Only (F : Nat → Prop) (w w' : World) : Prop where
  os : w'.os = w.os
  tape : w'.tape = w.tape
  output : w'.output = w.output
  size : w.heap.size ≤ w'.heap.size
  block : ∀ k, k < w.heap.size → ¬ F k → w'.heap[k]? = w.heap[k]?

/-- No block that was there is other than it was. -/
abbrev Ext (w w' : World) : Prop := Only (fun _ => False) w w'

theorem Only.refl (F : Nat → Prop) (w : World) : Only F w w := ⟨rfl, rfl, rfl, Nat.le_refl _, fun _ _ _ => rfl⟩
theorem Only.trans {F G : Nat → Prop} {a b c : World} (h : Only F a b) (k : Only G b c) (hg : ∀ i, i < a.heap.size → G i → F i) : Only F a c :=
  ⟨k.os.trans h.os, k.tape.trans h.tape, k.output.trans h.output, Nat.le_trans h.size k.size,
    fun i hi hn => (k.block i (Nat.lt_of_lt_of_le hi h.size) (fun x => hn (hg i hi x))).trans (h.block i hi hn)⟩
theorem Only.mono {F G : Nat → Prop} {a b : World} (h : Only F a b) (hg : ∀ i, i < a.heap.size → F i → G i) : Only G a b :=
  ⟨h.os, h.tape, h.output, h.size, fun i hi hn => h.block i hi (fun x => hn (hg i hi x))⟩
theorem Only.ext {F : Nat → Prop} {a b c : World} (h : Only F a b) (k : Ext b c) : Only F a c := h.trans k (fun _ _ x => x.elim)
theorem Ext.only {F : Nat → Prop} {a b : World} (h : Ext a b) : Only F a b := h.mono (fun _ _ x => x.elim)
theorem Ext.trans {a b c : World} (h : Ext a b) (k : Ext b c) : Ext a c := Only.ext h k
theorem Ext.refl (w : World) : Ext w w := Only.refl _ w
/-- What a call wrote into blocks that are new, seen from the world before them. -/
theorem Ext.then {F : Nat → Prop} {a b c : World} (h : Ext a b) (k : Only F b c) (hg : ∀ i, i < a.heap.size → ¬ F i) : Ext a c := Only.trans h k (fun i hi x => hg i hi x)
theorem Ext.below {a b : World} (h : Ext a b) : Below a.heap.size a b := ⟨h.os, h.tape, h.output, h.size, fun k hk => h.block k hk (fun x => x)⟩
theorem Ext.of_below {a b : World} (h : Below a.heap.size a b) : Ext a b := ⟨h.os, h.tape, h.output, h.size, fun k hk _ => h.block k hk⟩
theorem Only.drewN {F : Nat → Prop} {a b : World} (h : Only F a b) (n : Nat) : Only F a (b.drewN n) := ⟨h.os, h.tape, h.output, h.size, h.block⟩
theorem Only.drew {F : Nat → Prop} {a b : World} (h : Only F a b) : Only F a b.drew := ⟨h.os, h.tape, h.output, h.size, h.block⟩
theorem Only.alloc {F : Nat → Prop} {a b : World} (h : Only F a b) (o : Obj) : Only F a (b.alloc o) :=
  Only.ext h ⟨rfl, rfl, rfl, by simp, fun k hk _ => Below.heap_alloc _ _ _ (by omega)⟩
theorem Only.setCell {F : Nat → Prop} {a b : World} (h : Only F a b) {p : Addr} (hp : a.heap.size ≤ p.block ∨ F p.block) (u : Value) : Only F a (b.setCell p u) := by
  refine h.trans (G := fun k => k = p.block) ⟨rfl, rfl, rfl, by simp [World.setCell], fun k hk hn => Below.heap_setCell _ _ _ _ hn⟩ ?_
  intro i hi e; subst e; rcases hp with h | h
  · omega
  · exact h
theorem Only.grown {F : Nat → Prop} {a b c : World} {row : Option Nat} (h : Only F a b) (hg : b.grownBy c row) (hr : ∀ k, k < a.heap.size → row = some k → F k) : Only F a c :=
  h.trans (G := fun k => row = some k) ⟨hg.os, hg.tape, hg.output, hg.size, fun k hk hn => hg.block k hk (fun e => hn e.symm)⟩ hr
theorem Only.at {F : Nat → Prop} {a b : World} (h : Only F a b) {k : Nat} {o : Obj} (e : a.heap[k]? = some o) (hn : ¬ F k) : b.heap[k]? = some o := by
  rw [h.block k (lt_of_block e) hn]; exact e
theorem Ext.at {a b : World} (h : Ext a b) {k : Nat} {o : Obj} (e : a.heap[k]? = some o) : b.heap[k]? = some o := Only.at h e (fun x => x)
theorem Ext.cell {a b : World} (h : Ext a b) {p : Addr} {v : Value} (e : a.cell? p = some v) : b.cell? p = some v := by
  have := World.block_lt_of_cell? a p e
  rw [World.cell?_of_block (h.block p.block this (fun x => x))]; exact e
theorem Only.cell {F : Nat → Prop} {a b : World} (h : Only F a b) {p : Addr} {v : Value} (e : a.cell? p = some v) (hn : ¬ F p.block) : b.cell? p = some v := by
  have := World.block_lt_of_cell? a p e
  rw [World.cell?_of_block (h.block p.block this hn)]; exact e
theorem cell_at {w : World} {b i : Nat} {c : Array Value} {E : TypeId} {f : Nat × Nat} (h : w.heap[b]? = some (.cells c E f)) : w.cell? ⟨b, i, none⟩ = c[i]? := by
  simp [World.cell?, h]
theorem free_at {w : World} {b i : Nat} {c : Array Value} {E : TypeId} (h : w.heap[b]? = some (.cells c E (0, 0))) : w.frozen? ⟨b, i, none⟩ = false := by
  simp [World.frozen?, h]
theorem heap_drewN (w : World) (n : Nat) : (w.drewN n).heap = w.heap := rfl
theorem block_alloc {w : World} {o : Obj} : (w.alloc o).heap[w.heap.size]? = some o := heap_alloc_new w o
theorem block_set {w : World} {b i : Nat} {c : Array Value} {E : TypeId} {f : Nat × Nat} (h : w.heap[b]? = some (.cells c E f)) (v : Value) :
    (w.setCell ⟨b, i, none⟩ v).heap[b]? = some (.cells (c.setIfInBounds i v) E f) := by
  simp [World.setCell, Array.getElem?_modify, h]
theorem block_set_other {w : World} {b i k : Nat} (v : Value) (h : k ≠ b) : (w.setCell ⟨b, i, none⟩ v).heap[k]? = w.heap[k]? :=
  Below.heap_setCell _ _ _ _ h
theorem ret_int {k : IntKind} {a b : Int} (h : a = b) : Ending.returned (.int k a) = .returned (.int k b) := by rw [h]
theorem ret_bool {a b : Bool} (h : a = b) : Ending.returned (.bool a) = .returned (.bool b) := by rw [h]
theorem bits_xor_nat (k : IntKind) (j : Nat) (hj : j ≤ k.bits) (hk : ∀ n : Int, 0 ≤ n → n < 2 ^ j → k.wrap n = n) (a b : Nat) (ha : a < 2 ^ j) (hb : b < 2 ^ j) :
    bits .xor k a b = ((a ^^^ b : Nat) : Int) := by
  have hp : 2 ^ j ≤ 2 ^ k.bits := Nat.pow_le_pow_right (by decide) hj
  have ha' : a % 2 ^ k.bits = a := Nat.mod_eq_of_lt (Nat.lt_of_lt_of_le ha hp)
  have hb' : b % 2 ^ k.bits = b := Nat.mod_eq_of_lt (Nat.lt_of_lt_of_le hb hp)
  have cast : ∀ n : Nat, n < 2 ^ j → ((n : Nat) : Int) < 2 ^ j := fun n h => by exact_mod_cast h
  simp only [bits, BitVec.ofInt_natCast, BitVec.toNat_xor, BitVec.toNat_ofNat, ha', hb']
  exact hk _ (Int.natCast_nonneg _) (cast _ (Nat.xor_lt_two_pow ha hb))
theorem wraps_i64 (n : Int) (h₀ : 0 ≤ n) (h₁ : n < 2 ^ 63) : IntKind.i64.wrap n = n := by rw [IntKind.wrap_i64]; omega
theorem i64_xor_nat (a b : Nat) (ha : a < 2 ^ 63) (hb : b < 2 ^ 63) : bits .xor .i64 (a : Int) (b : Int) = ((a ^^^ b : Nat) : Int) :=
  bits_xor_nat .i64 63 (by decide) wraps_i64 a b ha hb
theorem i64_or_nat (a b : Nat) (ha : a < 2 ^ 63) (hb : b < 2 ^ 63) : bits .or .i64 (a : Int) (b : Int) = ((a ||| b : Nat) : Int) :=
  (bits_nat .i64 63 (by decide) wraps_i64 a b ha hb).2
theorem i64_and_nat (a b : Nat) (ha : a < 2 ^ 63) (hb : b < 2 ^ 63) : bits .and .i64 (a : Int) (b : Int) = ((a &&& b : Nat) : Int) :=
  (bits_nat .i64 63 (by decide) wraps_i64 a b ha hb).1
theorem tmod_cases (n : Int) (m : Int) (hm : 0 < m) : (0 ≤ n ∧ n.tmod m = n % m) ∨ (n < 0 ∧ n.tmod m = -((-n) % m)) := by
  by_cases h : 0 ≤ n
  · exact .inl ⟨h, Int.tmod_eq_emod_of_nonneg h⟩
  · refine .inr ⟨by omega, ?_⟩
    rw [← Int.tmod_eq_emod_of_nonneg (by omega : 0 ≤ -n), Int.neg_tmod, Int.neg_neg]
theorem tmod_bd (n m : Int) (hm : 0 < m) : -m < n.tmod m ∧ n.tmod m < m := by
  have h1 := Int.emod_lt_of_pos n hm
  have h2 := Int.emod_lt_of_pos (-n) hm
  have h3 := Int.emod_nonneg n (by omega : m ≠ 0)
  have h4 := Int.emod_nonneg (-n) (by omega : m ≠ 0)
  rcases tmod_cases n m hm with ⟨_, h⟩ | ⟨_, h⟩ <;> rw [h] <;> omega
theorem hid {p : Prop} (h : p) : Hid p := h
end Go.Proofs.YtkmgdglmlmodmaaDoor
