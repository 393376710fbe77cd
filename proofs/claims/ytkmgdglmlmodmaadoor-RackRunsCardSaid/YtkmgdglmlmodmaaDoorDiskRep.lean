/- How a disk lies in memory. -/
import Derived.Test.YtkmgdglmlmodmaaDoorDiskPure
import Derived.Test.YtkmgdglmlmodmaaDoorMapI
import Derived.Test.YtkmgdglmlmodmaaDoorAppend
namespace Go.Proofs.YtkmgdglmlmodmaaDoor
set_option linter.unusedVariables false
open Go Go.RowKit
/-- A sector's slice: its block, its capacity. -/
structure Spot where
  blk : Nat
  cap : Nat
instance : Inhabited Spot := ⟨⟨0, 0⟩⟩
def Spot.val (s : Spot) : Value := .slice (some ⟨s.blk, 0, none⟩) 128 s.cap
def SecAt (w : World) (s : Spot) (l : List Nat) : Prop := l.length = 128 ∧ (∀ x ∈ l, x < 256) ∧ w.ownsRow 0 5 1 s.val 128 (l.map bv)
theorem SecAt.bytes {w : World} {s : Spot} {l : List Nat} (h : SecAt w s l) : BytesAt w (some ⟨s.blk, 0, none⟩) 128 l := owns_bytes h.2.2 h.2.1 (by omega)
theorem SecAt.same {w w' : World} {s : Spot} {l : List Nat} (h : SecAt w s l) (e : w'.heap[s.blk]? = w.heap[s.blk]?) : SecAt w' s l := by
  refine ⟨h.1, h.2.1, h.2.2.1, ?_⟩
  rcases h.2.2.2 with h' | ⟨g, c, cur, h1, h2, h3, h4⟩
  · exact .inl h'
  · cases h1; exact .inr ⟨s.blk, _, cur, rfl, Nat.zero_le _, e.trans h3, h4⟩
theorem SecAt.lt {w : World} {s : Spot} {l : List Nat} (h : SecAt w s l) : s.blk < w.heap.size := owns_lt h.2.2
theorem SecAt.cap {w : World} {s : Spot} {l : List Nat} (h : SecAt w s l) : 128 ≤ s.cap := by
  rcases h.2.2.2 with ⟨h', _⟩ | ⟨g, c, cur, h1, h2, h3, h4, _⟩
  · cases h'
  · cases h1; exact h4
/-- The places of a disk's blocks. -/
inductive Slot where
  | p | lb | wm | rm
  | sec (i : Nat)
  | wait (i : Nat)
structure DSk where
  p : Nat
  lb : Nat
  wm : Nat
  rm : Nat
  n : Nat
  ss : Nat → Spot
  wf : Nat → Option Spot
namespace DSk
def at_ (k : DSk) : Slot → Option Nat
  | .p => some k.p
  | .lb => some k.lb
  | .wm => some k.wm
  | .rm => some k.rm
  | .sec i => if i < k.n then some (k.ss i).blk else none
  | .wait i => (k.wf i).map (·.blk)
def foot (k : DSk) (b : Nat) : Prop := ∃ x, k.at_ x = some b
def arr (k : DSk) : Array Value := ((List.range k.n).map fun i => (k.ss i).val).toArray
theorem arr_def (k : DSk) : k.arr = ((List.range k.n).map fun i => (k.ss i).val).toArray := rfl
theorem arr_size (k : DSk) : k.arr.size = k.n := by simp [arr]
theorem arr_get (k : DSk) (i : Nat) (h : i < k.n) : k.arr[i]? = some (k.ss i).val := by simp [arr, h]
end DSk
/-- A map's keys are no negative numbers. -/
def iKey (f : Nat → Option Value) (i : Int) : Option Value := if 0 ≤ i then f i.toNat else none
def dskA (k : DSk) (D : Dsk) : Array Value := #[.slice (some ⟨k.lb, 0, none⟩) k.n k.n, .map (some k.wm), .map (some k.rm), .bool D.dead]
structure DiskRep (w : World) (k : DSk) (D : Dsk) : Prop where
  len : D.l.length = k.n
  pos : 1 ≤ k.n
  small : k.n ≤ 128
  own : w.heap[k.p]? = some (.cells (dskA k D) 151 (0, 0))
  arr : w.heap[k.lb]? = some (.cells k.arr 27 (0, 0))
  sec : ∀ i, i < k.n → SecAt w (k.ss i) (D.l.getD i [])
  wmap : MapI w k.wm (iKey fun i => (k.wf i).map Spot.val)
  waitS : ∀ i s, k.wf i = some s → i < k.n ∧ ∃ l, D.waits i = some l ∧ SecAt w s l
  waitN : ∀ i, k.wf i = none → D.waits i = none
  rmap : ∃ g, MapI w k.rm g ∧ ∀ i : Int, (g i).getD (.bool false) = .bool (decide (0 ≤ i) && D.rot i.toNat)
  inj : ∀ x y b, k.at_ x = some b → k.at_ y = some b → x = y
namespace DiskRep
variable {w w' : World} {k : DSk} {D : Dsk}
theorem same (h : DiskRep w k D) (e : ∀ b, k.foot b → w'.heap[b]? = w.heap[b]?) : DiskRep w' k D where
  len := h.len
  pos := h.pos
  small := h.small
  own := (e _ ⟨.p, rfl⟩).trans h.own
  arr := (e _ ⟨.lb, rfl⟩).trans h.arr
  sec := fun i hi => (h.sec i hi).same (e _ ⟨.sec i, by simp [DSk.at_, hi]⟩)
  wmap := h.wmap.same (e _ ⟨.wm, rfl⟩)
  waitS := fun i s hs => by
    obtain ⟨h1, l, h2, h3⟩ := h.waitS i s hs
    exact ⟨h1, l, h2, h3.same (e _ ⟨.wait i, by simp [DSk.at_, hs]⟩)⟩
  waitN := h.waitN
  rmap := by
    obtain ⟨g, h1, h2⟩ := h.rmap
    exact ⟨g, h1.same (e _ ⟨.rm, rfl⟩), h2⟩
  inj := h.inj
theorem lt (h : DiskRep w k D) {b : Nat} (hb : k.foot b) : b < w.heap.size := by
  obtain ⟨x, hx⟩ := hb
  cases x with
  | p => cases hx; exact lt_of_block h.own
  | lb => cases hx; exact lt_of_block h.arr
  | wm => cases hx; exact h.wmap.lt
  | rm => cases hx; obtain ⟨g, h1, _⟩ := h.rmap; exact h1.lt
  | sec i =>
    simp only [DSk.at_] at hx
    split at hx
    · rename_i hi; cases hx; exact (h.sec i hi).lt
    · cases hx
  | wait i =>
    simp only [DSk.at_, Option.map_eq_some_iff] at hx
    obtain ⟨s, hs, rfl⟩ := hx
    obtain ⟨_, l, _, h3⟩ := h.waitS i s hs
    exact h3.lt
theorem only (h : DiskRep w k D) {F : Nat → Prop} (e : Only F w w') (hn : ∀ b, k.foot b → ¬ F b) : DiskRep w' k D :=
  h.same fun b hb => e.block b (h.lt hb) (hn b hb)
theorem ext (h : DiskRep w k D) (e : Ext w w') : DiskRep w' k D := h.only e fun _ _ x => x
theorem ne (h : DiskRep w k D) {x y : Slot} {a b : Nat} (hx : k.at_ x = some a) (hy : k.at_ y = some b) (hne : x ≠ y) : a ≠ b := by
  intro e; subst e; exact hne (h.inj x y a hx hy)
theorem cell0 (h : DiskRep w k D) : w.cell? ⟨k.p, 0, none⟩ = some (.slice (some ⟨k.lb, 0, none⟩) k.n k.n) := cell_at h.own
theorem cell1 (h : DiskRep w k D) : w.cell? ⟨k.p, 1, none⟩ = some (.map (some k.wm)) := cell_at h.own
theorem cell2 (h : DiskRep w k D) : w.cell? ⟨k.p, 2, none⟩ = some (.map (some k.rm)) := cell_at h.own
theorem cell3 (h : DiskRep w k D) : w.cell? ⟨k.p, 3, none⟩ = some (.bool D.dead) := cell_at h.own
theorem cellS (h : DiskRep w k D) (i : Nat) (hi : i < k.n) : w.cell? ⟨k.lb, i, none⟩ = some (k.ss i).val := (cell_at h.arr).trans (k.arr_get i hi)
end DiskRep
/-- What a call on the disk leaves: a disk at the same place, in its own blocks or new ones. -/
structure DiskTo (w : World) (k : DSk) (w' : World) (D' : Dsk) (k' : DSk) : Prop where
  rep : DiskRep w' k' D'
  p : k'.p = k.p
  n : k'.n = k.n
  foot : ∀ b, k'.foot b → k.foot b ∨ w.heap.size ≤ b
  only : Only k.foot w w'
theorem DiskTo.refl {w : World} {k : DSk} {D : Dsk} (h : DiskRep w k D) : DiskTo w k w D k := ⟨h, rfl, rfl, fun b hb => .inl hb, Only.refl _ _⟩
theorem DiskTo.ext {w w' : World} {k : DSk} {D : Dsk} (h : DiskRep w k D) (e : Ext w w') : DiskTo w k w' D k := ⟨h.ext e, rfl, rfl, fun b hb => .inl hb, e.only⟩
theorem DiskTo.then {w w1 w2 : World} {k k1 k2 : DSk} {D1 D2 : Dsk} (h : DiskTo w k w1 D1 k1) (h' : DiskTo w1 k1 w2 D2 k2) : DiskTo w k w2 D2 k2 where
  rep := h'.rep
  p := h'.p.trans h.p
  n := h'.n.trans h.n
  foot := fun b hb => by
    have := h.only.size
    rcases h'.foot b hb with h1 | h1
    · rcases h.foot b h1 with h2 | h2
      · exact .inl h2
      · exact .inr h2
    · exact .inr (by omega)
  only := h.only.trans h'.only fun i hi hf => by
    rcases h.foot i hf with h2 | h2
    · exact h2
    · omega
end Go.Proofs.YtkmgdglmlmodmaaDoor
