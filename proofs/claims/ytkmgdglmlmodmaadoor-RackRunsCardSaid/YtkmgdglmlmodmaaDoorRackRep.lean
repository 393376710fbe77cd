/- How a rack lies in memory. -/
import Derived.Test.YtkmgdglmlmodmaaDoorRackPure
import Derived.Test.YtkmgdglmlmodmaaDoorDiskRep
namespace Go.Proofs.YtkmgdglmlmodmaaDoor
set_option linter.unusedVariables false
open Go Go.RowKit
structure RSk where
  r : Nat
  lb : Nat
  cap : Nat
  n : Nat
  m : Nat
  ks : Nat → DSk
namespace RSk
def foot (K : RSk) (b : Nat) : Prop := b = K.r ∨ b = K.lb ∨ ∃ i, i < K.n ∧ (K.ks i).foot b
def ptr (K : RSk) (i : Nat) : Value := .pointer (some ⟨(K.ks i).p, 0, none⟩)
def ptrs (K : RSk) : List Value := (List.range K.n).map K.ptr
theorem ptrs_len (K : RSk) : K.ptrs.length = K.n := by simp [ptrs]
theorem ptrs_get (K : RSk) (i : Nat) (h : i < K.n) : K.ptrs[i]? = some (K.ptr i) := by simp [ptrs, h]
def val (K : RSk) : Value := .slice (some ⟨K.lb, 0, none⟩) K.n K.cap
end RSk
def rckA (K : RSk) (R : Rck) : Array Value := #[K.val, .bool R.off, .int .i64 R.fuse]
structure RackRep (w : World) (K : RSk) (R : Rck) : Prop where
  len : R.l.length = K.n
  pos : 1 ≤ K.n
  small : K.n ≤ 8
  own : w.heap[K.r]? = some (.cells (rckA K R) 103 (0, 0))
  arr : w.ownsRow 0 104 1 K.val K.n K.ptrs
  dsk : ∀ i, i < K.n → DiskRep w (K.ks i) (R.l.getD i default)
  secs : ∀ i, i < K.n → (K.ks i).n = K.m
  fuse : -1 ≤ R.fuse ∧ R.fuse ≤ 9223372036854775807
  one : ∀ i j b, i < K.n → j < K.n → (K.ks i).foot b → (K.ks j).foot b → i = j
  far : ∀ i b, i < K.n → (K.ks i).foot b → b ≠ K.r ∧ b ≠ K.lb
  two : K.r ≠ K.lb
namespace RackRep
variable {w w' : World} {K : RSk} {R : Rck}
theorem arrAt (h : RackRep w K R) : ∃ cur, w.heap[K.lb]? = some (.cells cur 104 (0, 0)) ∧ ∀ i, i < K.n → cur[i]? = some (K.ptr i) := by
  rcases h.arr.2 with ⟨h1, _⟩ | ⟨g, cap, cur, h1, _, h2, h3, h4, h5, h6⟩
  · cases h1
  · unfold RSk.val at h1
    cases h1
    refine ⟨cur, h2, fun i hi => ?_⟩
    have := K.ptrs_get i hi
    rw [← h6, List.getElem?_take, if_pos (by omega), Array.getElem?_toList] at this
    exact this
theorem same (h : RackRep w K R) (e : ∀ b, K.foot b → w'.heap[b]? = w.heap[b]?) : RackRep w' K R where
  len := h.len
  pos := h.pos
  small := h.small
  own := (e _ (.inl rfl)).trans h.own
  arr := by
    refine ⟨h.arr.1, ?_⟩
    rcases h.arr.2 with h' | ⟨g, c, cur, h1, h2, h3, h4⟩
    · exact .inl h'
    · have := h1; unfold RSk.val at this; cases this
      exact .inr ⟨K.lb, _, cur, rfl, Nat.zero_le _, (e _ (.inr (.inl rfl))).trans h3, h4⟩
  dsk := fun i hi => (h.dsk i hi).same fun b hb => e b (.inr (.inr ⟨i, hi, hb⟩))
  secs := h.secs
  fuse := h.fuse
  one := h.one
  far := h.far
  two := h.two
theorem lt (h : RackRep w K R) {b : Nat} (hb : K.foot b) : b < w.heap.size := by
  rcases hb with rfl | rfl | ⟨i, hi, hb⟩
  · exact lt_of_block h.own
  · obtain ⟨cur, h1, _⟩ := h.arrAt; exact lt_of_block h1
  · exact (h.dsk i hi).lt hb
theorem only (h : RackRep w K R) {F : Nat → Prop} (e : Only F w w') (hn : ∀ b, K.foot b → ¬ F b) : RackRep w' K R :=
  h.same fun b hb => e.block b (h.lt hb) (hn b hb)
theorem ext (h : RackRep w K R) (e : Ext w w') : RackRep w' K R := h.only e fun _ _ x => x
theorem cell0 (h : RackRep w K R) : w.cell? ⟨K.r, 0, none⟩ = some (.slice (some ⟨K.lb, 0, none⟩) K.n K.cap) := cell_at h.own
theorem cell1 (h : RackRep w K R) : w.cell? ⟨K.r, 1, none⟩ = some (.bool R.off) := cell_at h.own
theorem cell2 (h : RackRep w K R) : w.cell? ⟨K.r, 2, none⟩ = some (.int .i64 R.fuse) := cell_at h.own
theorem cellP (h : RackRep w K R) (i : Nat) (hi : i < K.n) : w.cell? ⟨K.lb, i, none⟩ = some (.pointer (some ⟨(K.ks i).p, 0, none⟩)) := by
  obtain ⟨cur, h1, h2⟩ := h.arrAt
  exact (cell_at h1).trans (h2 i hi)
/-- One disk of it turned. -/
def upd (K : RSk) (i : Nat) (k' : DSk) : RSk := { K with ks := fun j => if j = i then k' else K.ks j }
theorem to (h : RackRep w K R) {i : Nat} (hi : i < K.n) {D' : Dsk} {k' : DSk} (t : DiskTo w (K.ks i) w' D' k') : RackRep w' (upd K i k') { R with l := R.l.set i D' } := by
  have hnot : ∀ b, b < w.heap.size → ¬ (K.ks i).foot b → w'.heap[b]? = w.heap[b]? := fun b hb hn => t.only.block b hb hn
  have hother : ∀ j, j < K.n → j ≠ i → ∀ b, (K.ks j).foot b → w'.heap[b]? = w.heap[b]? := fun j hj hne b hb => hnot b ((h.dsk j hj).lt hb) (fun hf => hne (h.one j i b hj hi hb hf))
  have hptr : ∀ j, (upd K i k').ptr j = K.ptr j := fun j => by
    unfold RSk.ptr upd
    by_cases hj : j = i
    · subst hj; simp [t.p]
    · simp [hj]
  have hptrs : (upd K i k').ptrs = K.ptrs := by unfold RSk.ptrs; exact List.map_congr_left fun j _ => hptr j
  have hfar : ∀ j b, j < K.n → ((upd K i k').ks j).foot b → (K.ks j).foot b ∨ (j = i ∧ w.heap.size ≤ b) := fun j b hj hb => by
    unfold upd at hb
    by_cases hji : j = i
    · subst hji
      simp only [if_true] at hb
      rcases t.foot b hb with h1 | h1
      · exact .inl h1
      · exact .inr ⟨rfl, h1⟩
    · simp only [hji, if_false] at hb; exact .inl hb
  have hr := h.lt (b := K.r) (.inl rfl)
  have hlb := h.lt (b := K.lb) (.inr (.inl rfl))
  refine ⟨by simp [upd, h.len], h.pos, h.small, ?_, ?_, ?_, ?_, h.fuse, ?_, ?_, h.two⟩
  · exact (hnot K.r hr (fun hf => (h.far i _ hi hf).1 rfl)).trans h.own
  · have e := hnot K.lb hlb (fun hf => (h.far i _ hi hf).2 rfl)
    rw [hptrs]
    refine ⟨h.arr.1, ?_⟩
    rcases h.arr.2 with h' | ⟨g, c, cur, h1, h2, h3, h4⟩
    · exact .inl h'
    · have := h1; unfold RSk.val at this; cases this
      exact .inr ⟨K.lb, _, cur, rfl, Nat.zero_le _, e.trans h3, h4⟩
  · intro j hj
    by_cases hji : j = i
    · subst hji
      have : (R.l.set j D').getD j default = D' := by simp [List.getD_eq_getElem?_getD, h.len, show j < K.n from hj]
      show DiskRep w' (if j = j then k' else K.ks j) _
      rw [if_pos rfl, this]; exact t.rep
    · have : (R.l.set i D').getD j default = R.l.getD j default := by simp [List.getD_eq_getElem?_getD, List.getElem?_set_ne (Ne.symm hji)]
      show DiskRep w' (if j = i then k' else K.ks j) _
      rw [if_neg hji, this]; exact (h.dsk j hj).same fun b hb => hother j hj hji b hb
  · intro j hj
    show (if j = i then k' else K.ks j).n = K.m
    by_cases hji : j = i
    · subst hji; rw [if_pos rfl, t.n]; exact h.secs j hj
    · rw [if_neg hji]; exact h.secs j hj
  · intro j l b hj hl hb hb'
    rcases hfar j b hj hb with h1 | ⟨h1, h2⟩
    · rcases hfar l b hl hb' with h3 | ⟨h3, h4⟩
      · exact h.one j l b hj hl h1 h3
      · have := (h.dsk j hj).lt h1; omega
    · rcases hfar l b hl hb' with h3 | ⟨h3, h4⟩
      · have := (h.dsk l hl).lt h3; omega
      · rw [h1, h3]
  · intro j b hj hb
    rcases hfar j b hj hb with h1 | ⟨_, h2⟩
    · exact h.far j b hj h1
    · show b ≠ K.r ∧ b ≠ K.lb
      omega
theorem to_foot (h : RackRep w K R) {i : Nat} (hi : i < K.n) {D' : Dsk} {k' : DSk} (t : DiskTo w (K.ks i) w' D' k') : ∀ b, (upd K i k').foot b → K.foot b ∨ w.heap.size ≤ b := by
  intro b hb
  rcases hb with h1 | h1 | ⟨j, hj, hb⟩
  · exact .inl (.inl h1)
  · exact .inl (.inr (.inl h1))
  · unfold upd at hb
    by_cases hji : j = i
    · subst hji
      simp only [if_true] at hb
      rcases t.foot b hb with h1 | h1
      · exact .inl (.inr (.inr ⟨j, hj, h1⟩))
      · exact .inr h1
    · simp only [hji, if_false] at hb; exact .inl (.inr (.inr ⟨j, hj, hb⟩))
end RackRep
/-- A rack lies at block r, in none of the blocks S, which are there. -/
structure RackAt (S : Nat → Prop) (w : World) (r : Nat) (R : Rck) : Prop where
  there : ∀ b, S b → b < w.heap.size
  rep : ∃ K : RSk, K.r = r ∧ RackRep w K R ∧ ∀ b, K.foot b → ¬ S b
/-- Blocks that are protected stay as they are. -/
abbrev Keeps (S : Nat → Prop) (w w' : World) : Prop := Only (fun b => ¬ S b) w w'
theorem RackAt.only {S F : Nat → Prop} {w w' : World} {r : Nat} {R : Rck} (h : RackAt S w r R) (e : Only F w w') (hF : ∀ b, F b → S b) : RackAt S w' r R := by
  obtain ⟨h0, K, h1, h2, h3⟩ := h
  exact ⟨fun b hb => Nat.lt_of_lt_of_le (h0 b hb) e.size, K, h1, h2.only e fun b hb hf => h3 b hb (hF b hf), h3⟩
theorem RackAt.ext {S : Nat → Prop} {w w' : World} {r : Nat} {R : Rck} (h : RackAt S w r R) (e : Ext w w') : RackAt S w' r R := h.only e fun _ x => x.elim
theorem RackAt.drew {S : Nat → Prop} {w : World} {r : Nat} {R : Rck} (h : RackAt S w r R) : RackAt S w.drew r R := h.ext (Ext.refl w).drew
/-- What is new behind it may be protected too. -/
theorem RackAt.more {S T : Nat → Prop} {w w' : World} {r : Nat} {R : Rck} (h : RackAt S w r R) (e : Ext w w') (hT : ∀ b, T b → b < w'.heap.size ∧ (S b ∨ w.heap.size ≤ b)) : RackAt T w' r R := by
  obtain ⟨h0, K, h1, h2, h3⟩ := h
  refine ⟨fun b hb => (hT b hb).1, K, h1, h2.ext e, fun b hb ht => ?_⟩
  rcases (hT b ht).2 with h4 | h4
  · exact h3 b hb h4
  · have := h2.lt hb; omega
theorem RackAt.less {S T : Nat → Prop} {w : World} {r : Nat} {R : Rck} (h : RackAt S w r R) (hT : ∀ b, T b → S b) : RackAt T w r R := by
  obtain ⟨h0, K, h1, h2, h3⟩ := h
  exact ⟨fun b hb => h0 b (hT b hb), K, h1, h2, fun b hb ht => h3 b hb (hT b ht)⟩
/-- What a call on the rack leaves. -/
theorem RackAt.into {S : Nat → Prop} {w w' : World} {K K' : RSk} {R' : Rck} (h0 : ∀ b, S b → b < w.heap.size) (h3 : ∀ b, K.foot b → ¬ S b) (hr : K'.r = K.r) (h : RackRep w' K' R') (hf : ∀ b, K'.foot b → K.foot b ∨ w.heap.size ≤ b) (e : Only K.foot w w') :
    RackAt S w' K.r R' ∧ Keeps S w w' :=
  ⟨⟨fun b hb => Nat.lt_of_lt_of_le (h0 b hb) e.size, K', hr, h, fun b hb hs => by
    rcases hf b hb with h1 | h1
    · exact h3 b h1 hs
    · have := h0 b hs; omega⟩, e.mono fun b _ hb => h3 b hb⟩
end Go.Proofs.YtkmgdglmlmodmaaDoor
