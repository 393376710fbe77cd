/- Blocks of bytes of the call's own: make, copy, append onto a new one; stavebook.Roomy and Intact. -/
import Derived.Test.YtkmgdglmlmodmaaDoorBytes
import Derived.Test.YtkmgdglmlmodmaaDoorAgg
import Derived.Laws.CopyOwn
namespace Go.Proofs.YtkmgdglmlmodmaaDoor
set_option linter.unusedVariables false
open Go.RowKit

/-- The cells of a list of bytes. -/
@[irreducible] def bA (l : List Nat) : Array Value := (l.map bv).toArray
theorem bA_def (l : List Nat) : bA l = (l.map bv).toArray := by unfold bA; rfl
theorem bA_size (l : List Nat) : (bA l).size = l.length := by rw [bA_def]; simp
theorem bA_get (l : List Nat) (i : Nat) (h : i < l.length) : (bA l)[i]? = some (.int .u8 (nth l i)) := by
  rw [bA_def]; simp [nth, h, bv]
theorem bA_set (l : List Nat) (i : Nat) (x : Nat) : (bA l).setIfInBounds i (.int .u8 x) = bA (l.set i x) := by
  rw [bA_def, bA_def]; apply Array.ext'; simp [List.map_set, bv]
theorem nth_set (l : List Nat) (i j x : Nat) : nth (l.set i x) j = if i = j ∧ i < l.length then x else nth l j := by
  unfold nth; rw [List.getD_eq_getElem?_getD, List.getElem?_set, List.getD_eq_getElem?_getD]
  by_cases h : i = j
  · subst h
    by_cases h2 : i < l.length
    · simp [h2]
    · rw [if_pos rfl, if_neg h2, if_neg (by simp [h2])]; simp [Nat.not_lt.1 h2]
  · rw [if_neg h, if_neg (by simp [h])]
theorem nth_append (l m : List Nat) (i : Nat) : nth (l ++ m) i = if i < l.length then nth l i else nth m (i - l.length) := by
  unfold nth; simp only [List.getD_eq_getElem?_getD, List.getElem?_append]; split <;> rfl
theorem nth_replicate (n x i : Nat) : nth (List.replicate n x) i = if i < n then x else 0 := by
  unfold nth; simp only [List.getD_eq_getElem?_getD, List.getElem?_replicate]; split <;> rfl
theorem nth_take (l : List Nat) (n i : Nat) : nth (l.take n) i = if i < n then nth l i else 0 := by
  unfold nth; simp only [List.getD_eq_getElem?_getD, List.getElem?_take]; split <;> rfl
theorem nth_drop (l : List Nat) (n i : Nat) : nth (l.drop n) i = nth l (n + i) := by
  unfold nth; simp only [List.getD_eq_getElem?_getD, List.getElem?_drop]

theorem info8 : (Tryd.prog.info? 5).map (fun i => (i.zero, i.size, i.bytes)) = some (some (.int .u8 0), 1, 1) := by kernel_rfl
theorem make_bytes (N : Int) (h0 : 0 ≤ N) (h1 : N ≤ 140737488355328) (w : World) :
    Sem.run Tryd.prog (Instr.makeSlice 27 (.int .i64 N) (.int .i64 N)) w = .ok (.slice (some ⟨w.heap.size, 0, none⟩) N.toNat N.toNat) (w.alloc (.cells (bA (List.replicate N.toNat 0)) 5)) := by
  obtain ⟨i0, hi, hz0, hz1, hz2⟩ := info_parts info8
  have h := run_make (P := Tryd.prog) w 27 5 i0 (.int .u8 0) Tryd.underlying27 hi hz0 .i64 .i64 N N h0 (Int.le_refl _) (by rw [hz2]; omega) (by omega)
  rw [h]
  have e : madeCells (Value.cells (.int .u8 0)) (N.toNat * i0.size) = bA (List.replicate N.toNat 0) := by
    rw [hz1, bA_def]
    apply Array.ext'
    show (madeCells #[.int .u8 0] (N.toNat * 1)).toList = _
    rw [toList_madeCells_one, Nat.mul_one]; simp [bv]
  rw [e]
/-- A block of bytes of the call's own. -/
def Blk (w : World) (b : Nat) (l : List Nat) : Prop := w.heap[b]? = some (.cells (bA l) 5 (0, 0))
theorem Blk.cell {w : World} {b : Nat} {l : List Nat} (h : Blk w b l) (i : Nat) (hi : i < l.length) : w.cell? ⟨b, i, none⟩ = some (.int .u8 (nth l i)) := by
  rw [cell_at h, bA_get l i hi]
theorem Blk.free {w : World} {b : Nat} {l : List Nat} (h : Blk w b l) (i : Nat) : w.frozen? ⟨b, i, none⟩ = false := free_at h
theorem Blk.bytes {w : World} {b n : Nat} {l : List Nat} (h : Blk w b l) (hb : ∀ x ∈ l, x < 256) (hl : l.length = n) (hs : n ≤ 140737488355328) : BytesAt w (some ⟨b, 0, none⟩) n l :=
  ⟨hl, hs, hb, .inr ⟨b, 0, rfl, fun i hi => by rw [Nat.zero_add]; exact h.cell i (by omega)⟩⟩
theorem Blk.owns {w : World} {b n : Nat} {l : List Nat} (h : Blk w b l) (hl : l.length = n) (hs : n ≤ 140737488355328) : w.ownsRow 0 5 1 (.slice (some ⟨b, 0, none⟩) n n) n (l.map bv) := by
  refine ⟨by simp [hl], .inr ⟨b, n, bA l, rfl, Nat.zero_le _, h, Nat.le_refl _, by simp [maxLen]; omega, by rw [bA_size]; omega, ?_⟩⟩
  rw [bA_def]; show ((l.map bv).take (n * 1)) = _; rw [List.take_of_length_le (by simp; omega)]
theorem Blk.pre {w : World} {b n : Nat} {l m : List Nat} (h : Blk w b (l ++ m)) (hb : ∀ x ∈ l, x < 256) (hl : l.length = n) (hs : n ≤ 140737488355328) : BytesAt w (some ⟨b, 0, none⟩) n l :=
  ⟨hl, hs, hb, .inr ⟨b, 0, rfl, fun i hi => by rw [Nat.zero_add, h.cell i (by simp; omega), nth_append, if_pos (by omega)]⟩⟩
theorem Blk.set {w : World} {b : Nat} {l : List Nat} (h : Blk w b l) (i x : Nat) : Blk (w.setCell ⟨b, i, none⟩ (.int .u8 x)) b (l.set i x) := by
  unfold Blk; rw [← bA_set]; exact block_set h _
theorem Blk.ext {w w' : World} {b : Nat} {l : List Nat} (h : Blk w b l) (e : Ext w w') : Blk w' b l := e.at h

/-- A slice that came in, copied into a new block at its beginning. -/
theorem copy_new (w : World) (L l : List Nat) (a : Option Addr) (n c N : Nat) (h : BytesAt w a n l) (hN : L.length = N) (hn : n ≤ N) :
    Sem.run Tryd.prog (Builtin.copy_ #[27, 27] 3 #[.slice (some ⟨w.heap.size, 0, none⟩) N N, .slice a n c]) (w.alloc (.cells (bA L) 5))
      = .ok (.int .i64 n) (w.alloc (.cells (bA (l ++ L.drop n)) 5)) := by
  obtain ⟨i0, hi, hz0, hz1, hz2⟩ := info_parts info8
  have hg : (w.alloc (.cells (bA L) 5)).heap[w.heap.size]? = some (.cells (bA L) 5 (0, 0)) := block_alloc
  have hl := h.len
  rcases h.cells with rfl | ⟨b, off, rfl, hc⟩
  · obtain rfl := List.length_eq_zero_iff.1 hl
    cases a <;> simp [loadCells, loadCellsFrom, Builtin.copy_, run_underlying Tryd.underlying27, Builtin.lenOf, Builtin.firstCells, sizeOf, typeInfo, hi, storeCells, goInt]
  · have hr := run_copy_row (P := Tryd.prog) (w.alloc (.cells (bA L) 5)) 27 27 3 5 w.heap.size 0 N N ⟨b, off, none⟩ n c (bA L) 5 (l.map bv)
      Tryd.underlying27 (by rw [hi]; exact congrArg some hz1) hg (by rw [List.length_map, hl]; exact (Nat.min_eq_left hn).symm)
      (by
        intro j v hv
        rw [List.getElem?_map] at hv
        have hj : j < l.length := by
          rcases Nat.lt_or_ge j l.length with h' | h'
          · exact h'
          · rw [List.getElem?_eq_none h'] at hv; cases hv
        rw [List.getElem?_eq_getElem hj] at hv
        have e : (⟨b, off, none⟩ : Addr).add j = ⟨b, off + j, none⟩ := by unfold Addr.add; split <;> simp_all
        rw [e, Ext.cell ((Ext.refl w).alloc _) (hc j (by omega)), nth_eq hj]
        exact hv)
      (by rw [bA_size, List.length_map]; omega) (by intro v hv; obtain ⟨x, _, rfl⟩ := List.mem_map.1 hv; rfl)
    rw [hr, setRow_alloc, List.length_map, hl]
    exact congrArg (fun X => Result.ok (Value.int .i64 n) (w.alloc (.cells X 5))) (by rw [bA_def, bA_def]; simp [hl])
/-- A part of a list written anew. -/
def spl (L : List Nat) (off : Nat) (m : List Nat) : List Nat := L.take off ++ (m ++ L.drop (off + m.length))
theorem spl_len (L : List Nat) (off : Nat) (m : List Nat) (h : off + m.length ≤ L.length) : (spl L off m).length = L.length := by
  simp [spl]; omega
theorem Blk.setRow {W : World} {b : Nat} {L : List Nat} (h : Blk W b L) (l : List Nat) : Blk (W.setRow b (bA l)) b l := setRow_heap W b _ _ _ _ h
theorem only_setRow (W : World) (b : Nat) (X : Array Value) : Only (fun k => k = b) W (W.setRow b X) :=
  ⟨rfl, rfl, rfl, by simp, fun k _ hn => setRow_other W b k X hn⟩
/-- Bytes copied into a block of the call's own, as many as the place has. -/
theorem copy_blk (W : World) (b off n c : Nat) (L l : List Nat) (a : Option Addr) (c' : Nat) (hB : Blk W b L) (h : BytesAt W a n l) (hfit : off + n ≤ L.length) :
    Sem.run Tryd.prog (Builtin.copy_ #[27, 27] 3 #[.slice (some ⟨b, off, none⟩) n c, .slice a n c']) W = .ok (.int .i64 n) (W.setRow b (bA (spl L off l))) := by
  obtain ⟨i0, hi, hz0, hz1, hz2⟩ := info_parts info8
  have hl := h.len
  rcases h.cells with rfl | ⟨b', off', rfl, hc⟩
  · obtain rfl := List.length_eq_zero_iff.1 hl
    have e : W.setRow b (bA (spl L off [])) = W := by
      rw [show spl L off [] = L by simp [spl]]; exact setRow_self W b _ _ _ hB
    rw [e]
    cases a <;> simp [loadCells, loadCellsFrom, Builtin.copy_, run_underlying Tryd.underlying27, Builtin.lenOf, Builtin.firstCells, sizeOf, typeInfo, hi, storeCells, goInt]
  · have hr := run_copy_row (P := Tryd.prog) W 27 27 3 5 b off n c ⟨b', off', none⟩ n c' (bA L) 5 (l.map bv)
      Tryd.underlying27 (by rw [hi]; exact congrArg some hz1) hB (by rw [List.length_map, hl]; exact (Nat.min_self n).symm)
      (by
        intro j v hv
        rw [List.getElem?_map] at hv
        have hj : j < l.length := by
          rcases Nat.lt_or_ge j l.length with h' | h'
          · exact h'
          · rw [List.getElem?_eq_none h'] at hv; cases hv
        rw [List.getElem?_eq_getElem hj] at hv
        have e : (⟨b', off', none⟩ : Addr).add j = ⟨b', off' + j, none⟩ := by unfold Addr.add; split <;> simp_all
        rw [e, hc j (by omega), nth_eq hj]
        exact hv)
      (by rw [bA_size, List.length_map]; omega) (by intro v hv; obtain ⟨x, _, rfl⟩ := List.mem_map.1 hv; rfl)
    rw [hr, List.length_map, hl]
    exact congrArg (fun X => Result.ok (Value.int .i64 n) (W.setRow b X)) (by rw [bA_def, bA_def]; apply Array.ext'; simp [spl, hl, List.map_take, List.map_drop])
end Go.Proofs.YtkmgdglmlmodmaaDoor
