/- stavekeep: a block of a number, a frame of numbers. -/
import Derived.Test.YtkmgdglmlmodmaaDoorFramePut
import Derived.Test.YtkmgdglmlmodmaaDoorFrameGet
import Derived.Laws.Rows
namespace Go.Proofs.YtkmgdglmlmodmaaDoor
set_option linter.unusedVariables false
open Go Go.RowKit
/-- The block that stavekeep makes of a number. -/
def blockOf (n : Int) : List Nat := (List.range 108).map fun i : Nat => ((n * ((i : Int) + 3) + (i : Int) / 8) % 256).toNat
theorem blockOf_len (n : Int) : (blockOf n).length = 108 := by simp [blockOf]
theorem blockOf_byte (n : Int) : ∀ x ∈ blockOf n, x < 256 := by
  intro x hx
  unfold blockOf at hx
  obtain ⟨i, _, rfl⟩ := List.mem_map.1 hx
  have h1 := Int.emod_nonneg (n * ((i : Int) + 3) + (i : Int) / 8) (show (256 : Int) ≠ 0 by omega)
  have h2 := Int.emod_lt_of_pos (n * ((i : Int) + 3) + (i : Int) / 8) (show (0 : Int) < 256 by omega)
  omega
/-- Its first j bytes, then noughts. -/
def blockTo (n : Int) (j : Nat) : List Nat := (blockOf n).take j ++ List.replicate (108 - j) 0
theorem blockTo_len (n : Int) (j : Nat) (h : j ≤ 108) : (blockTo n j).length = 108 := by simp [blockTo, blockOf_len]; omega
theorem blockTo_all (n : Int) : blockTo n 108 = blockOf n := by unfold blockTo; rw [List.take_of_length_le (by rw [blockOf_len]; omega)]; simp
theorem blockTo_step (n : Int) (j : Nat) (h : j < 108) : (blockTo n j).set j ((n * (j + 3) + j / 8) % 256).toNat = blockTo n (j + 1) := by
  unfold blockTo
  apply List.ext_getElem
  · simp [blockOf_len]; omega
  · intro i h1 h2
    simp only [List.length_set, List.length_append, List.length_take, blockOf_len, List.length_replicate] at h1
    rw [List.getElem_set]
    by_cases hij : j = i
    · subst hij
      rw [if_pos rfl, List.getElem_append_left (by simp [blockOf_len]; omega), List.getElem_take]
      simp [blockOf]
    · rw [if_neg hij]
      by_cases hlt : i < j
      · rw [List.getElem_append_left (by simp [blockOf_len]; omega), List.getElem_append_left (by simp [blockOf_len]; omega), List.getElem_take, List.getElem_take]
      · rw [List.getElem_append_right (by simp [blockOf_len]; omega), List.getElem_append_right (by simp [blockOf_len]; omega)]
        simp
theorem aggBlock : AggType Tryd.prog 112 108 := ⟨by kernel_rfl, by kernel_rfl⟩
def z108 : List Nat := List.replicate 108 0
theorem zero_block (w : World) : Sem.run Tryd.prog (zeroValue 112) w = .ok (.agg (bA z108)) w := by kernel_rfl
theorem bA_one (l : List Nat) : ∀ v ∈ (bA l).toList, v.oneCell' = true := by
  intro v hv
  rw [bA_def] at hv
  simp only [List.mem_map] at hv
  obtain ⟨x, _, rfl⟩ := hv
  rfl
def ABlk (w : World) (b : Nat) (l : List Nat) : Prop := w.heap[b]? = some (.cells (bA l) 112 (0, 0))
theorem wrap_mod (x : Int) : wrap64 x % 256 = x % 256 := by unfold wrap64; omega
theorem block_wrap (n : Int) (j : Nat) : wrap64 (wrap64 (n * ((j : Int) + 3)) + (j : Int) / 8) % 256 = (((n * ((j : Int) + 3) + (j : Int) / 8) % 256).toNat : Nat) := by
  rw [wrap_mod, Int.add_emod, wrap_mod, ← Int.add_emod]
  have := Int.emod_nonneg (n * ((j : Int) + 3) + (j : Int) / 8) (show (256 : Int) ≠ 0 by omega)
  omega
def BlockPost (w : World) (n : Int) (e : Ending) (w' : World) : Prop := e = .returned (.agg (bA (blockOf n))) ∧ Ext w w'
set_option maxRecDepth 100000 in
set_option maxHeartbeats 1000000 in
theorem block_c (n : Int) (w : World) : Calls Tryd.prog 67 #[.int .i64 n] w (BlockPost w n) := by
  have hz := zero_block
  go_enter Tryd.func67, Tryd.ntmps67
  go_wp2
  have HS : Hid (Ext w ((w.alloc (.cells (bA z108) 112)).alloc (.cells (bA z108) 112)) ∧ ABlk ((w.alloc (.cells (bA z108) 112)).alloc (.cells (bA z108) 112)) w.heap.size z108 ∧
      ABlk ((w.alloc (.cells (bA z108) 112)).alloc (.cells (bA z108) 112)) (w.heap.size + 1) (blockTo n 0)) := hid ⟨((Ext.refl w).alloc _).alloc _, by
    unfold ABlk; rw [heap_alloc_old _ _ (by simp)]; exact heap_alloc_new _ _, by
    have e : (w.alloc (.cells (bA z108) 112)).heap.size = w.heap.size + 1 := by simp
    unfold ABlk; rw [← e]; exact heap_alloc_new _ _⟩
  go_loopw [5] (fun i wr => ∃ j : Nat, i = .int .i64 j ∧ j ≤ 108 ∧ Ext w wr ∧ ABlk wr w.heap.size z108 ∧ ABlk wr (w.heap.size + 1) (blockTo n j)) (fun i _ => 108 - (intOf i).toNat)
  case atStart => exact ⟨0, rfl, by omega, HS.out⟩
  case round =>
    clear HS
    obtain ⟨j, rfl, hj, hx, hr, hb⟩ := hrel
    by_cases hlt : j < 108
    · have i0 : (0 : Int) ≤ (j : Int) := by omega
      have i1 : (j : Int) < 108 := by omega
      have cj : wr.cell? ⟨w.heap.size + 1, j, none⟩ = some (.int .u8 (nth (blockTo n j) j)) := (cell_at hb).trans (bA_get _ _ (by rw [blockTo_len n j hj]; omega))
      have fj : wr.frozen? ⟨w.heap.size + 1, j, none⟩ = false := free_at hb
      have HX := hid hx; have HR := hid hr; have HB := hid hb
      clear hx hr hb
      have hw := block_wrap n j
      obtain ⟨x, hx⟩ : ∃ x, ((n * ((j : Int) + 3) + (j : Int) / 8) % 256).toNat = x := ⟨_, rfl⟩
      rw [hx] at hw
      have HST := hid (blockTo_step n j hlt)
      have HX2 := hid hx
      clear hx
      go_wp2
      go_roundw
      case rel =>
        refine ⟨j + 1, by go_num, by omega, Only.setCell (F := fun _ => False) HX.out (.inl (by simp)) _, ?_, ?_⟩
        · exact (block_set_other _ (by omega)).trans HR.out
        · have := block_set HB.out (i := j) (.int .u8 (x : Int))
          rw [bA_set, ← HX2.out, HST.out] at this
          rw [← HX2.out]
          exact this
      case measure => simp [intOf]; omega
    · obtain rfl : j = 108 := by omega
      rw [blockTo_all] at hb
      have hs := bA_size (blockOf n)
      rw [blockOf_len] at hs
      have HS := hid hs
      have HZ : Hid ((bA z108).size = 108) := hid (by rw [bA_size]; simp [z108])
      have HX := hid hx
      have hr' : wr.heap[w.heap.size]? = some (.cells (bA z108) 112 (0, 0)) := hr
      have hb' : wr.heap[w.heap.size + 1]? = some (.cells (bA (blockOf n)) 112 (0, 0)) := hb
      clear hs hx hr hb
      go_wp2_with (first
        | (refine wpList_load_agg rfl 112 _ rfl ⟨w.heap.size + 1, 0, none⟩ rfl (bA (blockOf n)) ?_ ?_ ?_; (rw [HS.out]; exact aggBlock); exact agg_cells hb')
        | (refine wpList_store_whole rfl 112 _ _ rfl w.heap.size rfl (bA (blockOf n)) _ rfl 112 ?_ hr' ?_ ?_ ?_; (rw [HS.out]; exact aggBlock); (rw [HS.out, HZ.out]); exact bA_one _))
      refine bodyPost_ret (results_cell_row Tryd.results67 _ _ w.heap.size _ (bA (blockOf n)) _ _ rfl (setRow_heap _ _ _ _ _ _ hr') Tryd.underlying112 rfl (by rw [HS.out]; exact aggBlock.2)) rfl ?_
      exact ⟨rfl, Ext.then HX.out (only_setRow _ _ _) (fun i hi => by omega)⟩
def keepFrm (kind slot stripe gen n : Int) : Frm := ⟨kind, slot, stripe, gen, blockOf n⟩
theorem keepFrm_ok (kind slot stripe gen n : Int) : (keepFrm kind slot stripe gen n).Ok := ⟨blockOf_len n, blockOf_byte n⟩
end Go.Proofs.YtkmgdglmlmodmaaDoor
