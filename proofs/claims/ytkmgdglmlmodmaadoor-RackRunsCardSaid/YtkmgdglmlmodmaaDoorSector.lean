/- stavelaw8's sector: all of one byte. -/
import Derived.Test.YtkmgdglmlmodmaaDoorDiskE
namespace Go.Proofs.YtkmgdglmlmodmaaDoor
set_option linter.unusedVariables false
open Go Go.RowKit
def sect (x : Nat) : List Nat := List.replicate 128 x
def sectTo (x j : Nat) : List Nat := List.replicate j x ++ List.replicate (128 - j) 0
theorem sectTo_zero (x : Nat) : sectTo x 0 = Dsk.zeros := by simp [sectTo, Dsk.zeros]
theorem sectTo_all (x : Nat) : sectTo x 128 = sect x := by simp [sectTo, sect]
theorem sectTo_len (x j : Nat) (h : j ≤ 128) : (sectTo x j).length = 128 := by simp [sectTo]; omega
theorem sectTo_step (x j : Nat) (h : j < 128) : (sectTo x j).set j x = sectTo x (j + 1) := by
  unfold sectTo
  apply List.ext_getElem
  · simp; omega
  · intro i h1 h2
    rw [List.getElem_set]
    by_cases hij : j = i
    · subst hij; rw [if_pos rfl, List.getElem_append_left (by simp)]; simp
    · rw [if_neg hij]
      by_cases hlt : i < j
      · rw [List.getElem_append_left (by simp; omega), List.getElem_append_left (by simp; omega)]; simp
      · rw [List.getElem_append_right (by simp; omega), List.getElem_append_right (by simp; omega)]; simp
def SectPost (w : World) (x : Nat) (e : Ending) (w' : World) : Prop := ∃ b, e = .returned (.slice (some ⟨b, 0, none⟩) 128 128) ∧ w.heap.size ≤ b ∧ BytesAt w' (some ⟨b, 0, none⟩) 128 (sect x) ∧ Ext w w'
set_option maxRecDepth 100000 in
set_option maxHeartbeats 800000 in
theorem sector_c (x : Nat) (hx : x < 256) (w : World) : Calls Tryd.prog 25 #[.int .u8 x] w (SectPost w x) := by
  have hmk := make_sector w
  have HS : Hid (Blk (w.alloc (.cells (bA Dsk.zeros) 5)) w.heap.size (sectTo x 0)) := hid (by rw [sectTo_zero]; exact block_alloc)
  go_enter Tryd.func25, Tryd.ntmps25
  go_wp2
  clear hmk
  go_loopw [8] (fun i wr => ∃ j : Nat, i = .int .i64 j ∧ j ≤ 128 ∧ Ext w wr ∧ Blk wr w.heap.size (sectTo x j)) (fun i _ => 128 - (intOf i).toNat)
  case atStart => exact ⟨0, rfl, by omega, (Ext.refl w).alloc _, HS.out⟩
  case round =>
    clear HS
    obtain ⟨j, rfl, hj, he, hb⟩ := hrel
    by_cases hlt : j < 128
    · have i0 : (0 : Int) ≤ (j : Int) := by omega
      have i1 : (j : Int) < 128 := by omega
      have cj := hb.cell j (by rw [sectTo_len x j hj]; omega)
      have fj := hb.free j
      have hB := hb.set j x
      rw [sectTo_step x j hlt] at hB
      have HB := hid hB; have HE := hid he
      clear hB hb he
      go_wp2
      go_roundw
      case rel => exact ⟨j + 1, by go_num, by omega, Only.setCell (F := fun _ => False) HE.out (.inl (Nat.le_refl _)) _, HB.out⟩
      case measure => simp [intOf]; omega
    · obtain rfl : j = 128 := by omega
      rw [sectTo_all] at hb
      have HB := hid hb; have HE := hid he
      clear hb he
      go_wp2
      go_ret
      exact ⟨_, rfl, Nat.le_refl _, HB.out.bytes (by intro y hy; unfold sect at hy; rw [List.mem_replicate] at hy; omega) (by simp [sect]) (by omega), HE.out⟩
end Go.Proofs.YtkmgdglmlmodmaaDoor
