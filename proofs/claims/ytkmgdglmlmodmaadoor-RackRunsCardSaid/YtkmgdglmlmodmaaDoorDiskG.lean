/- A disk's waiting sectors; a crash. -/
import Derived.Test.YtkmgdglmlmodmaaDoorDiskD
import Derived.Test.YtkmgdglmlmodmaaDoorInts
namespace Go.Proofs.YtkmgdglmlmodmaaDoor
set_option linter.unusedVariables false
open Go Go.RowKit
/-- Of the first j sectors those that wait. -/
def Dsk.upTo (D : Dsk) (j : Nat) : List Nat := (List.range j).filter fun i => (D.waits i).isSome
theorem Dsk.upTo_succ (D : Dsk) (j : Nat) : D.upTo (j + 1) = D.upTo j ++ if (D.waits j).isSome then [j] else [] := by
  unfold upTo
  rw [List.range_succ, List.filter_append]
  by_cases h : (D.waits j).isSome = true <;> simp [h]
theorem Dsk.upTo_len (D : Dsk) (j : Nat) : (D.upTo j).length ≤ j := by
  unfold upTo
  have := List.length_filter_le (fun i => (D.waits i).isSome) (List.range j)
  simpa using this
def DWaitsPost (w : World) (D : Dsk) (e : Ending) (w' : World) : Prop := ∃ v, e = .returned v ∧ OwnInts w' w.heap.size v D.waiting ∧ Ext w w'
set_option maxHeartbeats 800000 in
theorem dwaits_c {w : World} {k : DSk} {D : Dsk} (h : DiskRep w k D) :
    Calls Tryd.prog 99 #[.pointer (some ⟨k.p, 0, none⟩)] w (DWaitsPost w D) := by
  have c0 := h.cell0
  have H := hid h
  have HW : Hid (D.upTo k.n = D.waiting) := hid (by unfold Dsk.upTo Dsk.waiting; rw [h.len])
  have hsm := h.small
  clear h
  go_enter Tryd.func99, Tryd.ntmps99
  go_wp2
  clear c0
  go_loopw [3, 12] (fun v i wr => ∃ j : Nat, i = .int .i64 j ∧ j ≤ k.n ∧ OwnInts wr w.heap.size v (D.upTo j) ∧ Ext w wr) (fun _ i _ => k.n - (intOf i).toNat)
  case atStart => exact ⟨0, rfl, by omega, OwnInts.nil _ _, Ext.refl _⟩
  case round =>
    obtain ⟨j, rfl, hj, hown, hx⟩ := hrel
    by_cases hlt : j < k.n
    · have hr := H.out.ext hx
      have c1 := hr.cell1
      have hl := hr.waits_ok j
      have hup := D.upTo_succ j
      have hlen := D.upTo_len j
      rcases hw : k.wf j with _ | s
      · rw [DSk.wv_none hw] at hl
        simp only [Option.getD_none, Option.isSome_none] at hl
        rw [H.out.waitN j hw] at hup
        simp only [Option.isSome_none, Bool.false_eq_true, if_false, List.append_nil] at hup
        rw [← hup] at hown
        have HO := hid hown; have HX := hid hx
        clear hw hr hup hown hx
        go_wp2
        go_roundw
        case rel => exact ⟨j + 1, by go_num, by omega, HO.out, HX.out⟩
        case measure => simp [intOf]; omega
      · rw [DSk.wv_some hw] at hl
        simp only [Option.getD_some, Option.isSome_some, Spot.val] at hl
        obtain ⟨_, l, hlw, _⟩ := H.out.waitS j s hw
        rw [hlw] at hup
        simp only [Option.isSome_some, if_true] at hup
        obtain ⟨v', W2, hap, hown2, _, hx2⟩ := hown.push j (by omega) hx.size
        rw [← hup] at hown2
        have HO := hid hown2; have HX := hid (hx2 w (Nat.le_refl _) hx)
        clear hw hr hup hown hx hlw hown2 hx2
        go_wp2_with (at_builtin; refine wpList_append_run rfl _ _ _ rfl _ _ _ _ rfl rfl hap ?_)
        go_roundw
        case rel => exact ⟨j + 1, by go_num, by omega, HO.out, HX.out⟩
        case measure => simp [intOf]; omega
    · obtain rfl : k.n = j := by omega
      rw [HW.out] at hown
      have HO := hid hown; have HX := hid hx
      clear hown hx
      go_wp2
      go_ret
      exact ⟨_, rfl, HO.out, HX.out⟩
end Go.Proofs.YtkmgdglmlmodmaaDoor
