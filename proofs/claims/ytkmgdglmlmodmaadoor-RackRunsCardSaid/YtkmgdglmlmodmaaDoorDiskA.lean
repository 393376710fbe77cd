/- slices.Clone of bytes; a disk's refusals, writing, reading. -/
import Derived.Test.YtkmgdglmlmodmaaDoorFault
import Derived.Test.YtkmgdglmlmodmaaDoorDiskRep
import Derived.Test.YtkmgdglmlmodmaaDoorRackPure
import Derived.Test.YtkmgdglmlmodmaaDoorRely
import Derived.Test.YtkmgdglmlmodmaaDoorRunLaws
namespace Go.Proofs.YtkmgdglmlmodmaaDoor
set_option linter.unusedVariables false
open Go Go.RowKit
def ClonePost (w : World) (n : Nat) (l : List Nat) (e : Ending) (w' : World) : Prop :=
  ∃ s : Spot, e = .returned (.slice (some ⟨s.blk, 0, none⟩) n s.cap) ∧ w.heap.size ≤ s.blk ∧ w'.ownsRow 0 5 1 (.slice (some ⟨s.blk, 0, none⟩) n s.cap) n (l.map bv) ∧ Ext w w'
set_option maxRecDepth 100000 in
theorem clone_c (b off c n : Nat) (l : List Nat) (w : World) (h : BytesAt w (some ⟨b, off, none⟩) n l) :
    Calls Tryd.prog 97 #[.slice (some ⟨b, off, none⟩) n c] w (ClonePost w n l) := by
  have hE : ∀ W, (binOp .eql 27 (.slice (some ⟨b, off, none⟩) n c) (.slice none 0 0)).run Tryd.prog W = .ok (.bool false) W := fun W => Lib.run_eql_slice_nil W _ _ _ _ _ _ _ Tryd.underlying27
  obtain ⟨p, pc, v2, hap, hown, hon, hgp⟩ := append_fresh (w.alloc (.cells #[] 5)) w.heap.size block_alloc (some ⟨b, off, none⟩) n c l (h.ext ((Ext.refl w).alloc _))
  have HO := hid hown; have HN := hid hon
  clear hown hon
  go_enter Tryd.func97, Tryd.ntmps97
  go_wp2_with (refine wpList_append_run rfl _ _ _ rfl _ _ _ _ rfl rfl hap ?_)
  go_ret
  exact ⟨⟨p, pc⟩, rfl, hgp, HO.out, Ext.then ((Ext.refl w).alloc _) HN.out (fun i hi e => by have : i = w.heap.size := e; omega)⟩
theorem refused_c {w : World} {k : DSk} {D : Dsk} (h : DiskRep w k D) (op : ByteArray) (i : Int) (wrong : Bool) :
    Calls Tryd.prog 96 #[.pointer (some ⟨k.p, 0, none⟩), .string op, .int .i64 i, .bool wrong] w fun e w' => e = .returned (oErr (D.refusedE op i wrong)) ∧ w = w' := by
  have c0 := h.cell0
  have c3 := h.cell3
  have hl := h.len
  have H : Hid (D.refusedE op i wrong = if D.dead then some (.fault op i (.no 5)) else if wrong || decide (i < 0) || decide ((k.n : Int) ≤ i) then some (.fault op i (.no 1)) else none) := hid (by unfold Dsk.refusedE; rw [hl])
  rw [H.out]
  have hs := h.small
  clear H hl h
  rcases hd : D.dead with _ | _
  · rw [hd] at c3
    clear hd
    rcases wrong with _ | _
    · by_cases hi : i < 0
      · have H2 : Hid ((if false = true then some (Err.fault op i (Err.no 5)) else if (false || decide (i < 0) || decide ((k.n : Int) ≤ i)) = true then some (Err.fault op i (Err.no 1)) else none) = some (Err.fault op i (Err.no 1))) := hid (by simp [hi])
        rw [H2.out]
        go_enter Tryd.func96, Tryd.ntmps96
        go_wp2_with (go_at_call 61; refine (wrap_err op i (.no 1) _).mono ?_; rintro e w' ⟨rfl, rfl⟩)
        go_ret
        exact ⟨rfl, rfl⟩
      · by_cases hn : (k.n : Int) ≤ i
        · have H2 : Hid ((if false = true then some (Err.fault op i (Err.no 5)) else if (false || decide (i < 0) || decide ((k.n : Int) ≤ i)) = true then some (Err.fault op i (Err.no 1)) else none) = some (Err.fault op i (Err.no 1))) := hid (by simp [hn])
          rw [H2.out]
          go_enter Tryd.func96, Tryd.ntmps96
          go_wp2_with (go_at_call 61; refine (wrap_err op i (.no 1) _).mono ?_; rintro e w' ⟨rfl, rfl⟩)
          go_ret
          exact ⟨rfl, rfl⟩
        · have H2 : Hid ((if false = true then some (Err.fault op i (Err.no 5)) else if (false || decide (i < 0) || decide ((k.n : Int) ≤ i)) = true then some (Err.fault op i (Err.no 1)) else none) = none) := hid (by simp [hi, hn])
          rw [H2.out]
          go_enter Tryd.func96, Tryd.ntmps96
          go_wp2_with (go_at_call 61; refine (wrap_err op i (.no 1) _).mono ?_; rintro e w' ⟨rfl, rfl⟩)
          go_ret
          exact ⟨rfl, rfl⟩
    · have H2 : Hid ((if false = true then some (Err.fault op i (Err.no 5)) else if (true || decide (i < 0) || decide ((k.n : Int) ≤ i)) = true then some (Err.fault op i (Err.no 1)) else none) = some (Err.fault op i (Err.no 1))) := hid (by simp)
      rw [H2.out]
      go_enter Tryd.func96, Tryd.ntmps96
      go_wp2_with (go_at_call 61; refine (wrap_err op i (.no 1) _).mono ?_; rintro e w' ⟨rfl, rfl⟩)
      go_ret
      exact ⟨rfl, rfl⟩
  · rw [hd] at c3
    clear hd
    rw [if_pos rfl]
    go_enter Tryd.func96, Tryd.ntmps96
    go_wp2_with (go_at_call 61; refine (wrap_err op i (.no 5) _).mono ?_; rintro e w' ⟨rfl, rfl⟩)
    go_ret
    exact ⟨rfl, rfl⟩
theorem dsectors_c {w : World} {k : DSk} {D : Dsk} (h : DiskRep w k D) :
    Calls Tryd.prog 95 #[.pointer (some ⟨k.p, 0, none⟩)] w fun e w' => e = .returned (.int .i64 k.n) ∧ w = w' := by
  have c0 := h.cell0
  clear h
  go_enter Tryd.func95, Tryd.ntmps95
  go_wp2
  go_ret
  exact ⟨rfl, rfl⟩
theorem ddead_c {w : World} {k : DSk} {D : Dsk} (h : DiskRep w k D) :
    Calls Tryd.prog 80 #[.pointer (some ⟨k.p, 0, none⟩)] w fun e w' => e = .returned (.bool D.dead) ∧ w = w' := by
  have c3 := h.cell3
  clear h
  go_enter Tryd.func80, Tryd.ntmps80
  go_wp2
  go_ret
  exact ⟨rfl, rfl⟩
end Go.Proofs.YtkmgdglmlmodmaaDoor
