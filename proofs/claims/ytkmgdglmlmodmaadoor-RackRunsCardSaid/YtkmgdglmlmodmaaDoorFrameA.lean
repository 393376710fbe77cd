/- frame.Right and what it leans on: may a frame be. -/
import Derived.Test.YtkmgdglmlmodmaaDoorCrc
import Derived.Test.YtkmgdglmlmodmaaDoorFramePure
import Derived.Test.YtkmgdglmlmodmaaDoorAgg
import Derived.Test.YtkmgdglmlmodmaaDoorBlk
import Derived.Test.YtkmgdglmlmodmaaDoorMix
import Derived.Test.YtkmgdglmlmodmaaDoorQuietTail
namespace Go.Proofs.YtkmgdglmlmodmaaDoor
set_option linter.unusedVariables false
open Go.RowKit Go
namespace Frm
/-- A frame's cells. -/
def cl (f : Frm) : List Value := [.int .i64 f.kind, .int .i64 f.slot, .int .i64 f.stripe, .int .i64 f.gen] ++ f.data.map bv
@[irreducible] def A (f : Frm) : Array Value := (cl f).toArray
theorem A_def (f : Frm) : A f = (cl f).toArray := by unfold A; rfl
theorem A_size (f : Frm) (h : f.Ok) : (A f).size = 112 := by rw [A_def]; simp [cl, h.len]
theorem A0 (f : Frm) : (A f)[0]? = some (.int .i64 f.kind) := by rw [A_def]; rfl
theorem A1 (f : Frm) : (A f)[1]? = some (.int .i64 f.slot) := by rw [A_def]; rfl
theorem A2 (f : Frm) : (A f)[2]? = some (.int .i64 f.stripe) := by rw [A_def]; rfl
theorem A3 (f : Frm) : (A f)[3]? = some (.int .i64 f.gen) := by rw [A_def]; rfl
theorem A4 (f : Frm) (i : Nat) (h : i < f.data.length) : (A f)[4 + i]? = some (.int .u8 (nth f.data i)) := by
  rw [A_def, Nat.add_comm, List.getElem?_toArray]
  show (f.data.map bv)[i]? = _
  rw [List.getElem?_map, List.getElem?_eq_getElem h, nth_eq h]; rfl
theorem A_one (f : Frm) : ∀ v ∈ (A f).toList, v.oneCell' = true := by
  intro v hv
  rw [A_def] at hv
  simp only [cl, List.mem_append, List.mem_cons, List.not_mem_nil, or_false] at hv
  rcases hv with (rfl | rfl | rfl | rfl) | hv
  · rfl
  · rfl
  · rfl
  · rfl
  · obtain ⟨x, _, rfl⟩ := List.mem_map.1 hv; rfl
end Frm
theorem fwithin_c (n lo hi : Int) (w : World) :
    Calls Tryd.prog 93 #[.int .i64 n, .int .i64 lo, .int .i64 hi] w fun e w' => e = .returned (.bool (Frm.isIn n lo hi)) ∧ w = w' := by
  by_cases h : lo ≤ n
  · have h1 : decide (lo ≤ n) = true := by simp [h]
    have HI : Hid (Frm.isIn n lo hi = decide (n ≤ hi)) := hid (by simp [Frm.isIn, h])
    rw [HI.out]
    go_enter Tryd.func93, Tryd.ntmps93
    go_wp2
    go_ret
    exact ⟨rfl, rfl⟩
  · have h1 : decide (lo ≤ n) = false := by simp [h]
    have HI : Hid (Frm.isIn n lo hi = false) := hid (by simp [Frm.isIn, h])
    rw [HI.out]
    go_enter Tryd.func93, Tryd.ntmps93
    go_wp2
    go_ret
    exact ⟨rfl, rfl⟩
set_option maxRecDepth 100000 in
set_option maxHeartbeats 1000000 in
theorem fright_c (f : Frm) (w : World) :
    Calls Tryd.prog 63 #[.agg (Frm.A f)] w fun e w' => e = .returned (.bool f.right) ∧ Ext w w' := by
  have a0 := Frm.A0 f
  have a1 := Frm.A1 f
  have a2 := Frm.A2 f
  have a3 := Frm.A3 f
  have HR : Hid (f.right = (Frm.isIn f.kind 1 3 && Frm.isIn f.slot 0 7 && Frm.isIn f.stripe 0 63 && Frm.isIn f.gen 0 1152921504606846976)) := hid rfl
  rw [HR.out]
  clear HR
  obtain ⟨k, s, st, g, d⟩ := f
  simp only at a0 a1 a2 a3 ⊢
  generalize Frm.A _ = A at *
  rcases h1 : Frm.isIn k 1 3 with _ | _
  · rw [Bool.false_and, Bool.false_and, Bool.false_and]
    go_enter Tryd.func63, Tryd.ntmps63
    go_wp2_with (go_at_call 93; refine (fwithin_c _ _ _ _).mono ?_; rintro e w' ⟨rfl, rfl⟩)
    go_ret
    exact ⟨rfl, (Ext.refl w).alloc _⟩
  · rcases h2 : Frm.isIn s 0 7 with _ | _
    · rw [Bool.true_and, Bool.false_and, Bool.false_and]
      go_enter Tryd.func63, Tryd.ntmps63
      go_wp2_with (go_at_call 93; refine (fwithin_c _ _ _ _).mono ?_; rintro e w' ⟨rfl, rfl⟩)
      go_ret
      exact ⟨rfl, (Ext.refl w).alloc _⟩
    · rcases h3 : Frm.isIn st 0 63 with _ | _
      · rw [Bool.true_and, Bool.true_and, Bool.false_and]
        go_enter Tryd.func63, Tryd.ntmps63
        go_wp2_with (go_at_call 93; refine (fwithin_c _ _ _ _).mono ?_; rintro e w' ⟨rfl, rfl⟩)
        go_ret
        exact ⟨rfl, (Ext.refl w).alloc _⟩
      · rw [Bool.true_and, Bool.true_and, Bool.true_and]
        go_enter Tryd.func63, Tryd.ntmps63
        go_wp2_with (go_at_call 93; refine (fwithin_c _ _ _ _).mono ?_; rintro e w' ⟨rfl, rfl⟩)
        go_ret
        exact ⟨rfl, (Ext.refl w).alloc _⟩
end Go.Proofs.YtkmgdglmlmodmaaDoor
