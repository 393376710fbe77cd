/- A rack asked: has, Up, Off, N, Sectors, may; Arm. -/
import Derived.Test.YtkmgdglmlmodmaaDoorDiskC
import Derived.Test.YtkmgdglmlmodmaaDoorRackRep
namespace Go.Proofs.YtkmgdglmlmodmaaDoor
set_option linter.unusedVariables false
open Go Go.RowKit
namespace RackRep
variable {w w' : World} {K : RSk} {R : Rck}
theorem has_eq (h : RackRep w K R) (i : Int) : R.has i = (decide (0 ≤ i) && decide (i < (K.n : Int))) := by unfold Rck.has; rw [h.len]
theorem has_nat (h : RackRep w K R) {i : Int} (hi : R.has i = true) : ∃ j : Nat, i = j ∧ j < K.n := by
  rw [h.has_eq] at hi
  simp only [Bool.and_eq_true, decide_eq_true_eq] at hi
  exact ⟨i.toNat, by omega, by omega⟩
theorem dskAt (h : RackRep w K R) {j : Nat} (hj : j < K.n) : DiskRep w (K.ks j) (R.dsk (j : Int)) := by
  unfold Rck.dsk; rw [Int.toNat_natCast]; exact h.dsk j hj
theorem sectors_eq (h : RackRep w K R) : R.sectors = K.m := by
  have := h.dskAt (j := 0) h.pos
  unfold Rck.sectors
  rw [show ((0 : Int)) = ((0 : Nat) : Int) from rfl, this.len, h.secs 0 h.pos]
/-- Its own cells turned. -/
theorem set (h : RackRep w K R) {R' : Rck} (hl : R'.l = R.l) (hf : -1 ≤ R'.fuse ∧ R'.fuse ≤ 9223372036854775807) {i : Nat} {v : Value} (hA : (rckA K R).setIfInBounds i v = rckA K R') : RackRep (w.setCell ⟨K.r, i, none⟩ v) K R' where
  len := by rw [hl]; exact h.len
  pos := h.pos
  small := h.small
  own := by rw [block_set h.own, hA]
  arr := by
    have e : (w.setCell ⟨K.r, i, none⟩ v).heap[K.lb]? = w.heap[K.lb]? := block_set_other _ (Ne.symm h.two)
    refine ⟨h.arr.1, ?_⟩
    rcases h.arr.2 with h' | ⟨g, c, cur, h1, h2, h3, h4⟩
    · exact .inl h'
    · have := h1; unfold RSk.val at this; cases this
      exact .inr ⟨K.lb, _, cur, rfl, Nat.zero_le _, e.trans h3, h4⟩
  dsk := fun j hj => by rw [hl]; exact (h.dsk j hj).same fun b hb => block_set_other _ (h.far j b hj hb).1
  secs := h.secs
  fuse := hf
  one := h.one
  far := h.far
  two := h.two
theorem free (h : RackRep w K R) (i : Nat) : w.frozen? ⟨K.r, i, none⟩ = false := free_at h.own
end RackRep
theorem only_set (w : World) (r i : Nat) (v : Value) : Only (fun b => b = r) w (w.setCell ⟨r, i, none⟩ v) := Only.setCell (Only.refl (fun b => b = r) w) (.inr rfl) v
theorem rhas_c {w : World} {K : RSk} {R : Rck} (h : RackRep w K R) (i : Int) :
    Calls Tryd.prog 76 #[.pointer (some ⟨K.r, 0, none⟩), .int .i64 i] w fun e w' => e = .returned (.bool (R.has i)) ∧ w = w' := by
  have c0 := h.cell0
  rw [h.has_eq]
  clear h
  by_cases h0 : 0 ≤ i
  · have HV : Hid ((decide (0 ≤ i) && decide (i < (K.n : Int))) = decide (i < (K.n : Int))) := hid (by simp [h0])
    rw [HV.out]
    go_enter Tryd.func76, Tryd.ntmps76
    go_wp2
    go_ret
    exact ⟨rfl, rfl⟩
  · have HV : Hid ((decide (0 ≤ i) && decide (i < (K.n : Int))) = false) := hid (by simp [h0])
    rw [HV.out]
    go_enter Tryd.func76, Tryd.ntmps76
    go_wp2
    go_ret
    exact ⟨rfl, rfl⟩
theorem rup_c {w : World} {K : RSk} {R : Rck} (h : RackRep w K R) (i : Int) :
    Calls Tryd.prog 37 #[.pointer (some ⟨K.r, 0, none⟩), .int .i64 i] w fun e w' => e = .returned (.bool (R.up i)) ∧ w = w' := by
  have c0 := h.cell0
  have H := hid h
  rcases hh : R.has i with _ | _
  · have HV : Hid (R.up i = false) := hid (by unfold Rck.up; rw [hh]; rfl)
    have HH := hid hh
    rw [HV.out]
    clear h hh
    go_enter Tryd.func37, Tryd.ntmps37
    go_wp2_with (go_at_call 76; refine (rhas_c H.out i).mono ?_; rintro e w' ⟨rfl, rfl⟩; rw [HH.out])
    go_ret
    exact ⟨rfl, rfl⟩
  · obtain ⟨j, rfl, hj⟩ := h.has_nat hh
    have HV : Hid (R.up (j : Int) = !(R.dsk (j : Int)).dead) := hid (by unfold Rck.up; rw [hh]; rfl)
    have HH := hid hh
    have cP := h.cellP j hj
    have HD := hid (h.dskAt hj)
    have i0 : (0 : Int) ≤ (j : Int) := by omega
    have i1 : (j : Int) < (K.n : Int) := by omega
    rw [HV.out]
    clear h hh hj
    go_enter Tryd.func37, Tryd.ntmps37
    go_wp2_with (first
      | (go_at_call 76; refine (rhas_c H.out j).mono ?_; rintro e w' ⟨rfl, rfl⟩; rw [HH.out])
      | (go_at_call 80; refine (ddead_c HD.out).mono ?_; rintro e w' ⟨rfl, rfl⟩))
    go_ret
    exact ⟨rfl, rfl⟩
theorem roff_c {w : World} {K : RSk} {R : Rck} (h : RackRep w K R) :
    Calls Tryd.prog 27 #[.pointer (some ⟨K.r, 0, none⟩)] w fun e w' => e = .returned (.bool R.off) ∧ w = w' := by
  have c1 := h.cell1
  clear h
  go_enter Tryd.func27, Tryd.ntmps27
  go_wp2
  go_ret
  exact ⟨rfl, rfl⟩
theorem rn_c {w : World} {K : RSk} {R : Rck} (h : RackRep w K R) :
    Calls Tryd.prog 83 #[.pointer (some ⟨K.r, 0, none⟩)] w fun e w' => e = .returned (.int .i64 K.n) ∧ w = w' := by
  have c0 := h.cell0
  clear h
  go_enter Tryd.func83, Tryd.ntmps83
  go_wp2
  go_ret
  exact ⟨rfl, rfl⟩
theorem rsectors_c {w : World} {K : RSk} {R : Rck} (h : RackRep w K R) :
    Calls Tryd.prog 69 #[.pointer (some ⟨K.r, 0, none⟩)] w fun e w' => e = .returned (.int .i64 K.m) ∧ w = w' := by
  have c0 := h.cell0
  have cP := h.cellP 0 h.pos
  have HD := hid (h.dskAt h.pos)
  have hm := h.secs 0 h.pos
  have hp := h.pos
  have HM := hid hm
  have i1 : (0 : Int) < (K.n : Int) := by omega
  clear h hm
  go_enter Tryd.func69, Tryd.ntmps69
  go_wp2_with (go_at_call 95; refine (dsectors_c HD.out).mono ?_; rintro e w' ⟨rfl, rfl⟩; rw [HM.out])
  go_ret
  exact ⟨rfl, rfl⟩
/-- What may leaves. -/
def MayPost (w : World) (K : RSk) (R : Rck) (i : Int) (wrong : Bool) (e : Ending) (w' : World) : Prop :=
  e = .returned (.int .i64 (R.may i wrong)) ∧ RackRep w' K (R.asked i wrong) ∧ Only (fun b => b = K.r) w w'
set_option maxHeartbeats 800000 in
theorem rmay_c {w : World} {K : RSk} {R : Rck} (h : RackRep w K R) (i : Int) (wrong : Bool) :
    Calls Tryd.prog 68 #[.pointer (some ⟨K.r, 0, none⟩), .int .i64 i, .bool wrong] w (MayPost w K R i wrong) := by
  have H := hid h
  have c1 := h.cell1
  have c2 := h.cell2
  have f1 := h.free 1
  have f2 := h.free 2
  have hf := h.fuse
  rcases hh : R.has i with _ | _
  · have HH := hid hh
    have HF : Hid (MayPost w K R i wrong (.returned (.int .i64 1)) w) := hid ⟨by unfold Rck.may; rw [hh]; rfl, by unfold Rck.asked; rw [hh]; exact h, Only.refl _ _⟩
    clear h hh
    go_enter Tryd.func68, Tryd.ntmps68
    go_wp2_with (go_at_call 76; refine (rhas_c H.out i).mono ?_; rintro e w' ⟨rfl, rfl⟩; rw [HH.out])
    go_ret
    exact HF.out
  · have HH := hid hh
    rcases ho : R.off with _ | _
    · rw [ho] at c1
      rcases hu : R.up i with _ | _
      · have HU := hid hu
        have HF : Hid (MayPost w K R i wrong (.returned (.int .i64 5)) w) := hid ⟨by unfold Rck.may; rw [hh, ho, hu]; rfl, by unfold Rck.asked; rw [hh, ho, hu]; exact h, Only.refl _ _⟩
        clear h hh hu ho
        go_enter Tryd.func68, Tryd.ntmps68
        go_wp2_with (first
          | (go_at_call 76; refine (rhas_c H.out i).mono ?_; rintro e w' ⟨rfl, rfl⟩; rw [HH.out])
          | (go_at_call 37; refine (rup_c H.out i).mono ?_; rintro e w' ⟨rfl, rfl⟩; rw [HU.out]))
        go_ret
        exact HF.out
      · have HU := hid hu
        rcases wrong with _ | _
        · by_cases h0 : R.fuse = 0
          · have hR := h.set (R' := { R with off := true }) rfl hf (i := 1) (v := .bool true) rfl
            have HF : Hid (MayPost w K R i false (.returned (.int .i64 5)) (w.setCell ⟨K.r, 1, none⟩ (.bool true))) := hid ⟨by unfold Rck.may; rw [hh, ho, hu, if_neg (by simp), if_neg (by simp), if_neg (by simp), if_pos h0], by unfold Rck.asked; rw [hh, ho, hu, if_neg (by simp), if_neg (by simp), if_neg (by simp), if_pos h0]; exact hR, only_set _ _ _ _⟩
            rw [h0] at c2
            clear h hh hu ho hR h0 hf
            go_enter Tryd.func68, Tryd.ntmps68
            go_wp2_with (first
              | (go_at_call 76; refine (rhas_c H.out i).mono ?_; rintro e w' ⟨rfl, rfl⟩; rw [HH.out])
              | (go_at_call 37; refine (rup_c H.out i).mono ?_; rintro e w' ⟨rfl, rfl⟩; rw [HU.out]))
            go_ret
            exact HF.out
          · obtain ⟨fu, hfu⟩ : ∃ fu, R.fuse = fu := ⟨_, rfl⟩
            rw [hfu] at c2 h0 hf
            by_cases hp : 0 < fu
            · have hR := h.set (R' := { R with fuse := fu - 1 }) rfl ⟨by simp; omega, by simp; omega⟩ (i := 2) (v := .int .i64 (fu - 1)) rfl
              have HF : Hid (MayPost w K R i false (.returned (.int .i64 0)) (w.setCell ⟨K.r, 2, none⟩ (.int .i64 (fu - 1)))) := hid ⟨by unfold Rck.may; rw [hh, ho, hu, if_neg (by simp), if_neg (by simp), if_neg (by simp), if_neg (by omega)], by unfold Rck.asked; rw [hh, ho, hu, if_neg (by simp), if_neg (by simp), if_neg (by simp), if_neg (by omega), if_pos (by omega)]; rw [ho] at hR; rw [hfu]; exact hR, only_set _ _ _ _⟩
              have b1 : (fu == 0) = false := by simp; omega
              clear h hh hu ho hR h0 hfu
              go_enter Tryd.func68, Tryd.ntmps68
              go_wp2_with (first
                | (go_at_call 76; refine (rhas_c H.out i).mono ?_; rintro e w' ⟨rfl, rfl⟩; rw [HH.out])
                | (go_at_call 37; refine (rup_c H.out i).mono ?_; rintro e w' ⟨rfl, rfl⟩; rw [HU.out]))
              go_ret
              exact HF.out
            · have HF : Hid (MayPost w K R i false (.returned (.int .i64 0)) w) := hid ⟨by unfold Rck.may; rw [hh, ho, hu, if_neg (by simp), if_neg (by simp), if_neg (by simp), if_neg (by omega)], by unfold Rck.asked; rw [hh, ho, hu, if_neg (by simp), if_neg (by simp), if_neg (by simp), if_neg (by omega), if_neg (by omega)]; exact h, Only.refl _ _⟩
              have b1 : (fu == 0) = false := by simp; omega
              clear h hh hu ho h0 hfu
              go_enter Tryd.func68, Tryd.ntmps68
              go_wp2_with (first
                | (go_at_call 76; refine (rhas_c H.out i).mono ?_; rintro e w' ⟨rfl, rfl⟩; rw [HH.out])
                | (go_at_call 37; refine (rup_c H.out i).mono ?_; rintro e w' ⟨rfl, rfl⟩; rw [HU.out]))
              go_ret
              exact HF.out
        · have HF : Hid (MayPost w K R i true (.returned (.int .i64 1)) w) := hid ⟨by unfold Rck.may; rw [hh, ho, hu]; rfl, by unfold Rck.asked; rw [hh, ho, hu]; exact h, Only.refl _ _⟩
          clear h hh hu ho
          go_enter Tryd.func68, Tryd.ntmps68
          go_wp2_with (first
            | (go_at_call 76; refine (rhas_c H.out i).mono ?_; rintro e w' ⟨rfl, rfl⟩; rw [HH.out])
            | (go_at_call 37; refine (rup_c H.out i).mono ?_; rintro e w' ⟨rfl, rfl⟩; rw [HU.out]))
          go_ret
          exact HF.out
    · rw [ho] at c1
      have HF : Hid (MayPost w K R i wrong (.returned (.int .i64 5)) w) := hid ⟨by unfold Rck.may; rw [hh, ho]; rfl, by unfold Rck.asked; rw [hh, ho]; exact h, Only.refl _ _⟩
      clear h hh ho
      go_enter Tryd.func68, Tryd.ntmps68
      go_wp2_with (go_at_call 76; refine (rhas_c H.out i).mono ?_; rintro e w' ⟨rfl, rfl⟩; rw [HH.out])
      go_ret
      exact HF.out
theorem rarm_c {w : World} {K : RSk} {R : Rck} (h : RackRep w K R) (n : Int) (hn : n ≤ 9223372036854775807) :
    Calls Tryd.prog 23 #[.pointer (some ⟨K.r, 0, none⟩), .int .i64 n] w fun e w' => e = .returned (.tuple #[]) ∧ RackRep w' K (R.arm n) ∧ Only (fun b => b = K.r) w w' := by
  have c2 := h.cell2
  have f2 := h.free 2
  by_cases hp : -1 ≤ n
  · have e : max n (-1) = n := by omega
    have HF : Hid (RackRep (w.setCell ⟨K.r, 2, none⟩ (.int .i64 n)) K (R.arm n)) := hid (by unfold Rck.arm; rw [e]; exact h.set (R' := { R with fuse := n }) rfl ⟨hp, hn⟩ rfl)
    have hmax : (if n < -1 then -1 else n) = n := if_neg (by omega)
    have hmax2 : (if (-1 : Int) > n then -1 else n) = n := if_neg (by omega)
    clear h e
    go_enter Tryd.func23, Tryd.ntmps23
    go_wp2
    go_end0
    exact ⟨rfl, HF.out, only_set _ _ _ _⟩
  · have e : max n (-1) = -1 := by omega
    have HF : Hid (RackRep (w.setCell ⟨K.r, 2, none⟩ (.int .i64 (-1))) K (R.arm n)) := hid (by unfold Rck.arm; rw [e]; exact h.set (R' := { R with fuse := -1 }) rfl ⟨by simp, by simp⟩ rfl)
    have hmax : (if n < -1 then -1 else n) = -1 := if_pos (by omega)
    clear h e
    go_enter Tryd.func23, Tryd.ntmps23
    go_wp2
    go_end0
    exact ⟨rfl, HF.out, only_set _ _ _ _⟩
end Go.Proofs.YtkmgdglmlmodmaaDoor
