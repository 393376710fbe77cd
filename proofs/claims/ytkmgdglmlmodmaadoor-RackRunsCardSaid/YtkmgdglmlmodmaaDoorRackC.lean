/- A rack flushed, read. -/
import Derived.Test.YtkmgdglmlmodmaaDoorRackB
namespace Go.Proofs.YtkmgdglmlmodmaaDoor
set_option linter.unusedVariables false
open Go Go.RowKit
def RFlushPost (w : World) (K : RSk) (R : Rck) (i : Int) (e : Ending) (w' : World) : Prop :=
  e = .returned (oErr (R.flush i).1) ∧ ∃ K', RackTo w K w' (R.flush i).2 K'
set_option maxRecDepth 100000 in
set_option maxHeartbeats 1000000 in
theorem rflush_c {w : World} {K : RSk} {R : Rck} (h : RackRep w K R) (i : Int) :
    Calls Tryd.prog 26 #[.pointer (some ⟨K.r, 0, none⟩), .int .i64 i] w (RFlushPost w K R i) := by
  have H := hid h
  by_cases hm : R.may i false = 0
  · obtain ⟨q1, q2, q3, _, q5⟩ := Rck.may_zero hm
    obtain ⟨j, rfl, hj⟩ := h.has_nat q1
    have i0 : (0 : Int) ≤ (j : Int) := by omega
    have i1 : (j : Int) < (K.n : Int) := by omega
    have hal := Rck.up_alive q3
    have HM := hid hm
    have HF : Hid (∀ w1 w2 k', RackRep w1 K (R.asked j false) → Only (fun b => b = K.r) w w1 → DiskTo w1 (K.ks j) w2 ((R.dsk j).flush) k' → RFlushPost w K R j (.returned .nilIface) w2) := hid fun w1 w2 k' e1 e2 e3 => by
      unfold RFlushPost Rck.flush
      rw [hm, if_pos rfl]
      exact ⟨rfl, _, RackTo.disk e1 e2 hj e3⟩
    have HDW : Hid (∀ w1, RackRep w1 K (R.asked j false) → Calls Tryd.prog 71 #[.pointer (some ⟨(K.ks j).p, 0, none⟩)] w1 (DFlushPost w1 (K.ks j) ((R.dsk j).flush))) := hid fun w1 e1 => by
      have e3 : (R.asked (j : Int) false).dsk j = R.dsk j := by unfold Rck.dsk; rw [Rck.asked_l]
      have := e1.dskAt hj
      rw [e3] at this
      exact dflush_c this hal
    clear h hm q1 q2 q3 q5 hal
    go_enter Tryd.func26, Tryd.ntmps26
    go_wp2_with (first
      | (go_at_call 68; refine (rmay_c H.out j false).mono ?_; rintro e w1 ⟨rfl, hr1, ho1⟩; have HR1 := hid hr1; have HO1 := hid ho1; have c0 := HR1.out.cell0; have cP := HR1.out.cellP j hj; clear hr1 ho1; rw [HM.out])
      | (go_at_call 71; refine (HDW.out _ HR1.out).mono ?_; rintro e w2 ⟨rfl, k', ht2⟩; have HT2 := hid ht2; clear ht2 c0 cP)
      | (go_at_call 61; refine (wrap_nil sRackFlush j _).mono ?_; rintro e w2 ⟨rfl, rfl⟩))
    go_ret
    exact HF.out _ _ _ HR1.out HO1.out HT2.out
  · obtain ⟨m0, hm0⟩ : ∃ m0, R.may i false = m0 := ⟨_, rfl⟩
    have hm0n : m0 ≠ 0 := fun e => hm (hm0.trans e)
    have bm0 : (m0 != 0) = true := by simpa using hm0n
    have HM0 := hid hm0
    have HF : Hid (∀ w1, RackRep w1 K (R.asked i false) → Only (fun b => b = K.r) w w1 → RFlushPost w K R i (.returned (Err.fault sRackFlush i (.no m0)).val) w1) := hid fun w1 e1 e2 => by
      unfold RFlushPost Rck.flush
      rw [if_neg hm, hm0]
      exact ⟨rfl, K, RackTo.asked e1 e2⟩
    clear h hm hm0
    go_enter Tryd.func26, Tryd.ntmps26
    go_wp2_with (first
      | (go_at_call 68; refine (rmay_c H.out i false).mono ?_; rintro e w1 ⟨rfl, hr1, ho1⟩; have HR1 := hid hr1; have HO1 := hid ho1; clear hr1 ho1; rw [HM0.out])
      | (go_at_call 61; refine (wrap_err sRackFlush i (.no m0) _).mono ?_; rintro e w2 ⟨rfl, rfl⟩))
    go_ret
    exact HF.out _ HR1.out HO1.out
def RReadPost (w : World) (R : Rck) (i s : Int) (e : Ending) (w' : World) : Prop :=
  (∃ er, R.readE i s = some er ∧ e = .returned (.tuple #[.slice none 0 0, er.val]) ∧ Ext w w') ∨
  (R.readE i s = none ∧ ∃ p : Spot, e = .returned (.tuple #[.slice (some ⟨p.blk, 0, none⟩) 128 p.cap, .nilIface]) ∧ w.heap.size ≤ p.blk ∧ SecAt w' p ((R.dsk i).read s.toNat) ∧ Ext w w')
set_option maxRecDepth 100000 in
set_option maxHeartbeats 1000000 in
theorem rread_c {w : World} {K : RSk} {R : Rck} (h : RackRep w K R) (i s : Int) :
    Calls Tryd.prog 32 #[.pointer (some ⟨K.r, 0, none⟩), .int .i64 i, .int .i64 s] w (RReadPost w R i s) := by
  have H := hid h
  have c1 := h.cell1
  rcases hh : R.has i with _ | _
  · have HH := hid hh
    have HE : Hid (R.readE i s = some (.fault sRackRead i (.no 1))) := hid (by unfold Rck.readE; rw [hh]; rfl)
    clear h hh
    go_enter Tryd.func32, Tryd.ntmps32
    go_wp2_with (first
      | (go_at_call 76; refine (rhas_c H.out i).mono ?_; rintro e w' ⟨rfl, rfl⟩; rw [HH.out])
      | (go_at_call 61; refine (wrap_err sRackRead i (.no 1) _).mono ?_; rintro e w2 ⟨rfl, rfl⟩))
    go_ret2
    exact .inl ⟨_, HE.out, rfl, Ext.refl _⟩
  · have HH := hid hh
    rcases ho : R.off with _ | _
    · rw [ho] at c1
      obtain ⟨j, rfl, hj⟩ := h.has_nat hh
      have c0 := h.cell0
      have cP := h.cellP j hj
      have i0 : (0 : Int) ≤ (j : Int) := by omega
      have i1 : (j : Int) < (K.n : Int) := by omega
      have HD := hid (h.dskAt hj)
      have HE : Hid (R.readE j s = ((R.dsk j).refusedE sDiskRead s false).map (.fault sRackRead j)) := hid (by unfold Rck.readE; rw [hh, ho]; rfl)
      clear h hh ho
      go_enter Tryd.func32, Tryd.ntmps32
      go_wp2_with (go_at_call 76; refine (rhas_c H.out j).mono ?_; rintro e w' ⟨rfl, rfl⟩; rw [HH.out])
      refine (dread_c HD.out s).mono ?_
      rintro e w2 (⟨er, h1, rfl, hx⟩ | ⟨h1, p, rfl, hp, hs, hx⟩)
      · have H1 := hid h1; have HX := hid hx
        clear h1 hx
        go_wp2_with fail
        refine (wrap_err sRackRead j er _).mono ?_
        rintro e w3 ⟨rfl, rfl⟩
        go_wp2
        go_ret2
        exact .inl ⟨_, by rw [HE.out, H1.out]; rfl, rfl, HX.out⟩
      · have H1 := hid h1; have HX := hid hx; have HS := hid hs
        clear h1 hx hs
        go_wp2_with (go_at_call 61; refine (wrap_nil sRackRead j _).mono ?_; rintro e w3 ⟨rfl, rfl⟩)
        go_ret2
        exact .inr ⟨by rw [HE.out, H1.out]; rfl, p, rfl, hp, HS.out, HX.out⟩
    · rw [ho] at c1
      have HE : Hid (R.readE i s = some (.fault sRackRead i (.no 5))) := hid (by unfold Rck.readE; rw [hh, ho]; rfl)
      clear h hh ho
      go_enter Tryd.func32, Tryd.ntmps32
      go_wp2_with (first
        | (go_at_call 76; refine (rhas_c H.out i).mono ?_; rintro e w' ⟨rfl, rfl⟩; rw [HH.out])
        | (go_at_call 61; refine (wrap_err sRackRead i (.no 5) _).mono ?_; rintro e w2 ⟨rfl, rfl⟩))
      go_ret2
      exact .inl ⟨_, HE.out, rfl, Ext.refl _⟩
end Go.Proofs.YtkmgdglmlmodmaaDoor
