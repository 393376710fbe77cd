/- A rack written, flushed, read. -/
import Derived.Test.YtkmgdglmlmodmaaDoorDiskD
import Derived.Test.YtkmgdglmlmodmaaDoorRackA
namespace Go.Proofs.YtkmgdglmlmodmaaDoor
set_option linter.unusedVariables false
open Go Go.RowKit
namespace Rck
theorem may_zero {R : Rck} {i : Int} {wrong : Bool} (h : R.may i wrong = 0) : R.has i = true ∧ R.off = false ∧ R.up i = true ∧ wrong = false ∧ R.fuse ≠ 0 := by
  unfold may at h
  cases hh : R.has i
  · rw [hh] at h; simp at h
  · rw [hh, if_neg (by simp)] at h
    cases ho : R.off
    · cases hu : R.up i
      · rw [ho, hu] at h; simp at h
      · rw [ho, hu, if_neg (by simp)] at h
        cases wrong
        · rw [if_neg (by simp)] at h
          by_cases hf : R.fuse = 0
          · rw [if_pos hf] at h; simp at h
          · exact ⟨rfl, rfl, rfl, rfl, hf⟩
        · simp at h
    · rw [ho] at h; simp at h
theorem asked_l (R : Rck) (i : Int) (wrong : Bool) : (R.asked i wrong).l = R.l := by
  unfold asked
  split
  · rfl
  · split
    · rfl
    · split
      · rfl
      · split
        · rfl
        · split <;> rfl
theorem up_alive {R : Rck} {i : Int} (h : R.up i = true) : (R.dsk i).dead = false := by
  unfold up at h
  simp only [Bool.and_eq_true, Bool.not_eq_true'] at h
  exact h.2
end Rck
/-- What a call on the rack leaves: a rack at the same place. -/
structure RackTo (w : World) (K : RSk) (w' : World) (R' : Rck) (K' : RSk) : Prop where
  rep : RackRep w' K' R'
  r : K'.r = K.r
  foot : ∀ b, K'.foot b → K.foot b ∨ w.heap.size ≤ b
  only : Only K.foot w w'
theorem RackTo.asked {w w' : World} {K : RSk} {R' : Rck} (h : RackRep w' K R') (e : Only (fun b => b = K.r) w w') : RackTo w K w' R' K :=
  ⟨h, rfl, fun b hb => .inl hb, e.mono fun b _ hb => .inl hb⟩
theorem RackTo.disk {w w1 w2 : World} {K : RSk} {R1 : Rck} (h : RackRep w1 K R1) (e : Only (fun b => b = K.r) w w1) {j : Nat} (hj : j < K.n) {D' : Dsk} {k' : DSk} (t : DiskTo w1 (K.ks j) w2 D' k') :
    RackTo w K w2 (R1.setD (j : Int) D') (RackRep.upd K j k') := by
  refine ⟨?_, rfl, fun b hb => ?_, ?_⟩
  · unfold Rck.setD; rw [Int.toNat_natCast]; exact h.to hj t
  · rcases h.to_foot hj t b hb with h1 | h1
    · exact .inl h1
    · have := e.size; exact .inr (by omega)
  · exact (e.mono (G := K.foot) fun b _ hb => .inl hb).trans (t.only.mono (G := K.foot) fun b _ hb => .inr (.inr ⟨j, hj, hb⟩)) fun _ _ x => x
theorem RackTo.at_ {S : Nat → Prop} {w w' : World} {K K' : RSk} {R' : Rck} (t : RackTo w K w' R' K') (h0 : ∀ b, S b → b < w.heap.size) (h3 : ∀ b, K.foot b → ¬ S b) : RackAt S w' K.r R' ∧ Keeps S w w' :=
  RackAt.into h0 h3 t.r t.rep t.foot t.only
/-- Bytes don't lie in the rack's own block. -/
theorem RackRep.bytes_far {w : World} {K : RSk} {R : Rck} (h : RackRep w K R) {b off n : Nat} {l : List Nat} (hb : BytesAt w (some ⟨b, off, none⟩) n l) (hn : 0 < n) : b ≠ K.r := by
  intro e; subst e
  have h1 := hb.get 0 hn
  rw [cell_at h.own] at h1
  unfold rckA at h1
  rcases Nat.lt_or_ge off 3 with h2 | h2
  · rcases (show off = 0 ∨ off = 1 ∨ off = 2 by omega) with rfl | rfl | rfl <;> simp [RSk.val] at h1
  · have e : (#[K.val, Value.bool R.off, .int .i64 R.fuse] : Array Value)[off + 0]? = none := by rw [Array.getElem?_eq_none]; simp; omega
    rw [e] at h1; cases h1
def RWritePost (w : World) (K : RSk) (R : Rck) (i s : Int) (l : List Nat) (e : Ending) (w' : World) : Prop :=
  e = .returned (oErr (R.write i s l).1) ∧ ∃ K', RackTo w K w' (R.write i s l).2 K'
theorem RWritePost.err {w w1 : World} {K : RSk} {R : Rck} {i s : Int} {l : List Nat} {m : Int} (hm : R.may i (R.badW s l) = m) (h0 : m ≠ 0) (hr : RackRep w1 K (R.asked i (R.badW s l))) (ho : Only (fun b => b = K.r) w w1) :
    RWritePost w K R i s l (.returned (Err.fault sRackWrite i (.no m)).val) w1 := by
  unfold RWritePost Rck.write
  rw [hm, if_neg h0]
  exact ⟨rfl, K, RackTo.asked hr ho⟩
set_option maxRecDepth 100000 in
set_option maxHeartbeats 1000000 in
theorem rwrite_c {w : World} {K : RSk} {R : Rck} (h : RackRep w K R) (i s : Int) (a : Option Addr) (n c : Nat) (l : List Nat) (hb : BytesAt w a n l) :
    Calls Tryd.prog 24 #[.pointer (some ⟨K.r, 0, none⟩), .int .i64 i, .int .i64 s, .slice a n c] w (RWritePost w K R i s l) := by
  have H := hid h
  have hbad : R.badW s l = (decide (s < 0) || decide ((K.m : Int) ≤ s) || decide (n ≠ 128)) := by unfold Rck.badW; rw [h.sectors_eq, hb.len]
  have HBAD := hid hbad
  have hK : Hid (∀ wr m w1, R.badW s l = wr → R.may i wr = m → m ≠ 0 → RackRep w1 K (R.asked i wr) → Only (fun b => b = K.r) w w1 → RWritePost w K R i s l (.returned (Err.fault sRackWrite i (.no m)).val) w1) :=
    hid fun wr m w1 e1 e2 e3 e4 e5 => by subst e1; exact RWritePost.err e2 e3 e4 e5
  obtain ⟨m1, hm1⟩ : ∃ m1, R.may i true = m1 := ⟨_, rfl⟩
  have hm1n : m1 ≠ 0 := fun e => by have := Rck.may_zero (hm1.trans e); simp at this
  have bm1 : (m1 != 0) = true := by simpa using hm1n
  have HM1 := hid hm1
  clear hm1
  by_cases s0 : s < 0
  · have HB : Hid (R.badW s l = true) := hid (by rw [hbad]; simp [s0])
    clear h hbad hb
    go_enter Tryd.func24, Tryd.ntmps24
    go_wp2_with (first
      | (go_at_call 68; refine (rmay_c H.out i true).mono ?_; rintro e w1 ⟨rfl, hr1, ho1⟩; have HR1 := hid hr1; have HO1 := hid ho1; clear hr1 ho1; rw [HM1.out])
      | (go_at_call 61; refine (wrap_err sRackWrite i (.no m1) _).mono ?_; rintro e w2 ⟨rfl, rfl⟩))
    go_ret
    exact hK.out _ _ _ HB.out HM1.out hm1n HR1.out HO1.out
  · by_cases s1 : (K.m : Int) ≤ s
    · have HB : Hid (R.badW s l = true) := hid (by rw [hbad]; simp [s1])
      clear h hbad hb
      go_enter Tryd.func24, Tryd.ntmps24
      go_wp2_with (first
        | (go_at_call 69; refine (rsectors_c H.out).mono ?_; rintro e w1 ⟨rfl, rfl⟩)
        | (go_at_call 68; refine (rmay_c H.out i true).mono ?_; rintro e w1 ⟨rfl, hr1, ho1⟩; have HR1 := hid hr1; have HO1 := hid ho1; clear hr1 ho1; rw [HM1.out])
        | (go_at_call 61; refine (wrap_err sRackWrite i (.no m1) _).mono ?_; rintro e w2 ⟨rfl, rfl⟩))
      go_ret
      exact hK.out _ _ _ HB.out HM1.out hm1n HR1.out HO1.out
    · by_cases hn : n = 128
      · subst hn
        have HB : Hid (R.badW s l = false) := hid (by rw [hbad]; simp [s0]; omega)
        have HBY := hid hb
        rcases hb.cells with h0 | ⟨b, off, rfl, _⟩
        · omega
        by_cases hm : R.may i false = 0
        · obtain ⟨q1, q2, q3, _, q5⟩ := Rck.may_zero hm
          obtain ⟨j, rfl, hj⟩ := h.has_nat q1
          obtain ⟨t, rfl⟩ : ∃ t : Nat, s = t := ⟨s.toNat, by omega⟩
          have ht : t < K.m := by omega
          have bd : decide (K.m ≤ t) = false := by simp; omega
          have i0 : (0 : Int) ≤ (j : Int) := by omega
          have i1 : (j : Int) < (K.n : Int) := by omega
          have hne := h.bytes_far hb (by omega)
          have hal := Rck.up_alive q3
          have HM := hid hm
          have HF : Hid (∀ w1 w2 k', RackRep w1 K (R.asked j false) → Only (fun b => b = K.r) w w1 → DiskTo w1 (K.ks j) w2 ((R.dsk j).write t l) k' → RWritePost w K R j t l (.returned .nilIface) w2) := hid fun w1 w2 k' e1 e2 e3 => by
            unfold RWritePost Rck.write
            rw [HB.out, hm, if_pos rfl, Int.toNat_natCast]
            exact ⟨rfl, _, RackTo.disk e1 e2 hj e3⟩
          have HDW : Hid (∀ w1, RackRep w1 K (R.asked j false) → Only (fun b => b = K.r) w w1 → Calls Tryd.prog 70 #[.pointer (some ⟨(K.ks j).p, 0, none⟩), .int .i64 t, .slice (some ⟨b, off, none⟩) 128 c] w1 (DWritePost w1 (K.ks j) ((R.dsk j).write t l))) := hid fun w1 e1 e2 => by
            have e3 : (R.asked (j : Int) false).dsk j = R.dsk j := by unfold Rck.dsk; rw [Rck.asked_l]
            have := e1.dskAt hj
            rw [e3] at this
            exact dwrite_c this hal t (by rw [e1.secs j hj]; exact ht) b off c l (hb.only e2 fun k _ hk e => hne (by obtain ⟨p, hp, rfl⟩ := hk; cases hp; exact e))
          clear h hbad hb hm q1 q2 q3 q5 hne hal
          go_enter Tryd.func24, Tryd.ntmps24
          go_wp2_with (first
            | (go_at_call 69; refine (rsectors_c H.out).mono ?_; rintro e w1 ⟨rfl, rfl⟩)
            | (go_at_call 68; refine (rmay_c H.out j false).mono ?_; rintro e w1 ⟨rfl, hr1, ho1⟩; have HR1 := hid hr1; have HO1 := hid ho1; have c0 := HR1.out.cell0; have cP := HR1.out.cellP j hj; clear hr1 ho1; rw [HM.out])
            | (go_at_call 70; refine (HDW.out _ HR1.out HO1.out).mono ?_; rintro e w2 ⟨rfl, k', ht2⟩; have HT2 := hid ht2; clear ht2 c0 cP)
            | (go_at_call 61; refine (wrap_nil sRackWrite j _).mono ?_; rintro e w2 ⟨rfl, rfl⟩))
          go_ret
          exact HF.out _ _ _ HR1.out HO1.out HT2.out
        · obtain ⟨m0, hm0⟩ : ∃ m0, R.may i false = m0 := ⟨_, rfl⟩
          have hm0n : m0 ≠ 0 := fun e => hm (hm0.trans e)
          have bm0 : (m0 != 0) = true := by simpa using hm0n
          have bd : decide ((K.m : Int) ≤ s) = false := by simp; omega
          have HM0 := hid hm0
          clear h hbad hb hm hm0
          go_enter Tryd.func24, Tryd.ntmps24
          go_wp2_with (first
            | (go_at_call 69; refine (rsectors_c H.out).mono ?_; rintro e w1 ⟨rfl, rfl⟩)
            | (go_at_call 68; refine (rmay_c H.out i false).mono ?_; rintro e w1 ⟨rfl, hr1, ho1⟩; have HR1 := hid hr1; have HO1 := hid ho1; clear hr1 ho1; rw [HM0.out])
            | (go_at_call 61; refine (wrap_err sRackWrite i (.no m0) _).mono ?_; rintro e w2 ⟨rfl, rfl⟩))
          go_ret
          exact hK.out _ _ _ HB.out HM0.out hm0n HR1.out HO1.out
      · have HB : Hid (R.badW s l = true) := hid (by rw [hbad]; simp [hn])
        have bn : ((n : Int) != 128) = true := by simp; omega
        clear h hbad hb
        go_enter Tryd.func24, Tryd.ntmps24
        go_wp2_with (first
          | (go_at_call 69; refine (rsectors_c H.out).mono ?_; rintro e w1 ⟨rfl, rfl⟩)
          | (go_at_call 68; refine (rmay_c H.out i true).mono ?_; rintro e w1 ⟨rfl, hr1, ho1⟩; have HR1 := hid hr1; have HO1 := hid ho1; clear hr1 ho1; rw [HM1.out])
          | (go_at_call 61; refine (wrap_err sRackWrite i (.no m1) _).mono ?_; rintro e w2 ⟨rfl, rfl⟩))
        go_ret
        exact hK.out _ _ _ HB.out HM1.out hm1n HR1.out HO1.out
end Go.Proofs.YtkmgdglmlmodmaaDoor
