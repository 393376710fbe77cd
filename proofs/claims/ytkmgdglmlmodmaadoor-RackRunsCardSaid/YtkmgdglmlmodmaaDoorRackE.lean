/- A rack's disks dead, replaced; a rack booted. -/
import Derived.Test.YtkmgdglmlmodmaaDoorRackC
import Derived.Test.YtkmgdglmlmodmaaDoorDiskH
namespace Go.Proofs.YtkmgdglmlmodmaaDoor
set_option linter.unusedVariables false
open Go Go.RowKit
def RBoolPost (w : World) (K : RSk) (b : Bool) (R' : Rck) (e : Ending) (w' : World) : Prop := e = .returned (.bool b) ∧ ∃ K', RackTo w K w' R' K'
theorem RackTo.refl {w : World} {K : RSk} {R : Rck} (h : RackRep w K R) : RackTo w K w R K := ⟨h, rfl, fun b hb => .inl hb, Only.refl _ _⟩
theorem rdie_c {w : World} {K : RSk} {R : Rck} (h : RackRep w K R) (i : Int) :
    Calls Tryd.prog 35 #[.pointer (some ⟨K.r, 0, none⟩), .int .i64 i] w (RBoolPost w K (R.has i) (R.die i)) := by
  have H := hid h
  rcases hh : R.has i with _ | _
  · have HH := hid hh
    have HF : Hid (RBoolPost w K false (R.die i) (.returned (.bool false)) w) := hid ⟨rfl, K, by unfold Rck.die; rw [hh]; exact RackTo.refl h⟩
    clear h hh
    go_enter Tryd.func35, Tryd.ntmps35
    go_wp2_with (go_at_call 76; refine (rhas_c H.out i).mono ?_; rintro e w' ⟨rfl, rfl⟩; rw [HH.out])
    go_ret
    exact HF.out
  · obtain ⟨j, rfl, hj⟩ := h.has_nat hh
    have HH := hid hh
    have c0 := h.cell0
    have cP := h.cellP j hj
    have i0 : (0 : Int) ≤ (j : Int) := by omega
    have i1 : (j : Int) < (K.n : Int) := by omega
    have HD := hid (h.dskAt hj)
    have HF : Hid (∀ w2 k', DiskTo w (K.ks j) w2 ((R.dsk j).die) k' → RBoolPost w K true (R.die j) (.returned (.bool true)) w2) := hid fun w2 k' e3 => by
      unfold Rck.die
      rw [hh, if_pos rfl]
      exact ⟨rfl, _, RackTo.disk h (Only.refl _ _) hj e3⟩
    clear h hh
    go_enter Tryd.func35, Tryd.ntmps35
    go_wp2_with (first
      | (go_at_call 76; refine (rhas_c H.out j).mono ?_; rintro e w' ⟨rfl, rfl⟩; rw [HH.out])
      | (go_at_call 78; refine (ddie_c HD.out).mono ?_; rintro e w2 ⟨rfl, k', ht2⟩; have HT2 := hid ht2; clear ht2 c0 cP))
    go_ret
    exact HF.out _ _ HT2.out
theorem rreplace_c {w : World} {K : RSk} {R : Rck} (h : RackRep w K R) (i : Int) :
    Calls Tryd.prog 38 #[.pointer (some ⟨K.r, 0, none⟩), .int .i64 i] w (RBoolPost w K (R.has i) (R.replace i)) := by
  have H := hid h
  rcases hh : R.has i with _ | _
  · have HH := hid hh
    have HF : Hid (RBoolPost w K false (R.replace i) (.returned (.bool false)) w) := hid ⟨rfl, K, by unfold Rck.replace; rw [hh]; exact RackTo.refl h⟩
    clear h hh
    go_enter Tryd.func38, Tryd.ntmps38
    go_wp2_with (go_at_call 76; refine (rhas_c H.out i).mono ?_; rintro e w' ⟨rfl, rfl⟩; rw [HH.out])
    go_ret
    exact HF.out
  · obtain ⟨j, rfl, hj⟩ := h.has_nat hh
    have HH := hid hh
    have c0 := h.cell0
    have cP := h.cellP j hj
    have i0 : (0 : Int) ≤ (j : Int) := by omega
    have i1 : (j : Int) < (K.n : Int) := by omega
    have HD := hid (h.dskAt hj)
    have HF : Hid (∀ w2 k', DiskTo w (K.ks j) w2 ((R.dsk j).replace) k' → RBoolPost w K true (R.replace j) (.returned (.bool true)) w2) := hid fun w2 k' e3 => by
      unfold Rck.replace
      rw [hh, if_pos rfl]
      exact ⟨rfl, _, RackTo.disk h (Only.refl _ _) hj e3⟩
    clear h hh
    go_enter Tryd.func38, Tryd.ntmps38
    go_wp2_with (first
      | (go_at_call 76; refine (rhas_c H.out j).mono ?_; rintro e w' ⟨rfl, rfl⟩; rw [HH.out])
      | (go_at_call 81; refine (dreplace_c HD.out).mono ?_; rintro e w2 ⟨rfl, k', ht2⟩; have HT2 := hid ht2; clear ht2 c0 cP))
    go_ret
    exact HF.out _ _ HT2.out
/-- The bits that came in. -/
structure BitsAt (w : World) (a : Option Addr) (n : Nat) (l : List Nat) : Prop where
  len : l.length = n
  bit : ∀ x ∈ l, x < 18446744073709551616
  cells : n = 0 ∨ ∃ b off, a = some ⟨b, off, none⟩ ∧ ∀ i, i < n → w.cell? ⟨b, off + i, none⟩ = some (.int .u64 (l.getD i 0))
theorem BitsAt.only {F : Nat → Prop} {w w' : World} {a : Option Addr} {n : Nat} {l : List Nat} (h : BitsAt w a n l) (e : Only F w w') (hn : ∀ p, a = some p → 0 < n → ¬ F p.block) : BitsAt w' a n l := by
  refine ⟨h.len, h.bit, ?_⟩
  rcases h.cells with h0 | ⟨b, off, rfl, hc⟩
  · exact .inl h0
  · exact .inr ⟨b, off, rfl, fun i hi => e.cell (hc i hi) (hn ⟨b, off, none⟩ rfl (by omega))⟩
/-- The first j disks are booted. -/
def Rck.bootTo (R : Rck) (bits : List Nat) (j : Nat) : Rck := { R with l := (List.range R.l.length).map fun i => if i < j then (R.l.getD i default).crash (bits.getD i 0) else R.l.getD i default }
theorem Rck.bootTo_zero (R : Rck) (bits : List Nat) : R.bootTo bits 0 = R := by
  have e : ((List.range R.l.length).map fun i => if i < 0 then (R.l.getD i default).crash (bits.getD i 0) else R.l.getD i default) = R.l := by
    apply List.ext_getElem
    · simp
    · intro i h1 h2; simp [List.getD_eq_getElem?_getD, h2]
  unfold Rck.bootTo; rw [e]
theorem Rck.bootTo_step (R : Rck) (bits : List Nat) (j : Nat) (h : j < R.l.length) : (R.bootTo bits j).setD (j : Int) (((R.bootTo bits j).dsk (j : Int)).crash (bits.getD j 0)) = R.bootTo bits (j + 1) := by
  have e0 : (R.bootTo bits j).dsk (j : Int) = R.l.getD j default := by
    unfold Rck.dsk Rck.bootTo
    simp [List.getD_eq_getElem?_getD, h]
  rw [e0]
  unfold Rck.setD Rck.bootTo
  rw [Int.toNat_natCast]
  simp only [Rck.mk.injEq, and_true]
  apply List.ext_getElem
  · simp
  · intro i h1 h2
    simp only [List.length_set, List.length_map, List.length_range] at h1
    rw [List.getElem_set]
    by_cases hij : j = i
    · subst hij; simp
    · rw [if_neg hij]
      by_cases hlt : i < j
      · simp [hlt, show i < j + 1 by omega]
      · simp [hlt, show ¬ i < j + 1 by omega]
theorem Rck.boot_eq (R : Rck) (bits : List Nat) : ({ R.bootTo bits R.l.length with off := false, fuse := -1 } : Rck) = R.boot bits := by
  unfold Rck.bootTo Rck.boot
  simp only [Rck.mk.injEq, and_true]
  apply List.map_congr_left
  intro i hi
  rw [if_pos (List.mem_range.1 hi)]
def RVoidPost (w : World) (K : RSk) (R' : Rck) (e : Ending) (w' : World) : Prop := e = .returned (.tuple #[]) ∧ ∃ K', RackTo w K w' R' K'
theorem RackTo.then {w w1 w2 : World} {K K1 K2 : RSk} {R1 R2 : Rck} (h : RackTo w K w1 R1 K1) (h' : RackTo w1 K1 w2 R2 K2) : RackTo w K w2 R2 K2 where
  rep := h'.rep
  r := h'.r.trans h.r
  foot := fun b hb => by
    have := h.only.size
    rcases h'.foot b hb with h1 | h1
    · rcases h.foot b h1 with h2 | h2
      · exact .inl h2
      · exact .inr h2
    · exact .inr (by omega)
  only := h.only.trans h'.only fun i hi hf => by
    rcases h.foot i hf with h2 | h2
    · exact h2
    · omega
set_option maxHeartbeats 1000000 in
theorem rboot_c {w : World} {K : RSk} {R : Rck} (h : RackRep w K R) (a : Option Addr) (n c : Nat) (bits : List Nat) (hb : BitsAt w a n bits) (hfar : ∀ p, a = some p → 0 < n → ¬ K.foot p.block) :
    Calls Tryd.prog 28 #[.pointer (some ⟨K.r, 0, none⟩), .slice a n c] w (RVoidPost w K (R.boot bits)) := by
  have H := hid h
  have c0 := h.cell0
  have hlen := h.len
  have HLEN := hid hlen
  have hn8 := h.small
  have HB := hid hb
  have HS : Hid (∃ K1, RackTo w K w (R.bootTo bits 0) K1 ∧ K1.n = K.n ∧ K1.lb = K.lb ∧ ∀ i, i < K.n → (K1.ks i).p = (K.ks i).p) := hid ⟨K, by rw [Rck.bootTo_zero]; exact RackTo.refl h, rfl, rfl, fun i _ => rfl⟩
  clear h hlen hb
  go_enter Tryd.func28, Tryd.ntmps28
  go_wp2
  clear c0
  go_loopw [12] (fun i wr => ∃ j : Nat, i = .int .i64 j ∧ j ≤ K.n ∧ ∃ K1, RackTo w K wr (R.bootTo bits j) K1 ∧ K1.n = K.n ∧ K1.lb = K.lb ∧ ∀ i, i < K.n → (K1.ks i).p = (K.ks i).p) (fun i _ => K.n - (intOf i).toNat)
  case atStart => exact ⟨0, rfl, by omega, HS.out⟩
  case round =>
    clear HS
    obtain ⟨j, rfl, hj, K1, ht, hn1, hlb1, hp1⟩ := hrel
    by_cases hlt : j < K.n
    · have i0 : (0 : Int) ≤ (j : Int) := by omega
      have i1 : (j : Int) < (K.n : Int) := by omega
      have hj1 : j < K1.n := by rw [hn1]; exact hlt
      have cP := ht.rep.cellP j hj1
      rw [hlb1] at cP
      have HD := hid (ht.rep.dskAt hj1)
      have hbits := HB.out.only ht.only hfar
      obtain ⟨p, hpp⟩ : ∃ p, (K1.ks j).p = p := ⟨_, rfl⟩
      rw [hpp] at cP
      have HPP := hid hpp
      have HF : Hid (∀ w2 k', DiskTo wr (K1.ks j) w2 (((R.bootTo bits j).dsk (j : Int)).crash (bits.getD j 0)) k' → ∃ K1, RackTo w K w2 (R.bootTo bits (j + 1)) K1 ∧ K1.n = K.n ∧ K1.lb = K.lb ∧ ∀ i, i < K.n → (K1.ks i).p = (K.ks i).p) := hid fun w2 k' e3 => by
        refine ⟨RackRep.upd K1 j k', ht.then (by rw [← Rck.bootTo_step R bits j (by rw [HLEN.out]; exact hlt)]; exact RackTo.disk ht.rep (Only.refl _ _) hj1 e3), hn1, hlb1, fun i hi => ?_⟩
        show (if i = j then k' else K1.ks i).p = _
        by_cases hij : i = j
        · subst hij; rw [if_pos rfl, e3.p]; exact hp1 i hi
        · rw [if_neg hij]; exact hp1 i hi
      clear ht hpp
      by_cases hjb : j < n
      · have hc : ∃ b off, a = some ⟨b, off, none⟩ ∧ wr.cell? ⟨b, off + j, none⟩ = some (.int .u64 (bits.getD j 0)) := by
          rcases hbits.cells with h0 | ⟨b, off, rfl, hc⟩
          · omega
          · exact ⟨b, off, rfl, hc j hjb⟩
        obtain ⟨b, off, rfl, hc⟩ := hc
        have i2 : (j : Int) < (n : Int) := by omega
        have hd : bits.getD j 0 < 18446744073709551616 := by
          have : j < bits.length := by rw [HB.out.len]; exact hjb
          have e : bits.getD j 0 = bits[j] := by simp [List.getD_eq_getElem?_getD, this]
          rw [e]; exact HB.out.bit _ (List.getElem_mem this)
        clear hbits
        obtain ⟨x, hx⟩ : ∃ x, bits.getD j 0 = x := ⟨_, rfl⟩
        have HX := hid hx
        rw [hx] at hc hd
        clear hx
        go_wp2_with (go_at_call 72; refine (show Calls _ _ _ _ _ by rw [← HPP.out]; exact dcrash_c HD.out x hd).mono ?_; rintro e w2 ⟨rfl, k', ht2⟩; have HT2 := hid ht2; clear ht2)
        go_roundw
        case rel => exact ⟨j + 1, by go_num, by omega, HF.out _ _ (by rw [HX.out]; exact HT2.out)⟩
        case measure => simp [intOf]; omega
      · have hx : bits.getD j 0 = 0 := by
          have : bits.length ≤ j := by rw [HB.out.len]; omega
          simp [List.getD_eq_getElem?_getD, List.getElem?_eq_none this]
        have HX := hid hx
        clear hx hbits
        go_wp2_with (go_at_call 72; refine (show Calls _ _ _ _ _ by rw [← HPP.out]; exact dcrash_c HD.out 0 (by omega)).mono ?_; rintro e w2 ⟨rfl, k', ht2⟩; have HT2 := hid ht2; clear ht2)
        go_roundw
        case rel => exact ⟨j + 1, by go_num, by omega, HF.out _ _ (by rw [HX.out]; exact HT2.out)⟩
        case measure => simp [intOf]; omega
    · obtain rfl : K.n = j := by omega
      have hr1 := ht.r
      have e1 := ht.rep.set (R' := { R.bootTo bits K.n with off := false }) rfl ht.rep.fuse (i := 1) (v := .bool false) rfl
      have e2 := e1.set (R' := { R.bootTo bits K.n with off := false, fuse := -1 }) rfl ⟨by simp, by simp⟩ (i := 2) (v := .int .i64 (-1)) rfl
      have c1 := ht.rep.cell1
      have f1 := ht.rep.free 1
      have c2 := e1.cell2
      have f2 := e1.free 2
      have c2' := ht.rep.cell2
      have f2' := ht.rep.free 2
      rw [hr1] at e1 e2 c1 f1 c2 f2 c2' f2'
      have HF : Hid (RVoidPost w K (R.boot bits) (.returned (.tuple #[])) ((wr.setCell ⟨K.r, 1, none⟩ (.bool false)).setCell ⟨K.r, 2, none⟩ (.int .i64 (-1)))) := hid ⟨rfl, K1, by
        rw [← Rck.boot_eq, HLEN.out]
        exact ht.then ⟨e2, rfl, fun b hb => .inl hb, Only.setCell (Only.setCell (Only.refl K1.foot wr) (.inr (.inl (by rw [hr1]))) _) (.inr (.inl (by rw [hr1]))) _⟩⟩
      clear ht e1 e2 hp1
      go_wp2
      go_end0
      exact HF.out
end Go.Proofs.YtkmgdglmlmodmaaDoor
