/- Texts of one proof, joined: DiskG, DiskH, RackBoot, IntsMore. -/
import Derived.Test.YtbdfjiedceaoiaaGreatPD
import Derived.Test.YtbdfjiedceaoiaaGreatPF
import Derived.Test.YtbdfjiedceaoiaaGreatPO
set_option linter.unusedVariables false
set_option linter.unusedSimpArgs false
namespace Go.Proofs.YtbdfjiedceaoiaaGreat
set_option linter.unusedVariables false
open Go Go.RowKit
def Dsk.upTo (D : Dsk) (j : Nat) : List Nat := (List.range j).filter fun i => (D.waits i).isSome
theorem Dsk.upTo_succ (D : Dsk) (j : Nat) : D.upTo (j + 1) = D.upTo j ++ if (D.waits j).isSome then [j] else [] := by
 unfold upTo
 rw [List.range_succ, List.filter_append]
 by_cases h : (D.waits j).isSome = true <;> simp [h]
theorem Dsk.upTo_len (D : Dsk) (j : Nat) : (D.upTo j).length ≤ j := by
 unfold upTo
 have := List.length_filter_le (fun i => (D.waits i).isSome) (List.range j)
 simpa using this
def DWaitsPost (w : World) (D : Dsk) (e : Ending) (w' : World) : Prop := ∃ v, e = .returned v ∧ OwnInts w' w.heap.size v D.waiting ∧ Ext w w'
set_option maxHeartbeats 800000 in
theorem dwaits_c {w : World} {k : DSk} {D : Dsk} (h : DiskRep w k D) :
  Calls Tryz.prog 55 #[.pointer (some ⟨k.p, 0, none⟩)] w (DWaitsPost w D) := by
 have c0 := h.cell0
 have H := hid h
 have HW : Hid (D.upTo k.n = D.waiting) := hid (by unfold Dsk.upTo Dsk.waiting; rw [h.len])
 have hsm := h.small
 clear h
 go_enter Tryz.func55, Tryz.ntmps55
 go_wp2
 clear c0
 go_loopw [3, 12] (fun v i wr => ∃ j : Nat, i = .int .i64 j ∧ j ≤ k.n ∧ OwnInts wr w.heap.size v (D.upTo j) ∧ Ext w wr) (fun _ i _ => k.n - (intOf i).toNat)
 case atStart => exact ⟨0, rfl, by omega, OwnInts.nil _ _, Ext.refl _⟩
 case round =>
  obtain ⟨j, rfl, hj, hown, hx⟩ := hrel
  by_cases hlt : j < k.n
  ·
   have hr := H.out.ext hx
   have c1 := hr.cell1
   have hl := hr.waits_ok j
   have hup := D.upTo_succ j
   have hlen := D.upTo_len j
   rcases hw : k.wf j with _ | s
   ·
    rw [DSk.wv_none hw] at hl
    simp only [Option.getD_none, Option.isSome_none] at hl
    rw [H.out.waitN j hw] at hup
    simp only [Option.isSome_none, Bool.false_eq_true, if_false, List.append_nil] at hup
    rw [← hup] at hown
    have HO := hid hown; have HX := hid hx
    clear hw hr hup hown hx
    go_wp2
    go_roundw
    case rel => exact ⟨j + 1, by go_num, by omega, HO.out, HX.out⟩
    case measure => simp [intOf]; omega
   ·
    rw [DSk.wv_some hw] at hl
    simp only [Option.getD_some, Option.isSome_some, Spot.val] at hl
    obtain ⟨_, l, hlw, _⟩ := H.out.waitS j s hw
    rw [hlw] at hup
    simp only [Option.isSome_some, if_true] at hup
    obtain ⟨v', W2, hap, hown2, _, hx2⟩ := hown.push j (by omega) hx.size
    rw [← hup] at hown2
    have HO := hid hown2; have HX := hid (hx2 w (Nat.le_refl _) hx)
    clear hw hr hup hown hx hlw hown2 hx2
    go_wp2_with (at_builtin; refine Zai rfl _ _ _ rfl _ _ _ _ rfl rfl hap ?_)
    go_roundw
    case rel => exact ⟨j + 1, by go_num, by omega, HO.out, HX.out⟩
    case measure => simp [intOf]; omega
  ·
   obtain rfl : k.n = j := by omega
   rw [HW.out] at hown
   have HO := hid hown; have HX := hid hx
   clear hown hx
   go_wp2
   go_ret
   exact ⟨_, rfl, HO.out, HX.out⟩
def CrashRel (w w1 : World) (k : DSk) (D : Dsk) (bits j : Nat) (wr : World) : Prop := Mid w wr k D (D.dnC bits j) ∧ Only (fun b => b = k.lb ∨ b = k.rm) w1 wr
theorem CrashRel.step {w w1 wr W : World} {k : DSk} {D : Dsk} {bits j : Nat} (h0 : DiskRep w k D) (h : CrashRel w w1 k D bits j wr) (hj : j < D.waiting.length) (hb : Dsk.bit bits j = true)
  (hm : Mid w W k D (fun i => D.dnC bits j i || i == D.waiting.getD j 0)) (ho : Only (fun b => b = k.lb ∨ b = k.rm) wr W) : CrashRel w w1 k D bits (j + 1) W :=
 ⟨hm.congr h0 fun i hi => by
  obtain ⟨s, hs⟩ := Option.isSome_iff_exists.1 hi
  obtain ⟨q1, l, q2, _⟩ := h0.waitS i s hs
  rw [Dsk.dnC_step hj ((D.mem_waiting i).2 ⟨by rw [h0.len]; exact q1, by rw [q2]; rfl⟩), hb, Bool.true_and], h.2.trans ho fun _ _ x => x⟩
theorem CrashRel.skip {w w1 wr : World} {k : DSk} {D : Dsk} {bits j : Nat} (h0 : DiskRep w k D) (h : CrashRel w w1 k D bits j wr) (hj : j < D.waiting.length) (hb : Dsk.bit bits j = false) : CrashRel w w1 k D bits (j + 1) wr :=
 ⟨h.1.congr h0 fun i hi => by
  obtain ⟨s, hs⟩ := Option.isSome_iff_exists.1 hi
  obtain ⟨q1, l, q2, _⟩ := h0.waitS i s hs
  rw [Dsk.dnC_step hj ((D.mem_waiting i).2 ⟨by rw [h0.len]; exact q1, by rw [q2]; rfl⟩), hb, Bool.false_and, Bool.or_false], h.2⟩
set_option maxHeartbeats 800000 in
theorem dcrash_c {w : World} {k : DSk} {D : Dsk} (h : DiskRep w k D) (bits : Nat) (hbits : bits < 18446744073709551616) :
  Calls Tryz.prog 36 #[.pointer (some ⟨k.p, 0, none⟩), .int .u64 bits] w (DVoidPost w k (D.crash bits)) := by
 have H := hid h
 have hmm := @run_makeMap Tryz.prog
 clear h
 go_enter Tryz.func36, Tryz.ntmps36
 go_wp2_with fail
 refine (dwaits_c H.out).mono ?_
 rintro e w1 ⟨v, rfl, hown, hx⟩
 obtain ⟨a, c, rfl, hsl⟩ := hown.slice
 have HR : Hid (CrashRel w w1 k D bits 0 w1) := hid ⟨(((Mid.start H.out).ext H.out hx).congr H.out fun i _ => by unfold Dsk.dnC; simp), Only.refl _ _⟩
 have hlen : D.waiting.length ≤ k.n := by
  have := D.upTo_len D.l.length
  rw [H.out.len] at this
  unfold Dsk.upTo at this; unfold Dsk.waiting; rw [H.out.len]; exact this
 have hsm := H.out.small
 have HSL := hid hsl; have HX := hid hx
 clear hown hsl hx
 go_wp2
 go_loopw [9] (fun i wr => ∃ j : Nat, i = .int .i64 j ∧ j ≤ D.waiting.length ∧ CrashRel w w1 k D bits j wr) (fun i _ => D.waiting.length - (intOf i).toNat)
 case atStart => exact ⟨0, rfl, by omega, HR.out⟩
 case round =>
  clear HR
  obtain ⟨j, rfl, hj, hrel⟩ := hrel
  by_cases hlt : j < D.waiting.length
  ·
   rcases HSL.out with ⟨h1, _⟩ | ⟨b, rfl, hb1, hb2, hb3, hb4⟩
   ·
    rw [h1] at hlt; simp at hlt
   ·
    have i0 : (0 : Int) ≤ (j : Int) := by omega
    have i1 : (j : Int) < (D.waiting.length : Int) := by omega
    have hcell : wr.cell? ⟨b, j, none⟩ = some (.int .i64 (D.waiting.getD j 0)) := hrel.2.cell (hb4 j hlt) (fun e => by
     have q1 := H.out.lt (b := k.lb) ⟨.lb, rfl⟩
     have q2 := H.out.lt (b := k.rm) ⟨.rm, rfl⟩
     have e' : b = k.lb ∨ b = k.rm := e
     omega)
    have HREL := hid hrel
    clear hrel hb4
    have hmem : D.waiting.getD j 0 ∈ D.waiting := by
     have : D.waiting.getD j 0 = D.waiting[j] := by simp [List.getD_eq_getElem?_getD, hlt]
     rw [this]; exact List.getElem_mem hlt
    obtain ⟨p, hp⟩ : ∃ p, D.waiting.getD j 0 = p := ⟨_, rfl⟩
    rw [hp] at hcell hmem
    have HP := hid hp
    have HMEM := hid hmem
    clear hp hmem
    have hw := bit_walk bits j hbits
    rcases hbit : Dsk.bit bits j with _ | _
    ·
     rw [hbit] at hw
     have HF := hid (HREL.out.skip H.out hlt hbit)
     clear hbit
     go_wp2
     go_roundw
     case rel => exact ⟨j + 1, by go_num, by omega, HF.out⟩
     case measure => simp [intOf]; omega
    ·
     rw [hbit] at hw
     obtain ⟨q1, q2⟩ := (D.mem_waiting p).1 HMEM.out
     have hpn : p < k.n := by rw [← H.out.len]; exact q1
     obtain ⟨s, hs⟩ : ∃ s, k.wf p = some s := by
      rcases hq : k.wf p with _ | s
      ·
       rw [H.out.waitN p hq] at q2; cases q2
      ·
       exact ⟨s, rfl⟩
     have HS := hid hs; have HB := hid hbit
     clear hbit hs q2
     go_wp2_with (go_at_call 56; refine (dput_c H.out HREL.out.1 p hpn s HS.out).mono ?_; rintro e W3 ⟨rfl, hm3, ho3⟩)
     have HF := hid (HREL.out.step H.out hlt HB.out (by rw [HP.out]; exact hm3) ho3)
     go_roundw
     case rel => exact ⟨j + 1, by go_num, by omega, HF.out⟩
     case measure => simp [intOf]; omega
  ·
   obtain rfl : D.waiting.length = j := by omega
   have hfin := (hrel.1.congr (dn' := fun i => Dsk.bit bits (D.waiting.idxOf i)) H.out (fun i hi => by
    obtain ⟨s, hs⟩ := Option.isSome_iff_exists.1 hi
    obtain ⟨q1, l, q2, _⟩ := H.out.waitS i s hs
    have := Dsk.idx_lt ((D.mem_waiting i).2 ⟨by rw [H.out.len]; exact q1, by rw [q2]; rfl⟩)
    unfold Dsk.dnC
    simp [this])).finish H.out
   have HF := hid hfin
   have hown := (hrel.1.at_ H.out .p _ rfl (by simp) (by simp)).trans H.out.own
   have c1 := hrel.1.cell1 H.out
   have hfa : ∀ o, (wr.alloc o).frozen? ⟨k.p, 1, none⟩ = false := fun o => Za7 ((heap_alloc_old wr o (lt_of_block hown)).trans hown)
   have hf : wr.frozen? ⟨k.p, 1, none⟩ = false := Za7 hown
   have hca : ∀ o, (wr.alloc o).cell? ⟨k.p, 1, none⟩ = some (.map (some k.wm)) := fun o => Ext.cell ((Ext.refl wr).alloc o) c1
   clear hrel hfin hown
   go_wp2
   go_end0
   exact ⟨rfl, _, HF.out⟩
structure BitsAt (w : World) (a : Option Addr) (n : Nat) (l : List Nat) : Prop where
 len : l.length = n
 bit : ∀ x ∈ l, x < 18446744073709551616
 cells : n = 0 ∨ ∃ b off, a = some ⟨b, off, none⟩ ∧ ∀ i, i < n → w.cell? ⟨b, off + i, none⟩ = some (.int .u64 (l.getD i 0))
theorem BitsAt.only {F : Nat → Prop} {w w' : World} {a : Option Addr} {n : Nat} {l : List Nat} (h : BitsAt w a n l) (e : Only F w w') (hn : ∀ p, a = some p → 0 < n → ¬ F p.block) : BitsAt w' a n l := by
 refine ⟨h.len, h.bit, ?_⟩
 rcases h.cells with h0 | ⟨b, off, rfl, hc⟩
 ·
  exact .inl h0
 ·
  exact .inr ⟨b, off, rfl, fun i hi => e.cell (hc i hi) (hn ⟨b, off, none⟩ rfl (by omega))⟩
def Rck.bootTo (R : Rck) (bits : List Nat) (j : Nat) : Rck := { R with l := (List.range R.l.length).map fun i => if i < j then (R.l.getD i default).crash (bits.getD i 0) else R.l.getD i default }
theorem Rck.bootTo_zero (R : Rck) (bits : List Nat) : R.bootTo bits 0 = R := by
 have e : ((List.range R.l.length).map fun i => if i < 0 then (R.l.getD i default).crash (bits.getD i 0) else R.l.getD i default) = R.l := by
  apply List.ext_getElem
  ·
   simp
  ·
   intro i h1 h2; simp [List.getD_eq_getElem?_getD, h2]
 unfold Rck.bootTo; rw [e]
theorem Rck.bootTo_step (R : Rck) (bits : List Nat) (j : Nat) (h : j < R.l.length) : (R.bootTo bits j).setD (j : Int) (((R.bootTo bits j).dsk (j : Int)).crash (bits.getD j 0)) = R.bootTo bits (j + 1) := by
 have e0 : (R.bootTo bits j).dsk (j : Int) = R.l.getD j default := by
  unfold Rck.dsk Rck.bootTo
  simp [List.getD_eq_getElem?_getD, h]
 rw [e0]
 unfold Rck.setD Rck.bootTo
 rw [Int.toNat_natCast]
 simp only [Rck.mk.injEq, and_true]
 apply List.ext_getElem
 ·
  simp
 ·
  intro i h1 h2
  simp only [List.length_set, List.length_map, List.length_range] at h1
  rw [List.getElem_set]
  by_cases hij : j = i
  ·
   subst hij; simp
  ·
   rw [if_neg hij]
   by_cases hlt : i < j
   ·
    simp [hlt, show i < j + 1 by omega]
   ·
    simp [hlt, show ¬ i < j + 1 by omega]
theorem Rck.boot_eq (R : Rck) (bits : List Nat) : ({ R.bootTo bits R.l.length with off := false, fuse := -1 } : Rck) = R.boot bits := by
 unfold Rck.bootTo Rck.boot
 simp only [Rck.mk.injEq, and_true]
 apply List.map_congr_left
 intro i hi
 rw [if_pos (List.mem_range.1 hi)]
set_option maxHeartbeats 1000000 in
theorem rboot_c {w : World} {K : RSk} {R : Rck} (h : RackRep w K R) (a : Option Addr) (n c : Nat) (bits : List Nat) (hb : BitsAt w a n bits) (hfar : ∀ p, a = some p → 0 < n → ¬ K.foot p.block) :
  Calls Tryz.prog 21 #[.pointer (some ⟨K.r, 0, none⟩), .slice a n c] w (RVoidPost w K (R.boot bits)) := by
 have H := hid h
 have c0 := h.cell0
 have hlen := h.len
 have HLEN := hid hlen
 have hn8 := h.small
 have HB := hid hb
 have HS : Hid (∃ K1, RackTo w K w (R.bootTo bits 0) K1 ∧ K1.n = K.n ∧ K1.lb = K.lb ∧ ∀ i, i < K.n → (K1.ks i).p = (K.ks i).p) := hid ⟨K, by rw [Rck.bootTo_zero]; exact RackTo.refl h, rfl, rfl, fun i _ => rfl⟩
 clear h hlen hb
 go_enter Tryz.func21, Tryz.ntmps21
 go_wp2
 clear c0
 go_loopw [12] (fun i wr => ∃ j : Nat, i = .int .i64 j ∧ j ≤ K.n ∧ ∃ K1, RackTo w K wr (R.bootTo bits j) K1 ∧ K1.n = K.n ∧ K1.lb = K.lb ∧ ∀ i, i < K.n → (K1.ks i).p = (K.ks i).p) (fun i _ => K.n - (intOf i).toNat)
 case atStart => exact ⟨0, rfl, by omega, HS.out⟩
 case round =>
  clear HS
  obtain ⟨j, rfl, hj, K1, ht, hn1, hlb1, hp1⟩ := hrel
  by_cases hlt : j < K.n
  ·
   have i0 : (0 : Int) ≤ (j : Int) := by omega
   have i1 : (j : Int) < (K.n : Int) := by omega
   have hj1 : j < K1.n := by rw [hn1]; exact hlt
   have cP := ht.rep.cellP j hj1
   rw [hlb1] at cP
   have HD := hid (ht.rep.dskAt hj1)
   have hbits := HB.out.only ht.only hfar
   obtain ⟨p, hpp⟩ : ∃ p, (K1.ks j).p = p := ⟨_, rfl⟩
   rw [hpp] at cP
   have HPP := hid hpp
   have HF : Hid (∀ w2 k', DiskTo wr (K1.ks j) w2 (((R.bootTo bits j).dsk (j : Int)).crash (bits.getD j 0)) k' → ∃ K1, RackTo w K w2 (R.bootTo bits (j + 1)) K1 ∧ K1.n = K.n ∧ K1.lb = K.lb ∧ ∀ i, i < K.n → (K1.ks i).p = (K.ks i).p) := hid fun w2 k' e3 => by
    refine ⟨RackRep.upd K1 j k', ht.then (by rw [← Rck.bootTo_step R bits j (by rw [HLEN.out]; exact hlt)]; exact RackTo.disk ht.rep (Only.refl _ _) hj1 e3), hn1, hlb1, fun i hi => ?_⟩
    show (if i = j then k' else K1.ks i).p = _
    by_cases hij : i = j
    ·
     subst hij; rw [if_pos rfl, e3.p]; exact hp1 i hi
    ·
     rw [if_neg hij]; exact hp1 i hi
   clear ht hpp
   by_cases hjb : j < n
   ·
    have hc : ∃ b off, a = some ⟨b, off, none⟩ ∧ wr.cell? ⟨b, off + j, none⟩ = some (.int .u64 (bits.getD j 0)) := by
     rcases hbits.cells with h0 | ⟨b, off, rfl, hc⟩
     ·
      omega
     ·
      exact ⟨b, off, rfl, hc j hjb⟩
    obtain ⟨b, off, rfl, hc⟩ := hc
    have i2 : (j : Int) < (n : Int) := by omega
    have hd : bits.getD j 0 < 18446744073709551616 := by
     have : j < bits.length := by rw [HB.out.len]; exact hjb
     have e : bits.getD j 0 = bits[j] := by simp [List.getD_eq_getElem?_getD, this]
     rw [e]; exact HB.out.bit _ (List.getElem_mem this)
    clear hbits
    obtain ⟨x, hx⟩ : ∃ x, bits.getD j 0 = x := ⟨_, rfl⟩
    have HX := hid hx
    rw [hx] at hc hd
    clear hx
    go_wp2_with (go_at_call 36; refine (show Calls _ _ _ _ _ by rw [← HPP.out]; exact dcrash_c HD.out x hd).mono ?_; rintro e w2 ⟨rfl, k', ht2⟩; have HT2 := hid ht2; clear ht2)
    go_roundw
    case rel => exact ⟨j + 1, by go_num, by omega, HF.out _ _ (by rw [HX.out]; exact HT2.out)⟩
    case measure => simp [intOf]; omega
   ·
    have hx : bits.getD j 0 = 0 := by
     have : bits.length ≤ j := by rw [HB.out.len]; omega
     simp [List.getD_eq_getElem?_getD, List.getElem?_eq_none this]
    have HX := hid hx
    clear hx hbits
    go_wp2_with (go_at_call 36; refine (show Calls _ _ _ _ _ by rw [← HPP.out]; exact dcrash_c HD.out 0 (by omega)).mono ?_; rintro e w2 ⟨rfl, k', ht2⟩; have HT2 := hid ht2; clear ht2)
    go_roundw
    case rel => exact ⟨j + 1, by go_num, by omega, HF.out _ _ (by rw [HX.out]; exact HT2.out)⟩
    case measure => simp [intOf]; omega
  ·
   obtain rfl : K.n = j := by omega
   have hr1 := ht.r
   have e1 := ht.rep.set (R' := { R.bootTo bits K.n with off := false }) rfl ht.rep.fuse (i := 1) (v := .bool false) rfl
   have e2 := e1.set (R' := { R.bootTo bits K.n with off := false, fuse := -1 }) rfl ⟨by simp, by simp⟩ (i := 2) (v := .int .i64 (-1)) rfl
   have c1 := ht.rep.cell1
   have f1 := ht.rep.free 1
   have c2 := e1.cell2
   have f2 := e1.free 2
   have c2' := ht.rep.cell2
   have f2' := ht.rep.free 2
   rw [hr1] at e1 e2 c1 f1 c2 f2 c2' f2'
   have HF : Hid (RVoidPost w K (R.boot bits) (.returned (.tuple #[])) ((wr.setCell ⟨K.r, 1, none⟩ (.bool false)).setCell ⟨K.r, 2, none⟩ (.int .i64 (-1)))) := hid ⟨rfl, K1, by
    rw [← Rck.boot_eq, HLEN.out]
    exact ht.then ⟨e2, rfl, fun b hb => .inl hb, Only.setCell (Only.setCell (Only.refl K1.foot wr) (.inr (.inl (by rw [hr1]))) _) (.inr (.inl (by rw [hr1]))) _⟩⟩
   clear ht e1 e2 hp1
   go_wp2
   go_end0
   exact HF.out
theorem at_boot {S : Nat → Prop} {w : World} {r : Nat} {R : Rck} (h : RackAt S w r R) (a : Option Addr) (n c : Nat) (bits : List Nat) (hb : BitsAt w a n bits) (hs : ∀ p, a = some p → 0 < n → S p.block) :
  Calls Tryz.prog 21 #[.pointer (some ⟨r, 0, none⟩), .slice a n c] w fun e w' => e = .returned (.tuple #[]) ∧ RackAt S w' r (R.boot bits) ∧ Keeps S w w' := by
 obtain ⟨h0, K, rfl, h2, h3⟩ := h
 refine (rboot_c h2 a n c bits hb (fun p hp hn hf => h3 _ hf (hs p hp hn))).mono ?_
 rintro e w' ⟨rfl, K', ht⟩
 exact ⟨rfl, ht.at_ h0 h3⟩
theorem RackAt.pokes {S F : Nat → Prop} {w w' : World} {r : Nat} {R : Rck} (h : RackAt S w r R) (e : Only F w w') (hF : ∀ b, F b → S b) : RackAt (wideS S w w') w' r R := by
 obtain ⟨h0, K, h1, h2, h3⟩ := h
 refine ⟨fun b hb => ?_, K, h1, h2.only e fun b hb hf => h3 b hb (hF b hf), fun b hb ht => ?_⟩
 ·
  rcases hb with hb | hb
  ·
   exact Nat.lt_of_lt_of_le (h0 b hb) e.size
  ·
   exact hb.2
 ·
  rcases ht with h4 | h4
  ·
   exact h3 b hb h4
  ·
   have := h2.lt hb; omega
namespace SE
variable {w0 w w' : World} {S : Nat → Prop} {r : Nat} {R R' : Rck} {gc : Nat} {c : Cfg} {L : List (Option Addr × List (List Nat))}
end SE
end Go.Proofs.YtbdfjiedceaoiaaGreat
