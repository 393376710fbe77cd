/- The statement RackFuse, as its tied card: for every input the call of stavelaw8's RackFuse answers true, and its arguments read behind it as they read before. No condition of our own. -/
/- Texts of one proof, joined: WRackFuse, LawRackFuse. -/
import Derived.Test.YtdbjojnejkklhaaDoorPartF
import Derived.Test.YtdbjojnejkklhaaDoorPartA
import Derived.Test.YtdbjojnejkklhaaDoorCards
import Derived.Test.YtdbjojnejkklhaaDoorTie
import Derived.Test.YtdbjojnejkklhaaDoorPartC
import Derived.WalkKit
import Derived.ProofKit
import Derived.OpenShut
import Derived.ShutString
import Derived.ChangeOld
import Derived.Below
import Derived.SevenTiedAt
set_option linter.unusedVariables false
set_option linter.unusedSimpArgs false
/- The walk of RackFuse. -/
namespace Go.Proofs.YtdbjojnejkklhaaDoor
set_option linter.unusedVariables false
open Go Go.RowKit
/-- A rack of three disks with a fuse of k, behind i operations. -/
structure FuseSt (R : Rck) (k : Int) (i : Nat) : Prop where
  len : R.l.length = 3
  alive : ∀ j : Int, 0 ≤ j → j < 3 → (R.dsk j).dead = false
  secs : R.sectors = 4
  on : (i : Int) ≤ k → R.off = false ∧ R.fuse = k - i
  off : k < i → R.off = true
namespace FuseSt
variable {R : Rck} {k : Int} {i : Nat}
theorem has (h : FuseSt R k i) {d : Int} (h0 : 0 ≤ d) (h1 : d < 3) : R.has d = true := by unfold Rck.has; rw [h.len]; simp; omega
theorem up (h : FuseSt R k i) {d : Int} (h0 : 0 ≤ d) (h1 : d < 3) : R.up d = true := by unfold Rck.up; rw [h.has h0 h1, h.alive d h0 h1]; rfl
theorem may_on (h : FuseSt R k i) {d : Int} (h0 : 0 ≤ d) (h1 : d < 3) (hk : (i : Int) < k) : R.may d false = 0 ∧ R.asked d false = { R with fuse := k - (i + 1 : Nat) } := by
  obtain ⟨q1, q2⟩ := h.on (by omega)
  unfold Rck.may Rck.asked
  rw [h.has h0 h1, q1, h.up h0 h1, q2]
  refine ⟨by simp; omega, ?_⟩
  rw [if_neg (by simp), if_neg (by simp), if_neg (by simp), if_neg (by omega), if_pos (by omega)]
  have : k - (i : Int) - 1 = k - ((i + 1 : Nat) : Int) := by push_cast; omega
  rw [this]
theorem may_off (h : FuseSt R k i) {d : Int} (h0 : 0 ≤ d) (h1 : d < 3) (hk : k ≤ (i : Int)) : R.may d false = 5 ∧ R.asked d false = { R with off := true } := by
  unfold Rck.may Rck.asked
  rw [h.has h0 h1, h.up h0 h1]
  by_cases he : (i : Int) = k
  · obtain ⟨q1, q2⟩ := h.on (by omega)
    rw [q1, q2]
    refine ⟨by simp; omega, ?_⟩
    rw [if_neg (by simp), if_neg (by simp), if_neg (by simp), if_pos (by omega)]
  · have q1 := h.off (by omega)
    rw [q1]
    refine ⟨by simp, ?_⟩
    rw [if_neg (by simp), if_pos (by simp)]
    cases R; simp at q1; simp [q1]
theorem next_on (h : FuseSt R k i) (hk : (i : Int) < k) {d : Int} (h0 : 0 ≤ d) (h1 : d < 3) {D : Dsk} (hd : D.dead = false) (hl : D.l.length = (R.dsk d).l.length) : FuseSt (({ R with fuse := k - (i + 1 : Nat) } : Rck).setD d D) k (i + 1) := by
  obtain ⟨q1, q2⟩ := h.on (by omega)
  have hdsk : ∀ j : Int, 0 ≤ j → (({ R with fuse := k - (i + 1 : Nat) } : Rck).setD d D).dsk j = if j = d then D else R.dsk j := fun j hj => by
    unfold Rck.setD Rck.dsk
    by_cases e : j = d
    · subst e
      have : j.toNat < R.l.length := by rw [h.len]; omega
      simp [List.getD_eq_getElem?_getD, this]
    · have : d.toNat ≠ j.toNat := by omega
      simp [List.getD_eq_getElem?_getD, List.getElem?_set_ne this, e]
  refine ⟨by simp [Rck.setD, h.len], fun j hj0 hj1 => ?_, ?_, fun _ => ⟨q1, rfl⟩, fun hh => by omega⟩
  · rw [hdsk j hj0]; split
    · exact hd
    · exact h.alive j hj0 hj1
  · have e : (({ R with fuse := k - (i + 1 : Nat) } : Rck).setD d D).sectors = R.sectors := by
      unfold Rck.sectors
      rw [hdsk 0 (by omega)]
      split
      · rename_i e; rw [hl, ← e]
      · rfl
    rw [e]; exact h.secs
theorem next_off (h : FuseSt R k i) (hk : k ≤ (i : Int)) : FuseSt { R with off := true } k (i + 1) :=
  ⟨h.len, h.alive, h.secs, fun hh => by omega, fun _ => rfl⟩
theorem flush_on (h : FuseSt R k i) (hk : (i : Int) < k) {d : Int} (h0 : 0 ≤ d) (h1 : d < 3) : (R.flush d).1 = none ∧ FuseSt (R.flush d).2 k (i + 1) := by
  obtain ⟨q1, q2⟩ := h.may_on h0 h1 hk
  unfold Rck.flush
  rw [if_pos q1, q2]
  exact ⟨rfl, h.next_on hk h0 h1 (h.alive d h0 h1) (by simp [Dsk.flush, Dsk.settle])⟩
theorem flush_off (h : FuseSt R k i) (hk : k ≤ (i : Int)) {d : Int} (h0 : 0 ≤ d) (h1 : d < 3) : (R.flush d).1 = some (.fault sRackFlush d (.no 5)) ∧ FuseSt (R.flush d).2 k (i + 1) := by
  obtain ⟨q1, q2⟩ := h.may_off h0 h1 hk
  unfold Rck.flush
  rw [q1, q2, if_neg (by omega)]
  exact ⟨rfl, h.next_off hk⟩
theorem badW (h : FuseSt R k i) {s : Int} {b : List Nat} (s0 : 0 ≤ s) (s1 : s < 4) (hb : b.length = 128) : R.badW s b = false := by
  unfold Rck.badW; rw [h.secs, hb]; simp; omega
theorem write_on (h : FuseSt R k i) (hk : (i : Int) < k) {d s : Int} {b : List Nat} (h0 : 0 ≤ d) (h1 : d < 3) (s0 : 0 ≤ s) (s1 : s < 4) (hb : b.length = 128) : (R.write d s b).1 = none ∧ FuseSt (R.write d s b).2 k (i + 1) := by
  obtain ⟨q1, q2⟩ := h.may_on h0 h1 hk
  unfold Rck.write
  rw [h.badW s0 s1 hb, if_pos q1, q2]
  exact ⟨rfl, h.next_on hk h0 h1 (h.alive d h0 h1) (by simp [Dsk.write])⟩
theorem write_off (h : FuseSt R k i) (hk : k ≤ (i : Int)) {d s : Int} {b : List Nat} (h0 : 0 ≤ d) (h1 : d < 3) (s0 : 0 ≤ s) (s1 : s < 4) (hb : b.length = 128) : (R.write d s b).1 = some (.fault sRackWrite d (.no 5)) ∧ FuseSt (R.write d s b).2 k (i + 1) := by
  obtain ⟨q1, q2⟩ := h.may_off h0 h1 hk
  unfold Rck.write
  rw [h.badW s0 s1 hb, q1, q2, if_neg (by omega)]
  exact ⟨rfl, h.next_off hk⟩
theorem start (k : Int) (h0 : 0 ≤ k) : FuseSt ((Rck.new 3 4).arm k) k 0 := by
  have e : max k (-1) = k := by omega
  unfold Rck.arm
  rw [e]
  refine ⟨rfl, fun j hj0 hj1 => ?_, rfl, fun _ => ⟨rfl, by simp⟩, fun hh => by simp at hh; omega⟩
  have : j = 0 ∨ j = 1 ∨ j = 2 := by omega
  rcases this with rfl | rfl | rfl <;> rfl
theorem boot_dsk (h : FuseSt R k i) {j : Int} (h0 : 0 ≤ j) (h1 : j < 3) : (R.boot []).dsk j = (R.dsk j).crash 0 := by
  unfold Rck.boot Rck.dsk
  have : j.toNat < R.l.length := by rw [h.len]; omega
  simp [List.getD_eq_getElem?_getD, this]
theorem boot_len (h : FuseSt R k i) : (R.boot []).l.length = 3 := by unfold Rck.boot; simp [h.len]
theorem boot_up (h : FuseSt R k i) {j : Int} (h0 : 0 ≤ j) (h1 : j < 3) : (R.boot []).up j = true := by
  unfold Rck.up Rck.has
  rw [h.boot_len, h.boot_dsk h0 h1]
  have : ((R.dsk j).crash 0).dead = false := by rw [show ((R.dsk j).crash 0).dead = (R.dsk j).dead from rfl]; exact h.alive j h0 h1
  rw [this]; simp; omega
theorem boot_flush (h : FuseSt R k i) : ((R.boot []).flush 0).1 = none ∧ ((R.boot []).flush 0).2.online.length = 3 := by
  have hm : (R.boot []).may 0 false = 0 := by
    unfold Rck.may
    have hh : (R.boot []).has 0 = true := by unfold Rck.has; rw [h.boot_len]; rfl
    rw [hh, h.boot_up (by omega) (by omega)]
    rfl
  have ha : (R.boot []).asked 0 false = R.boot [] := by
    unfold Rck.asked
    have hh : (R.boot []).has 0 = true := by unfold Rck.has; rw [h.boot_len]; rfl
    rw [hh, h.boot_up (by omega) (by omega)]
    rfl
  unfold Rck.flush
  rw [if_pos hm, ha]
  refine ⟨rfl, ?_⟩
  have hl : ((R.boot []).setD 0 ((R.boot []).dsk 0).flush).l.length = 3 := by unfold Rck.setD; simp [h.boot_len]
  have hu : ∀ j : Nat, j < 3 → ((R.boot []).setD 0 ((R.boot []).dsk 0).flush).up (j : Int) = true := fun j hj => by
    have h2 := h.boot_up (j := (j : Int)) (by omega) (by omega)
    unfold Rck.up at h2 ⊢
    have e1 : ((R.boot []).setD 0 ((R.boot []).dsk 0).flush).has (j : Int) = true := by unfold Rck.has; rw [hl]; simp; omega
    rw [e1]
    simp only [Bool.and_eq_true] at h2
    have e2 : (((R.boot []).setD 0 ((R.boot []).dsk 0).flush).dsk (j : Int)).dead = ((R.boot []).dsk (j : Int)).dead := by
      unfold Rck.setD Rck.dsk
      have : j < (R.boot []).l.length := by rw [h.boot_len]; exact hj
      by_cases hj0 : j = 0
      · subst hj0; simp [List.getD_eq_getElem?_getD, this, Dsk.flush, Dsk.settle]
      · simp [List.getD_eq_getElem?_getD, List.getElem?_set_ne (Ne.symm hj0)]
    rw [e2]; simpa using h2.2
  unfold Rck.online
  rw [hl, List.filter_eq_self.2 (fun j hj => hu j (List.mem_range.1 hj))]
  simp
end FuseSt
/-- Numbers that came in. -/
structure IntsIn (w : World) (a : Option Addr) (n : Nat) (z : List Int) : Prop where
  cells : n = 0 ∨ ∃ b off, a = some ⟨b, off, none⟩ ∧ ∀ i, i < n → w.cell? ⟨b, off + i, none⟩ = some (.int .i64 (z.getD i 0))
theorem IntsIn.ext {w w' : World} {a : Option Addr} {n : Nat} {z : List Int} (h : IntsIn w a n z) (e : Ext w w') : IntsIn w' a n z := by
  rcases h.cells with h0 | ⟨b, off, rfl, hc⟩
  · exact ⟨.inl h0⟩
  · exact ⟨.inr ⟨b, off, rfl, fun i hi => Ext.cell e (hc i hi)⟩⟩
theorem IsRow.ints {w : World} {a : Option Addr} {len cap : Nat} {z : List Int} (h : IsRow .i64 w a len cap z) : IntsIn w a len z := by
  rcases h with ⟨rfl, rfl, rfl, rfl⟩ | ⟨x, rfl, hlc, hm, hz, hc, hw⟩
  · exact ⟨.inl rfl⟩
  · by_cases h0 : len = 0
    · exact ⟨.inl h0⟩
    · have h1 := hc 0 (by omega)
      obtain ⟨b, off, sp⟩ := x
      rcases sp with _ | sp
      · refine ⟨.inr ⟨b, off, rfl, fun i hi => ?_⟩⟩
        have := hc i (by omega)
        have e : (⟨b, off, none⟩ : Addr).add i = ⟨b, off + i, none⟩ := by unfold Addr.add; split <;> simp_all
        rw [e] at this; exact this
      · exfalso
        unfold World.cell? Addr.add at h1
        split at h1 <;> simp_all
def FuseRel (w : World) (r : Nat) (k : Int) (j : Nat) (wr : World) : Prop := ∃ R, FuseSt R k j ∧ RackAt (fun b => b < w.heap.size) wr r R ∧ Ext w wr
set_option maxRecDepth 100000 in
set_option maxHeartbeats 4000000 in
theorem rackFuse_c (n : Int) (a : Option Addr) (len cap : Nat) (z : List Int) (w : World) (hg : EtLaid w) (hl : IsRow .i64 w a len cap z) :
    Calls Tryd.prog 5 #[.int .i64 n, .slice a len cap] w fun e w' => e = .returned (.bool true) ∧ Ext w w' := by
  have HG := hid hg
  have HL := hid hl.ints
  clear hg hl
  go_enter Tryd.func5, Tryd.ntmps5
  go_wp2_with fail
  refine (at_new 3 4 (by omega) (by omega) (by omega) (by omega) w).mono ?_
  rintro e w1 ⟨r, rfl, h1, x1⟩
  have H1 := hid h1; have X1 := hid x1
  clear h1 x1
  go_wp2_with fail
  refine (within_c n 0 30 w1 (by omega) (by omega) (by omega)).mono ?_
  rintro e w2 ⟨rfl, rfl⟩
  obtain ⟨hk0, hk1⟩ := within_bd n 0 30 (by omega)
  generalize within n 0 30 = k at *
  go_wp2_with fail
  refine (at_arm H1.out k (by omega)).mono ?_
  rintro e w2 ⟨rfl, h2, k2⟩
  have HR : Hid (FuseRel w r k 0 w2) := hid ⟨_, FuseSt.start k hk0, h2, Keeps.ext X1.out k2 fun q hq => hq⟩
  clear h2 k2 H1 X1
  go_wp2
  go_loopw [8] (fun i wr => ∃ j : Nat, i = .int .i64 j ∧ j ≤ 40 ∧ FuseRel w r k j wr) (fun i _ => 40 - (intOf i).toNat)
  case atStart => exact ⟨0, rfl, by omega, HR.out⟩
  case round =>
    clear HR
    obtain ⟨j, rfl, hj, R, hst, hra, hx⟩ := hrel
    have HST := hid hst; have HRA := hid hra; have HX := hid hx
    clear hst hra hx
    by_cases c1 : j < len
    · by_cases c2 : j < 40
      · obtain ⟨b, off, rfl, hc⟩ := (HL.out.ext HX.out).cells.resolve_left (by omega)
        have hcell := hc j c1
        obtain ⟨x, hxz⟩ : ∃ x, z.getD j 0 = x := ⟨_, rfl⟩
        rw [hxz] at hcell
        clear hc hxz
        have i0 : (0 : Int) ≤ (j : Int) := by omega
        have i1 : (j : Int) < (len : Int) := by omega
        have i2 : (j : Int) < 40 := by omega
        have i3 : (j : Int) % 256 = (j : Int) := by omega
        go_wp2_with fail
        refine (within_c x 0 2 wr (by omega) (by omega) (by omega)).mono ?_
        rintro e w3 ⟨rfl, rfl⟩
        obtain ⟨d0, d1⟩ := within_bd x 0 2 (by omega)
        generalize within x 0 2 = d at *
        by_cases hp : x.tmod 2 = 0
        · have hb : (x.tmod 2 == 0) = true := by simp [hp]
          clear hp
          by_cases hk : (j : Int) < k
          · have hk1 : decide ((j : Int) < k) = true := by simpa using hk
            have hk2 : decide (k ≤ (j : Int)) = false := by simp; omega
            obtain ⟨q1, q2⟩ := HST.out.flush_on hk d0 (by omega)
            have Q1 := hid q1
            have HST4 := hid q2
            clear q1 q2
            go_wp2_with fail
            refine (at_flush HRA.out d).mono ?_
            rintro e w4 ⟨rfl, h4, k4⟩
            rw [Q1.out]
            simp only [oErr]
            have HRA4 := hid h4
            have HX4 := hid (Keeps.ext HX.out k4 fun q hq => hq)
            clear h4 k4
            have HOF := hid (HST4.out.on (by push_cast; omega)).1
            go_wp2_with (go_at_call 21; refine (at_off HRA4.out).mono ?_; rintro e w5 ⟨rfl, rfl⟩; rw [HOF.out])
            go_roundw
            case rel => exact ⟨j + 1, by go_num, by omega, _, HST4.out, HRA4.out, HX4.out⟩
            case measure => simp [intOf]; omega
          · have hk : k ≤ (j : Int) := by omega
            have hk1 : decide ((j : Int) < k) = false := by simp; omega
            have hk2 : decide (k ≤ (j : Int)) = true := by simpa using hk
            obtain ⟨q1, q2⟩ := HST.out.flush_off hk d0 (by omega)
            have Q1 := hid q1
            have HST4 := hid q2
            clear q1 q2
            go_wp2_with fail
            refine (at_flush HRA.out d).mono ?_
            rintro e w4 ⟨rfl, h4, k4⟩
            rw [Q1.out]
            simp only [oErr]
            have HRA4 := hid h4
            have HX4 := hid (Keeps.ext HX.out k4 fun q hq => hq)
            clear h4 k4
            have HOF := hid (HST4.out.off (by push_cast; omega))
            obtain ⟨er, her⟩ : ∃ er, Err.fault sRackFlush d (.no 5) = er := ⟨_, rfl⟩
            rw [her]
            have HKD : Hid (er.kind = 5) := hid (by rw [← her]; rfl)
            clear her
            obtain ⟨t2, v2, hq⟩ : ∃ t v, er.val = .iface t v := by cases er <;> exact ⟨_, _, rfl⟩
            rw [hq]
            have HQ := hid hq
            clear hq
            go_wp2_with fail
            refine (show Calls _ _ _ _ _ by rw [← HQ.out]; exact kind_err er w4 (HG.out.only HX4.out (fun x => x))).mono ?_
            rintro e w5 ⟨rfl, x5⟩
            rw [HKD.out]
            have HRA5 := hid (HRA4.out.ext x5)
            have HX5 := hid (Ext.trans HX4.out x5)
            clear x5
            go_wp2_with (go_at_call 21; refine (at_off HRA5.out).mono ?_; rintro e w6 ⟨rfl, rfl⟩; rw [HOF.out])
            go_roundw
            case rel => exact ⟨j + 1, by go_num, by omega, _, HST4.out, HRA5.out, HX5.out⟩
            case measure => simp [intOf]; omega
        · have hb : (x.tmod 2 == 0) = false := by simpa using hp
          clear hp
          by_cases hk : (j : Int) < k
          · have hk1 : decide ((j : Int) < k) = true := by simpa using hk
            have hk2 : decide (k ≤ (j : Int)) = false := by simp; omega
            obtain ⟨q1, q2⟩ := HST.out.write_on hk (s := (j : Int) % 4) (b := sect j) d0 (by omega) (by omega) (by omega) (by simp [sect])
            have Q1 := hid q1
            have HST4 := hid q2
            clear q1 q2
            go_wp2_with fail
            refine (sector_c j (by omega) wr).mono ?_
            rintro e w3 ⟨b2, rfl, hb2, hby2, x3⟩
            have HRA3 := hid (HRA.out.ext x3)
            have HX3 := hid (Ext.trans HX.out x3)
            have HBY := hid hby2
            clear hby2 x3
            go_wp2_with fail
            refine (at_write HRA3.out d ((j : Int) % 4) _ 128 128 _ HBY.out).mono ?_
            rintro e w4 ⟨rfl, h4, k4⟩
            rw [Q1.out]
            simp only [oErr]
            have HRA4 := hid h4
            have HX4 := hid (Keeps.ext HX3.out k4 fun q hq => hq)
            clear h4 k4
            have HOF := hid (HST4.out.on (by push_cast; omega)).1
            go_wp2_with (go_at_call 21; refine (at_off HRA4.out).mono ?_; rintro e w5 ⟨rfl, rfl⟩; rw [HOF.out])
            go_roundw
            case rel => exact ⟨j + 1, by go_num, by omega, _, HST4.out, HRA4.out, HX4.out⟩
            case measure => simp [intOf]; omega
          · have hk : k ≤ (j : Int) := by omega
            have hk1 : decide ((j : Int) < k) = false := by simp; omega
            have hk2 : decide (k ≤ (j : Int)) = true := by simpa using hk
            obtain ⟨q1, q2⟩ := HST.out.write_off hk (s := (j : Int) % 4) (b := sect j) d0 (by omega) (by omega) (by omega) (by simp [sect])
            have Q1 := hid q1
            have HST4 := hid q2
            clear q1 q2
            go_wp2_with fail
            refine (sector_c j (by omega) wr).mono ?_
            rintro e w3 ⟨b2, rfl, hb2, hby2, x3⟩
            have HRA3 := hid (HRA.out.ext x3)
            have HX3 := hid (Ext.trans HX.out x3)
            have HBY := hid hby2
            clear hby2 x3
            go_wp2_with fail
            refine (at_write HRA3.out d ((j : Int) % 4) _ 128 128 _ HBY.out).mono ?_
            rintro e w4 ⟨rfl, h4, k4⟩
            rw [Q1.out]
            simp only [oErr]
            have HRA4 := hid h4
            have HX4 := hid (Keeps.ext HX3.out k4 fun q hq => hq)
            clear h4 k4
            have HOF := hid (HST4.out.off (by push_cast; omega))
            obtain ⟨er, her⟩ : ∃ er, Err.fault sRackWrite d (.no 5) = er := ⟨_, rfl⟩
            rw [her]
            have HKD : Hid (er.kind = 5) := hid (by rw [← her]; rfl)
            clear her
            obtain ⟨t2, v2, hq⟩ : ∃ t v, er.val = .iface t v := by cases er <;> exact ⟨_, _, rfl⟩
            rw [hq]
            have HQ := hid hq
            clear hq
            go_wp2_with fail
            refine (show Calls _ _ _ _ _ by rw [← HQ.out]; exact kind_err er w4 (HG.out.only HX4.out (fun x => x))).mono ?_
            rintro e w5 ⟨rfl, x5⟩
            rw [HKD.out]
            have HRA5 := hid (HRA4.out.ext x5)
            have HX5 := hid (Ext.trans HX4.out x5)
            clear x5
            go_wp2_with (go_at_call 21; refine (at_off HRA5.out).mono ?_; rintro e w6 ⟨rfl, rfl⟩; rw [HOF.out])
            go_roundw
            case rel => exact ⟨j + 1, by go_num, by omega, _, HST4.out, HRA5.out, HX5.out⟩
            case measure => simp [intOf]; omega
      · obtain rfl : j = 40 := by omega
        have i1 : (40 : Int) < (len : Int) := by omega
        go_wp2_with fail
        refine (at_boot HRA.out none 0 0 [] ⟨rfl, by simp, .inl rfl⟩ (fun p hp => by cases hp)).mono ?_
        rintro e w4 ⟨rfl, h4, k4⟩
        have HRA4 := hid h4
        have HX4 := hid (Keeps.ext HX.out k4 fun q hq => hq)
        obtain ⟨q1, q2⟩ := HST.out.boot_flush
        have Q1 := hid q1; have Q2 := hid q2
        clear h4 k4 q1 q2
        go_wp2_with (go_at_call 21; refine (at_off HRA4.out).mono ?_; rintro e w5 ⟨rfl, rfl⟩; rw [show (R.boot []).off = false from rfl])
        refine (at_flush HRA4.out 0).mono ?_
        rintro e w6 ⟨rfl, h6, k6⟩
        rw [Q1.out]
        simp only [oErr]
        have HRA6 := hid h6
        have HX6 := hid (Keeps.ext HX4.out k6 fun q hq => hq)
        clear h6 k6
        go_wp2_with fail
        refine (at_online HRA6.out).mono ?_
        rintro e w7 ⟨v, rfl, hown, x7⟩
        obtain ⟨a7, c7, rfl, _⟩ := hown.slice
        rw [Q2.out]
        have HX7 := hid (Ext.trans HX6.out x7)
        clear x7 hown
        go_wp2_with fail
        refine (rackRuns_c w7 (HG.out.only HX7.out (fun x => x))).mono ?_
        rintro e w8 ⟨rfl, x8⟩
        have HX8 := hid (Ext.trans HX7.out x8)
        clear x8
        go_wp2
        go_ret
        exact ⟨rfl, HX8.out⟩
    · have i1 : ¬ (j : Int) < (len : Int) := by omega
      have i2 : decide (j < len) = false := by simp; omega
      go_wp2_with fail
      refine (at_boot HRA.out none 0 0 [] ⟨rfl, by simp, .inl rfl⟩ (fun p hp => by cases hp)).mono ?_
      rintro e w4 ⟨rfl, h4, k4⟩
      have HRA4 := hid h4
      have HX4 := hid (Keeps.ext HX.out k4 fun q hq => hq)
      obtain ⟨q1, q2⟩ := HST.out.boot_flush
      have Q1 := hid q1; have Q2 := hid q2
      clear h4 k4 q1 q2
      go_wp2_with (go_at_call 21; refine (at_off HRA4.out).mono ?_; rintro e w5 ⟨rfl, rfl⟩; rw [show (R.boot []).off = false from rfl])
      refine (at_flush HRA4.out 0).mono ?_
      rintro e w6 ⟨rfl, h6, k6⟩
      rw [Q1.out]
      simp only [oErr]
      have HRA6 := hid h6
      have HX6 := hid (Keeps.ext HX4.out k6 fun q hq => hq)
      clear h6 k6
      go_wp2_with fail
      refine (at_online HRA6.out).mono ?_
      rintro e w7 ⟨v, rfl, hown, x7⟩
      obtain ⟨a7, c7, rfl, _⟩ := hown.slice
      rw [Q2.out]
      have HX7 := hid (Ext.trans HX6.out x7)
      clear x7 hown
      go_wp2_with fail
      refine (rackRuns_c w7 (HG.out.only HX7.out (fun x => x))).mono ?_
      rintro e w8 ⟨rfl, x8⟩
      have HX8 := hid (Ext.trans HX7.out x8)
      clear x8
      go_wp2
      go_ret
      exact ⟨rfl, HX8.out⟩
end Go.Proofs.YtdbjojnejkklhaaDoor

/- The statement RackFuse, as its tied card: for every input the call of stavelaw8's RackFuse answers true, and its arguments read behind it as they read before. No condition of our own. -/
namespace Go.Proofs.YtdbjojnejkklhaaDoor.rackFuse
open Go.ChangeShapes Go.WideShapes Go.ChangeAt Go.RowKit
open Go.ChangeMaps (open_string shut_string)
set_option linter.unusedVariables false
theorem laidOut : laidOutB Tryd.prog = true := by kernel_rfl
theorem walk (a0 : Int) (a1 : Option Addr) (len1 cap1 : Nat) (z1 : List Int) (w : World) (hg : EtLaid w) (w0 : (Lit.int .i64 a0).wf = true) (w1 : IsRow .i64 w a1 len1 cap1 z1) :
    Calls Tryd.prog 5 #[.int .i64 a0, .slice a1 len1 cap1] w fun e w' => e = .returned (.bool true) ∧ Below w.heap.size w w' :=
  (rackFuse_c a0 a1 len1 cap1 z1 w hg w1).mono fun _ _ ⟨he, hx⟩ => ⟨he, hx.below⟩
set_option maxRecDepth 100000 in
theorem lifted (os : Os) (started : os.Started) (H : Type) (enc : TypeId × Value → H) :
    ReturnsInHanded {} Tryd.checked os 5 .any (fun w args => (Rows.rackFuseSpec.pre enc Tryd.prog Tryd.f5 [] false w args ∧ laidMetH Tryd.prog theLaid w) ∧ sizedMet enc Tryd.prog Tryd.f5 (OpenSpec.ofChange Rows.rackFuseSpec) false w args)
      (Rows.rackFuseSpec.post enc Tryd.prog Tryd.f5 false true false false) := by
  refine returnsInHanded_of_change_and (C := Tryd.checked) (X := fun w _ => laidMetH Tryd.prog theLaid w) (fun _ _ _ hh h => h.of_heap hh) hOwn started (by kernel_rfl) Tryd.func5
    (ChangeSpec.witness_at (enc := enc) (C := Tryd.checked) (os := os) (X := fun w _ => laidMetH Tryd.prog theLaid w) false (laidWorld os) #[.int .i64 0, .slice none 0 0] 8 rfl (by kernel_rfl) (by kernel_rfl) (by kernel_rfl) (by kernel_rfl) (by kernel_rfl) (laidWorld_met os _)) ?_
  intro W base args ds gs before hval0 hW _ _ hL _
  have hval : ∀ (j : Nat) t v, Tryd.f5.params[j]? = some t → args[j]? = some v → Value.okWide Tryd.prog W .any base t v := hval0
  have hW' := hW
  obtain ⟨p, q, hA0, hV, rfl, hfz, hnd⟩ := hW
  have hA : DataW.TrodAll enc Tryd.prog W 0 (fun _ => true) true Tryd.f5.params.toList args.toList ds p := hA0
  rw [Tryd.params5] at hA hval
  obtain ⟨v0, vs0, d0, ds0, p0, q0, hargs, rfl, rfl, h0, r0⟩ := trodAll_cons hA
  obtain ⟨v1, vs1, d1, ds1, p1, q1, rfl, rfl, rfl, h1, r1⟩ := trodAll_cons r0
  obtain ⟨rfl, rfl, rfl⟩ := trodAll_nil r1
  obtain rfl : args = #[v0, v1] := by cases args; simp_all
  obtain ⟨rfl, rfl⟩ := trodVars_none hV
  obtain ⟨a0, rfl, rfl, rfl, w0⟩ := open_int Tryd.underlying3 (hval 0 3 v0 rfl rfl) h0
  obtain ⟨a1, len1, cap1, rfl⟩ := okWide_slice Tryd.underlying48 (hval 1 48 v1 rfl rfl)
  have k1 := h1
  have lt1 : ∀ x ∈ p1, x.block < W.heap.size := by obtain ⟨m, hm⟩ := k1; exact DataW.trod_lt m _ _ _ hm
  obtain ⟨z1, w1⟩ : ∃ zs, IsRow .i64 W a1 len1 cap1 zs := by
    obtain ⟨fuel, hf⟩ := h1
    rcases open_ints Tryd.underlying48 Tryd.underlying3 (by kernel_rfl) hf with ⟨hcs, _⟩ | ⟨x, l, c, zs, hcs, _, hl, hm, hz, _, hcell, hwz⟩
    · simp [Value.cells] at hcs
      obtain ⟨rfl, rfl, rfl⟩ := hcs
      exact ⟨[], .inl ⟨rfl, rfl, rfl, rfl⟩⟩
    · simp [Value.cells] at hcs
      obtain ⟨rfl, rfl, rfl⟩ := hcs
      exact ⟨zs, .inr ⟨_, rfl, hl, hm, by simpa using hz, hcell, hwz⟩⟩
  have hg := etLaid_of hL
  clear hA0 hval0
  simp only [List.append_nil] at hW'
  refine (walk a0 a1 len1 cap1 z1 W hg w0 w1).mono fun e W' ⟨he, bel⟩ => ?_
  subst he
  exact ⟨_, rfl, _, _, _, [], _, [], hW', trodAll_mk1 (shut_bool Tryd.underlying4 _), (trodAll_cons_mk (shut_int Tryd.underlying3 w0) (trodAll_cons_mk (Below.trod laidOut (by kernel_rfl) (of_decide_eq_true (by kernel_rfl)) k1 bel lt1) trodAll_mk0)), rfl, bel.frame _, fun h => by cases h⟩
theorem over : Rows.RackFuseSaid :=
  OpenClaim.holds_of_wide 5 Tryd.f5 rfl rfl rfl rfl rfl rfl rfl ⟨rfl, rfl, rfl, rfl, rfl⟩ rfl rfl rfl rfl rfl (by kernel_rfl) Tryd.func5 (by kernel_rfl)
    (of_decide_eq_true (by kernel_rfl)) (by unfold Func.isWrapper; first | (rw [if_pos (by decide +kernel)]; kernel_rfl) | (rw [if_neg (by decide +kernel)]; exact ⟨rfl, rfl⟩))
    (fun os started H enc _ => lifted os started H enc)
theorem proved : Rows.RackFuseCardSaid :=
  Claim7.holds_tied_plain_at .later [] [.handle] true (true, "dba68c5c8641de8e0643fe4af85c7b77ef0591640622d3211a00d85201f74fa1") true
    over (fun _ h => by cases h) (by kernel_rfl) (fun _ h => by cases h) rackFuse_row_tie rfl ⟨rfl, rfl⟩ (by kernel_rfl) rfl
    (fun f fn hf hfn => by
      obtain rfl : f = 5 := Option.some.inj ((show Tryd.prog.funcNamed "stave/stavelaw8.RackFuse" = some 5 by kernel_rfl).symm.trans hf) |>.symm
      obtain rfl : fn = Tryd.f5 := (Option.some.inj (Tryd.func5.symm.trans hfn)).symm
      exact ⟨by kernel_rfl, fun j t ht => by
        rw [Tryd.params5] at ht
        rcases j with _ | _ | j
        · simp at ht; subst ht; kernel_rfl
        · simp at ht; subst ht; kernel_rfl
        · simp at ht⟩)
    (by kernel_rfl)
#print axioms proved
end Go.Proofs.YtdbjojnejkklhaaDoor.rackFuse
