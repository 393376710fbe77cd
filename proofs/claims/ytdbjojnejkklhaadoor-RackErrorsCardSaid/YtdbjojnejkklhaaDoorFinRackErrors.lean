/- The statement RackErrors, as its tied card: for every input the call of stavelaw8's RackErrors answers true, and its arguments read behind it as they read before. No condition of our own. -/
/- Texts of one proof, joined: ErsPure, WRackErrors, LawRackErrors. -/
import Derived.Test.YtdbjojnejkklhaaDoorPartG
import Derived.Test.YtdbjojnejkklhaaDoorPartF
import Derived.Test.YtdbjojnejkklhaaDoorPartJ
import Derived.Test.YtdbjojnejkklhaaDoorPartA
import Derived.Test.YtdbjojnejkklhaaDoorCards
import Derived.Test.YtdbjojnejkklhaaDoorTie
import Derived.Test.YtdbjojnejkklhaaDoorPartC
import Derived.WalkKit
import Derived.ProofKit
import Derived.OpenShut
import Derived.ShutString
import Derived.ChangeOld
import Derived.Below
import Derived.SevenTiedAt
set_option linter.unusedVariables false
set_option linter.unusedSimpArgs false
/- A rack with a fuse of one, asked for what can't be: as plain data. No program stands here. -/
namespace Go.Proofs.YtdbjojnejkklhaaDoor
set_option linter.unusedVariables false
namespace Ers
/-- So many disks, the first one D, the power on, so much of a fuse. -/
structure E (R : Rck) (k : Nat) (D : Dsk) (f : Int) : Prop where
  len : R.l.length = k
  pos : 1 ≤ k
  dsk0 : R.dsk 0 = D
  off : R.off = false
  fuse : R.fuse = f
variable {R : Rck} {k : Nat} {D : Dsk} {f : Int}
theorem start (k : Nat) (hk : 1 ≤ k) : E ((Rck.new k 3).arm 1) k (Dsk.new 3) 1 := by
  refine ⟨by simp [Rck.arm, Rck.new], hk, ?_, rfl, rfl⟩
  exact Live.new_dsk k 3 0 (by omega)
theorem E.has0 (h : E R k D f) : R.has 0 = true := by unfold Rck.has; rw [h.len]; have := h.pos; simp; omega
theorem E.hasnt (h : E R k D f) (i : Int) (hi : i < 0 ∨ (k : Int) ≤ i) : R.has i = false := by unfold Rck.has; rw [h.len]; simp; omega
theorem E.up0 (h : E R k D f) : R.up 0 = !D.dead := by unfold Rck.up; rw [h.has0, h.dsk0]; rfl
theorem E.sectors (h : E R k D f) : R.sectors = D.l.length := by unfold Rck.sectors; rw [h.dsk0]
theorem E.set0 (h : E R k D f) (D' : Dsk) : E (R.setD 0 D') k D' f := by
  refine ⟨by simp [Rck.setD, h.len], h.pos, ?_, h.off, h.fuse⟩
  unfold Rck.setD Rck.dsk
  have : 0 < R.l.length := by rw [h.len]; exact h.pos
  simp [List.getD_eq_getElem?_getD, this]
theorem E.may (h : E R k D f) (wrong : Bool) : R.may 0 wrong = if D.dead then 5 else if wrong then 1 else if f = 0 then 5 else 0 := by
  unfold Rck.may
  rw [h.has0, h.off, h.up0, h.fuse]
  cases D.dead <;> rfl
theorem E.asked (h : E R k D f) (wrong : Bool) : R.asked 0 wrong = if D.dead then R else if wrong then R else if f = 0 then { R with off := true } else if 0 < f then { R with fuse := f - 1 } else R := by
  unfold Rck.asked
  rw [h.has0, h.off, h.up0, h.fuse]
  cases D.dead <;> rfl
theorem E.writeOut (h : E R k D f) (i : Int) (hi : i < 0 ∨ (k : Int) ≤ i) (s : Int) (b : List Nat) : R.write i s b = (some (.fault sRackWrite i (.no 1)), R) := by
  have hm : ∀ wrong, R.may i wrong = 1 := fun wrong => by unfold Rck.may; rw [h.hasnt i hi]; rfl
  have ha : ∀ wrong, R.asked i wrong = R := fun wrong => by unfold Rck.asked; rw [h.hasnt i hi]; rfl
  unfold Rck.write
  rw [hm, ha]; rfl
theorem E.flushOut (h : E R k D f) (i : Int) (hi : i < 0 ∨ (k : Int) ≤ i) : R.flush i = (some (.fault sRackFlush i (.no 1)), R) := by
  have hm : R.may i false = 1 := by unfold Rck.may; rw [h.hasnt i hi]; rfl
  have ha : R.asked i false = R := by unfold Rck.asked; rw [h.hasnt i hi]; rfl
  unfold Rck.flush
  rw [hm, ha]; rfl
theorem E.writeBad (h : E R k D f) (hd : D.dead = false) (s : Int) (b : List Nat) (hb : R.badW s b = true) : R.write 0 s b = (some (.fault sRackWrite 0 (.no 1)), R) := by
  unfold Rck.write
  rw [hb, h.may, h.asked, hd]; rfl
theorem E.writeDead (h : E R k D f) (hd : D.dead = true) (s : Int) (b : List Nat) : R.write 0 s b = (some (.fault sRackWrite 0 (.no 5)), R) := by
  unfold Rck.write
  rw [h.may, h.asked, hd]; rfl
theorem E.readOut (h : E R k D f) (i : Int) (hi : i < 0 ∨ (k : Int) ≤ i) (s : Int) : R.readE i s = some (.fault sRackRead i (.no 1)) := by
  unfold Rck.readE; rw [h.hasnt i hi]; rfl
theorem E.readSec (h : E R k D f) (hd : D.dead = false) (s : Int) (hs : (D.l.length : Int) ≤ s) : R.readE 0 s = some (.fault sRackRead 0 (.fault sDiskRead s (.no 1))) := by
  unfold Rck.readE Dsk.refusedE
  rw [h.has0, h.off, h.dsk0, hd]
  have e : (false || decide (s < 0) || decide ((D.l.length : Int) ≤ s)) = true := by simp; omega
  rw [e]; rfl
theorem E.die (h : E R k D f) : E (R.die 0) k D.die f := by
  have e : R.die 0 = R.setD 0 (R.dsk 0).die := by unfold Rck.die; rw [h.has0]; rfl
  rw [e, h.dsk0]; exact h.set0 _
theorem E.replace (h : E R k D f) : E (R.replace 0) k D.replace f := by
  have e : R.replace 0 = R.setD 0 (R.dsk 0).replace := by unfold Rck.replace; rw [h.has0]; rfl
  rw [e, h.dsk0]; exact h.set0 _
theorem E.write (h : E R k D 1) (hd : D.dead = false) (b : List Nat) (hb : R.badW 0 b = false) : ∃ R', R.write 0 0 b = (none, R') ∧ E R' k (D.write 0 b) 0 := by
  have hm : R.may 0 false = 0 := by rw [h.may, hd]; rfl
  have ha : R.asked 0 false = { R with fuse := 0 } := by rw [h.asked, hd]; rfl
  refine ⟨({ R with fuse := 0 } : Rck).setD 0 (D.write 0 b), ?_, E.set0 (R := { R with fuse := 0 }) ⟨h.len, h.pos, h.dsk0, h.off, rfl⟩ _⟩
  unfold Rck.write
  rw [hb, hm, if_pos rfl, ha, h.dsk0]; rfl
theorem E.flushBurnt (h : E R k D 0) (hd : D.dead = false) : R.flush 0 = (some (.fault sRackFlush 0 (.no 5)), { R with off := true }) := by
  have hm : R.may 0 false = 5 := by rw [h.may, hd]; rfl
  have ha : R.asked 0 false = { R with off := true } := by rw [h.asked, hd]; rfl
  unfold Rck.flush
  rw [hm, ha]; rfl
theorem E.bad (h : E R k D f) (hl : D.l.length = 3) (s : Int) (b : List Nat) : R.badW s b = (decide (s < 0) || decide (3 ≤ s) || decide (b.length ≠ 128)) := by
  unfold Rck.badW; rw [h.sectors, hl]; rfl
end Ers
end Go.Proofs.YtdbjojnejkklhaaDoor

/- The walk of RackErrors. -/
namespace Go.Proofs.YtdbjojnejkklhaaDoor
set_option linter.unusedVariables false
open Go Go.RowKit
set_option maxRecDepth 100000 in
set_option maxHeartbeats 1000000 in
theorem rnew_sec (n : Nat) (m : Int) (hn : 1 ≤ n) (hn8 : n ≤ 8) (h : m < 1 ∨ 128 < m) (w : World) : Calls Tryd.prog 14 #[.int .i64 n, .int .i64 m] w fun e w' => e = .returned (.tuple #[.pointer none, (Err.fault sRackNew n (.fault sDiskNew m (.no 1))).val]) ∧ Ext w w' := by
  have i1 : ¬ (n : Int) < 1 := by omega
  have i2 : ¬ (8 : Int) < (n : Int) := by omega
  have i3 : (0 : Int) < (n : Int) := by omega
  obtain ⟨er, hr⟩ : ∃ er, Err.fault sDiskNew m (.no 1) = er := ⟨_, rfl⟩
  have HD := hid (dnew_bad m h)
  rw [hr] at HD ⊢
  obtain ⟨t2, v2, hq⟩ := er.iface
  have HQ := hid hq
  have HX := hid (show Ext w (w.alloc (.cells #[.slice none 0 0, .bool false, .int .i64 (-1)] 85)) from (Ext.refl w).alloc _)
  rw [hq] at HD
  clear hr h hq
  go_enter Tryd.func14, Tryd.ntmps14
  go_wp2
  generalize w.alloc (.cells #[.slice none 0 0, .bool false, .int .i64 (-1)] 85) = W at *
  go_loopw [21] (fun i wr => i = .int .i64 0 ∧ wr = W) (fun _ _ => 0)
  case atStart => exact ⟨rfl, rfl⟩
  case round =>
    obtain ⟨rfl, rfl⟩ := hrel
    go_wp2_with (go_at_call 49; fail)
    refine (HD.out _).mono ?_
    rintro e w2 ⟨rfl, rfl⟩
    have HW := hid (wrap_err sRackNew n er)
    rw [HQ.out] at HW
    go_wp2_with (go_at_call 48; refine (HW.out _).mono ?_; rintro e w3 ⟨rfl, rfl⟩)
    go_ret2
    exact ⟨rfl, HX.out⟩
set_option maxRecDepth 100000 in
set_option maxHeartbeats 4000000 in
theorem rackErrors_c (n i s : Int) (w : World) (hg : EtLaid w) :
    Calls Tryd.prog 10 #[.int .i64 n, .int .i64 i, .int .i64 s] w fun e w' => e = .returned (.bool true) ∧ Ext w w' := by
  have HG := hid hg
  clear hg
  go_enter Tryd.func10, Tryd.ntmps10
  go_wp2_with fail
  refine (within_c n 1 5 w (by omega) (by omega) (by omega)).mono ?_
  rintro e w' ⟨rfl, rfl⟩
  obtain ⟨k0, k1⟩ := within_bd n 1 5 (by omega)
  generalize within n 1 5 = kk at *
  obtain ⟨k, rfl⟩ := Int.eq_ofNat_of_zero_le (show 0 ≤ kk by omega)
  go_wp2_with fail
  refine (at_new k 3 (by omega) (by omega) (by omega) (by omega) w).mono ?_
  rintro e w1 ⟨r, rfl, h1, x1⟩
  have H1 := hid h1; have X1 := hid x1
  clear h1 x1
  go_wp2_with fail
  refine (within_c i 0 9 w1 (by omega) (by omega) (by omega)).mono ?_
  rintro e w' ⟨rfl, rfl⟩
  obtain ⟨i0, i1⟩ := within_bd i 0 9 (by omega)
  generalize within i 0 9 = io at *
  go_wp2_with fail
  refine (within_c s 0 9 w1 (by omega) (by omega) (by omega)).mono ?_
  rintro e w' ⟨rfl, rfl⟩
  obtain ⟨s0, s1⟩ := within_bd s 0 9 (by omega)
  generalize within s 0 9 = so at *
  go_wp2_with fail
  refine (at_arm H1.out 1 (by omega)).mono ?_
  rintro e w2 ⟨rfl, h2, k2⟩
  have hE := Ers.start k (by omega)
  generalize (Rck.new k 3).arm 1 = R at *
  have H2 := hid h2
  have X2 := hid (Keeps.ext X1.out k2 fun q hq => hq)
  clear h2 k2 H1
  have hl3 : (Dsk.new 3).l.length = 3 := Dsk.new_len 3
  have hou : ((k : Int) + io < 0 ∨ (k : Int) ≤ (k : Int) + io) := by omega
  have hls : (sect 1).length = 128 := by simp [sect]
  obtain ⟨ea, hea⟩ : ∃ e, Err.fault sRackWrite ((k : Int) + io) (.no 1) = e := ⟨_, rfl⟩
  obtain ⟨eb, heb⟩ : ∃ e, Err.fault sRackWrite 0 (.no 1) = e := ⟨_, rfl⟩
  obtain ⟨ed, hed⟩ : ∃ e, Err.fault sRackFlush (-1) (.no 1) = e := ⟨_, rfl⟩
  obtain ⟨ef, hef⟩ : ∃ e, Err.fault sRackRead ((k : Int) + io) (.no 1) = e := ⟨_, rfl⟩
  obtain ⟨eg, heg⟩ : ∃ e, Err.fault sRackRead 0 (.fault sDiskRead (3 + so) (.no 1)) = e := ⟨_, rfl⟩
  obtain ⟨eh, heh⟩ : ∃ e, Err.fault sRackWrite 0 (.no 5) = e := ⟨_, rfl⟩
  have WA : Hid (R.write ((k : Int) + io) 0 (sect 1) = (some ea, R)) := hid (by rw [hE.writeOut _ hou, hea])
  have WB : Hid (R.write 0 (3 + so) (sect 1) = (some eb, R)) := hid (by rw [hE.writeBad rfl _ _ (by rw [hE.bad hl3]; simp; omega), heb])
  have WC : Hid (R.write 0 0 (((sect 1).drop 1).take 127) = (some eb, R)) := hid (by rw [hE.writeBad rfl _ _ (by rw [hE.bad hl3]; simp [sect]), heb])
  have WD : Hid (R.flush (-1) = (some ed, R)) := hid (by rw [hE.flushOut (-1) (by omega), hed])
  have WF : Hid (R.readE ((k : Int) + io) 0 = some ef) := hid (by rw [hE.readOut _ hou, hef])
  have WG : Hid (R.readE 0 (3 + so) = some eg) := hid (by rw [hE.readSec rfl _ (by rw [hl3]; omega), heg])
  have KA : Hid (ea.kind = 1) := hid (by rw [← hea]; rfl)
  have KB : Hid (eb.kind = 1) := hid (by rw [← heb]; rfl)
  have KD : Hid (ed.kind = 1) := hid (by rw [← hed]; rfl)
  have KF : Hid (ef.kind = 1) := hid (by rw [← hef]; rfl)
  have KG : Hid (eg.kind = 1) := hid (by rw [← heg]; rfl)
  have KH : Hid (eh.kind = 5) := hid (by rw [← heh]; rfl)
  have PA : Hid (ea.parts = [] ++ [(sRackWrite, (k : Int) + io, .no 1)] ∧ ea.depth < 1000) := hid (by rw [← hea]; exact ⟨rfl, by show 1 < 1000; omega⟩)
  have PG : Hid (eg.parts.map (·.1) = [sRackRead, sDiskRead] ∧ eg.depth < 1000) := hid (by rw [← heg]; exact ⟨rfl, by show 2 < 1000; omega⟩)
  have hE2 := hE.die
  have WH : Hid ((R.die 0).write 0 0 (sect 1) = (some eh, R.die 0)) := hid (by rw [hE2.writeDead rfl, heh])
  have hE3 := hE2.replace
  have hl4 : ((Dsk.new 3).die.replace).l.length = 3 := by rw [Dsk.replace_len, Dsk.die_len]; exact hl3
  obtain ⟨R4, hw4, hE4⟩ := hE3.write rfl (sect 1) (by rw [hE3.bad hl4, hls]; rfl)
  have WI := hid hw4
  have hf5 := hE4.flushBurnt rfl
  obtain ⟨ei, hei⟩ : ∃ e, Err.fault sRackFlush 0 (.no 5) = e := ⟨_, rfl⟩
  obtain ⟨R5, hR5⟩ : ∃ R5 : Rck, ({ R4 with off := true } : Rck) = R5 := ⟨_, rfl⟩
  rw [hei, hR5] at hf5
  have WJ := hid hf5
  have KI : Hid (ei.kind = 5) := hid (by rw [← hei]; rfl)
  have OFF : Hid (R5.off = true) := hid (by rw [← hR5])
  have hk0 : (1 : Int) ≤ (k : Int) := by omega
  have hk5 : (k : Int) ≤ 5 := by omega
  clear hE hE2 hE3 hE4 hw4 hf5 hea heb hed hef heg heh hei hR5 hou hls hl3 hl4
  go_wp2_with fail
  refine (sector_c 1 (by omega) _).mono ?_
  rintro e w3 ⟨b2, rfl, hb2, hby2, x6⟩
  have HBY := hid hby2
  have H3 := hid (H2.out.ext x6)
  have X3 := hid (Ext.trans X2.out x6)
  clear hb2 hby2 x6
  go_wp2_with fail
  refine (at_write H3.out (k + io) 0 _ 128 128 _ HBY.out).mono ?_
  rintro e w4 ⟨rfl, h6, k6⟩
  rw [WA.out] at h6 ⊢
  simp only [oErr]
  have H4 := hid h6
  have X4 := hid (Keeps.ext X3.out k6 fun q hq => hq)
  clear h6 k6
  go_wp2_with fail
  refine (sector_c 1 (by omega) _).mono ?_
  rintro e w5 ⟨b2, rfl, hb2, hby2, x6⟩
  have HBY := hid hby2
  have H5 := hid (H4.out.ext x6)
  have X5 := hid (Ext.trans X4.out x6)
  clear hb2 hby2 x6
  go_wp2_with fail
  refine (at_write H5.out 0 (3 + so) _ 128 128 _ HBY.out).mono ?_
  rintro e w6 ⟨rfl, h6, k6⟩
  rw [WB.out] at h6 ⊢
  simp only [oErr]
  have H6 := hid h6
  have X6 := hid (Keeps.ext X5.out k6 fun q hq => hq)
  clear h6 k6
  go_wp2_with fail
  refine (sector_c 1 (by omega) _).mono ?_
  rintro e w7 ⟨b2, rfl, hb2, hby2, x6⟩
  have HBY := hid hby2
  have H7 := hid (H6.out.ext x6)
  have X7 := hid (Ext.trans X6.out x6)
  clear hb2 hby2 x6
  go_wp2_with fail
  refine (at_write H7.out 0 0 _ 127 127 _ (HBY.out.sub 1 127 (by omega))).mono ?_
  rintro e w8 ⟨rfl, h6, k6⟩
  rw [WC.out] at h6 ⊢
  simp only [oErr]
  have H8 := hid h6
  have X8 := hid (Keeps.ext X7.out k6 fun q hq => hq)
  clear h6 k6
  go_wp2_with fail
  refine (at_flush H8.out (-1)).mono ?_
  rintro e w9 ⟨rfl, h6, k6⟩
  rw [WD.out] at h6 ⊢
  simp only [oErr]
  have H9 := hid h6
  have X9 := hid (Keeps.ext X8.out k6 fun q hq => hq)
  clear h6 k6
  go_wp2_with fail
  refine (at_read H9.out (k + io) 0).mono ?_
  intro e w10 hor
  obtain ⟨er, q1, rfl, x6⟩ := hor.resolve_right (fun q => absurd (WF.out.symm.trans q.1) (by simp))
  clear hor
  have q2 := WF.out.symm.trans q1
  cases q2
  have H10 := hid (H9.out.ext x6)
  have X10 := hid (Ext.trans X9.out x6)
  clear q1 x6
  go_wp2_with fail
  refine (at_read H10.out 0 (3 + so)).mono ?_
  intro e w11 hor
  obtain ⟨er, q1, rfl, x6⟩ := hor.resolve_right (fun q => absurd (WG.out.symm.trans q.1) (by simp))
  clear hor
  have q2 := WG.out.symm.trans q1
  cases q2
  have H11 := hid (H10.out.ext x6)
  have X11 := hid (Ext.trans X10.out x6)
  clear q1 x6
  go_wp2_with fail
  refine (at_die H11.out 0).mono ?_
  rintro e w12 ⟨rfl, h6, k6⟩
  have H12 := hid h6
  have X12 := hid (Keeps.ext X11.out k6 fun q hq => hq)
  clear h6 k6
  go_wp2_with fail
  refine (sector_c 1 (by omega) _).mono ?_
  rintro e w13 ⟨b2, rfl, hb2, hby2, x6⟩
  have HBY := hid hby2
  have H13 := hid (H12.out.ext x6)
  have X13 := hid (Ext.trans X12.out x6)
  clear hb2 hby2 x6
  go_wp2_with fail
  refine (at_write H13.out 0 0 _ 128 128 _ HBY.out).mono ?_
  rintro e w14 ⟨rfl, h6, k6⟩
  rw [WH.out] at h6 ⊢
  simp only [oErr]
  have H14 := hid h6
  have X14 := hid (Keeps.ext X13.out k6 fun q hq => hq)
  clear h6 k6
  go_wp2_with fail
  refine (at_replace H14.out 0).mono ?_
  rintro e w15 ⟨rfl, h6, k6⟩
  have H15 := hid h6
  have X15 := hid (Keeps.ext X14.out k6 fun q hq => hq)
  clear h6 k6
  --M1
  go_wp2_with fail
  refine (where_c ea [] sRackWrite (k + io) (.no 1) PA.out.1 PA.out.2 _ (HG.out.only X15.out (fun x => x))).mono ?_
  rintro e w16 ⟨rfl, x6⟩
  have X16 := hid (Ext.trans X15.out x6)
  have H16 := hid (H15.out.ext x6)
  clear x6
  go_wp2_with fail
  refine (path_c eg PG.out.2 _ (HG.out.only X16.out (fun x => x))).mono ?_
  rintro e w17 ⟨v, rfl, hown, x6⟩
  rw [PG.out.1] at hown
  obtain ⟨a, c, rfl, hsl⟩ := hown.slice
  have HV : Hid (StrAt w17 a [sRackRead, sDiskRead]) := hid fun j x hx => by
    rcases hsl with ⟨h0, _⟩ | ⟨b, rfl, _, _, _, hc⟩
    · cases h0
    · exact ⟨b, 0, rfl, by rw [Nat.zero_add]; exact hc j x hx⟩
  have X17 := hid (Ext.trans X16.out x6)
  have H17 := hid (H16.out.ext x6)
  have XR17 := hid (Ext.refl w17)
  clear hown hsl x6
  rw [show ([sRackRead, sDiskRead] : List ByteArray).length = 2 from rfl, show sRackWrite = ⟨#[114, 97, 99, 107, 46, 87, 114, 105, 116, 101]⟩ from rfl]
  --M2
  go_wp2_with fail
  refine (kind_err ea _ (HG.out.only X17.out (fun x => x))).mono ?_
  rintro e w18 ⟨rfl, x6⟩
  rw [KA.out]
  have X18 := hid (Ext.trans X17.out x6)
  have XR18 := hid (Ext.trans XR17.out x6)
  clear x6
  go_wp2_with fail
  refine (kind_err eb _ (HG.out.only X18.out (fun x => x))).mono ?_
  rintro e w19 ⟨rfl, x6⟩
  rw [KB.out]
  have X19 := hid (Ext.trans X18.out x6)
  have XR19 := hid (Ext.trans XR18.out x6)
  clear x6
  go_wp2_with fail
  refine (kind_err eb _ (HG.out.only X19.out (fun x => x))).mono ?_
  rintro e w20 ⟨rfl, x6⟩
  rw [KB.out]
  have X20 := hid (Ext.trans X19.out x6)
  have XR20 := hid (Ext.trans XR19.out x6)
  clear x6
  go_wp2_with fail
  refine (kind_err ed _ (HG.out.only X20.out (fun x => x))).mono ?_
  rintro e w21 ⟨rfl, x6⟩
  rw [KD.out]
  have X21 := hid (Ext.trans X20.out x6)
  have XR21 := hid (Ext.trans XR20.out x6)
  clear x6
  go_wp2_with fail
  refine (kind_err ef _ (HG.out.only X21.out (fun x => x))).mono ?_
  rintro e w22 ⟨rfl, x6⟩
  rw [KF.out]
  have X22 := hid (Ext.trans X21.out x6)
  have XR22 := hid (Ext.trans XR21.out x6)
  clear x6
  go_wp2_with fail
  refine (kind_err eh _ (HG.out.only X22.out (fun x => x))).mono ?_
  rintro e w23 ⟨rfl, x6⟩
  rw [KH.out]
  have X23 := hid (Ext.trans X22.out x6)
  have XR23 := hid (Ext.trans XR22.out x6)
  clear x6
  go_wp2_with fail
  refine (kind_err eg _ (HG.out.only X23.out (fun x => x))).mono ?_
  rintro e w24 ⟨rfl, x6⟩
  rw [KG.out]
  have X24 := hid (Ext.trans X23.out x6)
  have XR24 := hid (Ext.trans XR23.out x6)
  clear x6
  --M3
  go_wp2_with fail
  rw [show (#[Value.string ⟨#[114, 97, 99, 107, 46, 82, 101, 97, 100]⟩, .string ⟨#[100, 105, 115, 107, 46, 82, 101, 97, 100]⟩] : Array Value) = #[Value.string sRackRead, .string sDiskRead] from rfl]
  have HV2 : Hid (StrAt (w24.alloc (.cells #[Value.string sRackRead, .string sDiskRead] 9)) (some ⟨w24.heap.size, 0, none⟩) [sRackRead, sDiskRead]) := hid fun j x hx => ⟨w24.heap.size, 0, rfl, by
    rw [Nat.zero_add, cell_at block_alloc]
    rcases j with _ | _ | j
    · simp at hx; subst hx; rfl
    · simp at hx; subst hx; rfl
    · simp at hx⟩
  have XA := (Ext.refl w24).alloc (.cells #[Value.string sRackRead, .string sDiskRead] 9)
  refine (samestr_c a (some ⟨w24.heap.size, 0, none⟩) [sRackRead, sDiskRead] 2 c 2 rfl (by omega) _ (StrAt.ext HV.out (Ext.trans XR24.out XA)) HV2.out).mono ?_
  rintro e w25 ⟨rfl, x6⟩
  have X25 := hid (Ext.trans X24.out (Ext.trans XA x6))
  have H25 := hid (H17.out.ext (Ext.trans XR24.out (Ext.trans XA x6)))
  clear x6 XA HV HV2
  --M4
  go_wp2_with fail
  refine (rnew_bad 9 3 (by omega) _).mono ?_
  rintro e w' ⟨rfl, rfl⟩
  obtain ⟨ex, hex⟩ : ∃ e, Err.fault sRackNew 9 (.no 1) = e := ⟨_, rfl⟩
  have KX : Hid (ex.kind = 1) := hid (by rw [← hex]; rfl)
  rw [hex]
  clear hex
  go_wp2_with fail
  refine (rnew_sec 2 129 (by omega) (by omega) (by omega) _).mono ?_
  rintro e w26 ⟨rfl, x6⟩
  obtain ⟨ey, hey⟩ : ∃ e, Err.fault sRackNew ((2 : Nat) : Int) (.fault sDiskNew 129 (.no 1)) = e := ⟨_, rfl⟩
  have KY : Hid (ey.kind = 1) := hid (by rw [← hey]; rfl)
  rw [hey]
  have X26 := hid (Ext.trans X25.out x6)
  have H26 := hid (H25.out.ext x6)
  clear hey x6
  go_wp2_with fail
  refine (sector_c 1 (by omega) _).mono ?_
  rintro e w27 ⟨b2, rfl, hb2, hby2, x6⟩
  have HBY := hid hby2
  have H27 := hid (H26.out.ext x6)
  have X27 := hid (Ext.trans X26.out x6)
  clear hb2 hby2 x6
  go_wp2_with fail
  refine (at_write H27.out 0 0 _ 128 128 _ HBY.out).mono ?_
  rintro e w28 ⟨rfl, h6, k6⟩
  rw [WI.out] at h6 ⊢
  simp only [oErr]
  have H28 := hid h6
  have X28 := hid (Keeps.ext X27.out k6 fun q hq => hq)
  clear h6 k6
  go_wp2_with fail
  refine (at_flush H28.out 0).mono ?_
  rintro e w29 ⟨rfl, h6, k6⟩
  rw [WJ.out] at h6 ⊢
  simp only [oErr]
  have H29 := hid h6
  have X29 := hid (Keeps.ext X28.out k6 fun q hq => hq)
  clear h6 k6
  have XR29 := hid (Ext.refl w29)
  go_wp2_with fail
  refine (kind_err ei _ (HG.out.only X29.out (fun x => x))).mono ?_
  rintro e w30 ⟨rfl, x6⟩
  rw [KI.out]
  have X30 := hid (Ext.trans X29.out x6)
  have XR30 := hid (Ext.trans XR29.out x6)
  clear x6
  go_wp2_with fail
  refine (at_off (H29.out.ext XR30.out)).mono ?_
  rintro e w' ⟨rfl, rfl⟩
  rw [OFF.out]
  go_wp2_with fail
  refine (kind_err ex _ (HG.out.only X30.out (fun x => x))).mono ?_
  rintro e w31 ⟨rfl, x6⟩
  rw [KX.out]
  have X31 := hid (Ext.trans X30.out x6)
  have XR31 := hid (Ext.trans XR30.out x6)
  clear x6
  go_wp2_with fail
  refine (kind_err ey _ (HG.out.only X31.out (fun x => x))).mono ?_
  rintro e w32 ⟨rfl, x6⟩
  rw [KY.out]
  have X32 := hid (Ext.trans X31.out x6)
  have XR32 := hid (Ext.trans XR31.out x6)
  clear x6
  go_wp2_with fail
  refine (rackRuns_c _ (HG.out.only X32.out (fun x => x))).mono ?_
  rintro e w33 ⟨rfl, x6⟩
  have X33 := hid (Ext.trans X32.out x6)
  clear x6
  go_wp2
  go_ret
  exact ⟨rfl, X33.out⟩
end Go.Proofs.YtdbjojnejkklhaaDoor

/- The statement RackErrors, as its tied card: for every input the call of stavelaw8's RackErrors answers true, and its arguments read behind it as they read before. No condition of our own. -/
namespace Go.Proofs.YtdbjojnejkklhaaDoor.rackErrors
open Go.ChangeShapes Go.WideShapes Go.ChangeAt Go.RowKit
open Go.ChangeMaps (open_string shut_string)
set_option linter.unusedVariables false
theorem laidOut : laidOutB Tryd.prog = true := by kernel_rfl
theorem walk (a0 : Int) (a1 : Int) (a2 : Int) (w : World) (hg : EtLaid w) (w0 : (Lit.int .i64 a0).wf = true) (w1 : (Lit.int .i64 a1).wf = true) (w2 : (Lit.int .i64 a2).wf = true) :
    Calls Tryd.prog 10 #[.int .i64 a0, .int .i64 a1, .int .i64 a2] w fun e w' => e = .returned (.bool true) ∧ Below w.heap.size w w' :=
  (rackErrors_c a0 a1 a2 w hg).mono fun _ _ ⟨he, hx⟩ => ⟨he, hx.below⟩
set_option maxRecDepth 100000 in
theorem lifted (os : Os) (started : os.Started) (H : Type) (enc : TypeId × Value → H) :
    ReturnsInHanded {} Tryd.checked os 10 .any (fun w args => (Rows.rackErrorsSpec.pre enc Tryd.prog Tryd.f10 [] false w args ∧ laidMetH Tryd.prog theLaid w) ∧ sizedMet enc Tryd.prog Tryd.f10 (OpenSpec.ofChange Rows.rackErrorsSpec) false w args)
      (Rows.rackErrorsSpec.post enc Tryd.prog Tryd.f10 false true false false) := by
  refine returnsInHanded_of_change_and (C := Tryd.checked) (X := fun w _ => laidMetH Tryd.prog theLaid w) (fun _ _ _ hh h => h.of_heap hh) hOwn started (by kernel_rfl) Tryd.func10
    (ChangeSpec.witness_at (enc := enc) (C := Tryd.checked) (os := os) (X := fun w _ => laidMetH Tryd.prog theLaid w) false (laidWorld os) #[.int .i64 0, .int .i64 0, .int .i64 0] 8 rfl (by kernel_rfl) (by kernel_rfl) (by kernel_rfl) (by kernel_rfl) (by kernel_rfl) (laidWorld_met os _)) ?_
  intro W base args ds gs before hval0 hW _ _ hL _
  have hval : ∀ (j : Nat) t v, Tryd.f10.params[j]? = some t → args[j]? = some v → Value.okWide Tryd.prog W .any base t v := hval0
  have hW' := hW
  obtain ⟨p, q, hA0, hV, rfl, hfz, hnd⟩ := hW
  have hA : DataW.TrodAll enc Tryd.prog W 0 (fun _ => true) true Tryd.f10.params.toList args.toList ds p := hA0
  rw [Tryd.params10] at hA hval
  obtain ⟨v0, vs0, d0, ds0, p0, q0, hargs, rfl, rfl, h0, r0⟩ := trodAll_cons hA
  obtain ⟨v1, vs1, d1, ds1, p1, q1, rfl, rfl, rfl, h1, r1⟩ := trodAll_cons r0
  obtain ⟨v2, vs2, d2, ds2, p2, q2, rfl, rfl, rfl, h2, r2⟩ := trodAll_cons r1
  obtain ⟨rfl, rfl, rfl⟩ := trodAll_nil r2
  obtain rfl : args = #[v0, v1, v2] := by cases args; simp_all
  obtain ⟨rfl, rfl⟩ := trodVars_none hV
  obtain ⟨a0, rfl, rfl, rfl, w0⟩ := open_int Tryd.underlying3 (hval 0 3 v0 rfl rfl) h0
  obtain ⟨a1, rfl, rfl, rfl, w1⟩ := open_int Tryd.underlying3 (hval 1 3 v1 rfl rfl) h1
  obtain ⟨a2, rfl, rfl, rfl, w2⟩ := open_int Tryd.underlying3 (hval 2 3 v2 rfl rfl) h2
  have hg := etLaid_of hL
  clear hA0 hval0
  simp only [List.append_nil] at hW'
  refine (walk a0 a1 a2 W hg w0 w1 w2).mono fun e W' ⟨he, bel⟩ => ?_
  subst he
  exact ⟨_, rfl, _, _, _, [], _, [], hW', trodAll_mk1 (shut_bool Tryd.underlying4 _), (trodAll_cons_mk (shut_int Tryd.underlying3 w0) (trodAll_cons_mk (shut_int Tryd.underlying3 w1) (trodAll_cons_mk (shut_int Tryd.underlying3 w2) trodAll_mk0))), rfl, bel.frame _, fun h => by cases h⟩
theorem over : Rows.RackErrorsSaid :=
  OpenClaim.holds_of_wide 10 Tryd.f10 rfl rfl rfl rfl rfl rfl rfl ⟨rfl, rfl, rfl, rfl, rfl⟩ rfl rfl rfl rfl rfl (by kernel_rfl) Tryd.func10 (by kernel_rfl)
    (of_decide_eq_true (by kernel_rfl)) (by unfold Func.isWrapper; first | (rw [if_pos (by decide +kernel)]; kernel_rfl) | (rw [if_neg (by decide +kernel)]; exact ⟨rfl, rfl⟩))
    (fun os started H enc _ => lifted os started H enc)
theorem proved : Rows.RackErrorsCardSaid :=
  Claim7.holds_tied_plain_at .later [] [.handle] true (true, "dba68c5c8641de8e0643fe4af85c7b77ef0591640622d3211a00d85201f74fa1") true
    over (fun _ h => by cases h) (by kernel_rfl) (fun _ h => by cases h) rackErrors_row_tie rfl ⟨rfl, rfl⟩ (by kernel_rfl) rfl
    (fun f fn hf hfn => by
      obtain rfl : f = 10 := Option.some.inj ((show Tryd.prog.funcNamed "stave/stavelaw8.RackErrors" = some 10 by kernel_rfl).symm.trans hf) |>.symm
      obtain rfl : fn = Tryd.f10 := (Option.some.inj (Tryd.func10.symm.trans hfn)).symm
      exact ⟨by kernel_rfl, fun j t ht => by
        rw [Tryd.params10] at ht
        rcases j with _ | _ | _ | j
        · simp at ht; subst ht; kernel_rfl
        · simp at ht; subst ht; kernel_rfl
        · simp at ht; subst ht; kernel_rfl
        · simp at ht⟩)
    (by kernel_rfl)
#print axioms proved
end Go.Proofs.YtdbjojnejkklhaaDoor.rackErrors
