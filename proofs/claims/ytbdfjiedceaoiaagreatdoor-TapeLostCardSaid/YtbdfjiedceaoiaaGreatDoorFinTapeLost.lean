/- The statement TapeLost, as its tied card: for every input the call of stavelaw14's TapeLost answers true, and its arguments read behind it as they read before. No condition of our own. -/
/- Texts of one proof, joined: WTapeLost, LawTapeLost. -/
import Derived.Test.YtbdfjiedceaoiaaGreatDoorTBD
import Derived.Test.YtbdfjiedceaoiaaGreatDoorTBE
import Derived.Test.YtbdfjiedceaoiaaGreatDoorTBC
import Derived.Test.YtbdfjiedceaoiaaGreatDoorTX
import Derived.Test.YtbdfjiedceaoiaaGreatDoorTO
import Derived.Test.YtbdfjiedceaoiaaGreatDoorTAC
import Derived.Test.YtbdfjiedceaoiaaGreatDoorTAD
import Derived.Test.YtbdfjiedceaoiaaGreatDoorCards
import Derived.Test.YtbdfjiedceaoiaaGreatDoorTie
import Derived.Test.YtbdfjiedceaoiaaGreatDoorTC
import Derived.WalkKit
import Derived.ProofKit
import Derived.OpenShut
import Derived.ShutString
import Derived.ChangeOld
import Derived.Below
import Derived.SevenTiedAt
set_option linter.unusedVariables false
set_option linter.unusedSimpArgs false
namespace Go.Proofs.YtbdfjiedceaoiaaGreatDoor
set_option linter.unusedVariables false
open Go Go.RowKit
theorem w64 {z : Int} (h0 : -100000 ≤ z) (h1 : z ≤ 100000) : wrap64 z = z := by unfold wrap64; omega
theorem i64w {z : Int} (h0 : -100000 ≤ z) (h1 : z ≤ 100000) : IntKind.i64.wrap z = z := by rw [IntKind.wrap_i64]; omega
def lostF (c : Cfg) : Nat → Strs
 | 0 => VH.fNew c
 | i + 1 => updS (lostF c i) i (2 + (i : Int), Tp.chunks c.k.toNat (Tp.pack [[i, 9]]))
def lostL (i : Nat) : List (List (List Nat)) := (List.range i).map fun i => [[i, 9]]
theorem lostL_len (i : Nat) : (lostL i).length = i := by simp [lostL]
theorem lostL_succ (i : Nat) : lostL i ++ [[[i, 9]]] = lostL (i + 1) := by unfold lostL; rw [List.range_succ, List.map_append]; rfl
theorem lostF_at (c : Cfg) (t : Nat) : ∀ i, t < i → lostF c i t = some (2 + (t : Int), Tp.chunks c.k.toNat (Tp.pack [[t, 9]]))
 | 0, h => by omega
 | i + 1, h => by
  show updS (lostF c i) i _ t = _
  by_cases e : t = i
  ·
   rw [e, Zb5]
  ·
   rw [Zbf _ _ e]; exact lostF_at c t i (by omega)
theorem lost_fits (k i : Nat) (hk : 1 ≤ k) : Tp.fits k [[i, 9]] := ⟨by intro x hx; simp at hx; subst hx; exact ⟨by show 1 ≤ 2; omega, by show 2 + 2 ≤ k * 108; omega⟩, List.cons_ne_nil _ _, by show 4 ≤ k * 108; omega⟩
set_option maxRecDepth 100000 in
set_option maxHeartbeats 1500000 in
theorem tapeLost_c (k n s : Int) (w : World) (hg : EtLaid w) :
  Calls Tryz.prog 7 #[.int .i64 k, .int .i64 n, .int .i64 s] w fun e w' => e = .returned (.bool true) ∧ Ext w w' := by
 have HG := hid hg
 have hzc := zero_cfg
 have hzl := zero_loss
 have HCS := hid Cfg.A_size
 clear hg
 go_enter Tryz.func7, Tryz.ntmps7
 go_wp2_with fail
 refine (kfixed_c k n 4 1 _).mono ?_
 rintro e w1 ⟨rfl, x1⟩
 have HGD := hid (show (keepFixed k n 4 1).Good from keepFixed_good k n 4 1 (by omega) (by omega) (by omega) (by omega))
 have HK4 := hid (keepFixed_k4 k n 4 1)
 have HN6 := hid (keepFixed_n6 k n 4 1)
 have HST := hid (show (keepFixed k n 4 1).stripes = 4 from rfl)
 have HSL := hid (show (keepFixed k n 4 1).slots = 1 from rfl)
 generalize keepFixed k n 4 1 = c at *
 obtain ⟨W1, hW1⟩ : ∃ W, w1.alloc (.cells (Cfg.A c) 24) = W := ⟨_, rfl⟩
 have X1 := hid (show Ext w W1 from hW1 ▸ x1.alloc _)
 have HC := hid (show W1.heap[w1.heap.size]? = some (.cells (Cfg.A c) 24 (0, 0)) from hW1 ▸ heap_alloc_new _ _)
 have hbs : (w1.alloc (.cells (Cfg.A Cfg.zero) 24)).heap[w1.heap.size]? = some (.cells (Cfg.A Cfg.zero) 24 (0, 0)) := Zad
 clear x1
 go_wp2_with (guard_target = wpList _ _ _ (⟨none, Op.store _ _ _, _, _, _, none⟩ :: _) _ _; refine Zaa rfl 24 _ _ rfl w1.heap.size rfl (Cfg.A c) _ rfl 24 ?_ hbs ?_ ?_ ?_; (rw [HCS.out]; exact aggCfg); (rw [HCS.out, HCS.out]); exact Cfg.A_one _)
 rw [Zai, hW1]
 clear hbs hW1
 have HLT := hid (lt_of_block HC.out)
 generalize w1.heap.size = g at *
 obtain ⟨m, hm, m1, m128⟩ := sectors_nat c HGD.out
 obtain ⟨nn, hn⟩ : ∃ nn : Nat, c.n = nn := ⟨c.n.toNat, by have := HGD.out.k0; have := HGD.out.k1; omega⟩
 obtain ⟨kk, hk⟩ : ∃ kk : Nat, c.k = kk := ⟨c.k.toNat, by have := HGD.out.k0; omega⟩
 have HNT := hid (show c.n.toNat = nn by omega)
 have HKT := hid (show c.k.toNat = kk by omega)
 have n1 : 1 ≤ nn := by have := HGD.out.k0; have := HGD.out.k1; omega
 have n8 : nn ≤ 6 := by have := HN6.out; omega
 have k1 : 1 ≤ kk := by have := HGD.out.k0; omega
 have k4 : kk ≤ 4 := by have := HK4.out; omega
 have HKN := hid (show kk ≤ nn by have := HGD.out.k1; omega)
 have HM := hid hm; have HN := hid hn; have HK := hid hk
 have xd : Ext W1 W1.drew := (Ext.refl W1).drew
 have lc : Hid (∀ x : SW Ext W1.drew, ∀ j v, (Cfg.A c).toList[j]? = some v → x.w.cell? ((⟨g, 0, none⟩ : Addr).add j) = some v) := hid fun x => Zah ((Ext.trans xd x.ext).at HC.out)
 have c2 : ∀ x : SW Ext W1.drew, x.w.cell? ⟨g, 2, none⟩ = some (.int .i64 nn) := fun x => (Zae ((Ext.trans xd x.ext).at HC.out)).trans (by rw [Cfg.A2, HN.out])
 have sc : Hid (∀ x : SW Ext W1.drew, Calls Tryz.prog 26 #[.agg (Cfg.A c)] x.w fun e w'' => e = .returned (.int .i64 m) ∧ Ext x.w w'') := hid fun x => by
  have := ksectors_c c HGD.out x.w
  rw [HM.out] at this
  exact this
 have HAG := hid (Zat c)
 clear hm hn hk
 refine Zal (S := Ext) (.one [0, 1, 2, 3] 4 (.fin [5, 6, 7, 8, 9])) (by kernel_rfl) (by kernel_rfl) (fun _ _ d _ _ h => by cases d <;> exact h) ?_
 rw [wpS]
 simp only [opsAt, opA, opB, opC, opD, opE, opF, opG]
 iterate 2 ((refine Zab (fun K hK => ?_); go_simp; refine hK _ ?_; clear hK K))
 refine Zan 24 _ rfl ⟨g, 0, none⟩ rfl (Cfg.A c) rfl HAG.out lc.out ?_
 (refine Zab (fun K hK => ?_); go_simp; (apply Exists.intro; refine ⟨fun x => ?_, hK _ ?_⟩; (exact sc.out x); clear hK K))
 refine Zag ?_
 intro V1 hV1
 refine Zax fun K hK => ?_
 go_wp2_with fail
 refine (at_new nn m n1 (by omega) m1 m128 V1).mono ?_
 rintro e w2 ⟨r, rfl, h2, x2⟩
 go_wp2
 refine hK _ _ x2 ?_
 clear hK K
 rw [wpS]
 simp only [opsAt, opA, opB, opC, opD, opE, opF, opG]
 iterate 5 ((refine Zab (fun K hK => ?_); go_simp; refine hK _ ?_; clear hK K))
 refine Zag ?_
 intro V2 hV2
 obtain ⟨S0, hS0⟩ : ∃ S : Nat → Prop, (fun b => b < W1.heap.size) = S := ⟨_, rfl⟩
 have HJ2 := hid (show SE w V2 S0 r (Rck.new nn m) g c [] from hS0 ▸ ⟨(h2.less fun b hb => Nat.lt_of_lt_of_le hb (Ext.trans xd hV1).size).ext hV2, Ext.trans X1.out (Ext.trans xd (Ext.trans hV1 (Ext.trans x2 hV2))), fun b hb => Nat.lt_of_lt_of_le hb X1.out.size, (Ext.trans xd (Ext.trans hV1 (Ext.trans x2 hV2))).at HC.out, HLT.out, fun p hp => by simp at hp⟩)
 clear h2 x2 hV1 hV2 lc c2 sc xd X1 HC HLT hS0
 obtain ⟨R1, R2, e1, e2, e3, hv2, ti2⟩ := TI.start HGD.out HK4.out HN6.out (m := m) (by rw [HM.out]; exact Int.le_refl _)
 rw [HNT.out] at e1
 have HE1 := hid e1; have HE2 := hid e2; have HRO := hid e3; have HV2 := hid hv2; have HTI := hid ti2
 have HVE := hid (show VE w V2 S0 r (Rck.new nn m) from ⟨HJ2.out.rack, HJ2.out.ext, HJ2.out.low⟩)
 have HCB := hid (show CBlkAt V2 g c from HJ2.out.cfg)
 have HSG := hid HJ2.out.cfgS
 clear e1 e2 e3 hv2 ti2 HJ2
 go_wp2_with (guard_target = wpList _ _ _ (⟨some _, Op.load _ _, _, _, _, some _⟩ :: _) _ _; refine Zaw 24 _ rfl ⟨g, 0, none⟩ rfl (Cfg.A c) rfl (Zat c) (Zah HCB.out) ?_)
 refine (vmake_c HVE.out.rack c).mono ?_
 rintro e w3 ⟨rfl, h3, k3⟩
 rw [HE1.out] at h3 ⊢
 simp only [oErr]
 have HVF := hid (HVE.out.keep h3 k3)
 have HCD := hid (show CBlkAt w3 g c from k3.at HCB.out fun q => q HSG.out)
 clear h3 k3 HVE HCB
 go_wp2_with fail
 refine (topen_c HVF.out.rack HRO.out).mono ?_
 rintro e w4 h4
 rw [HE2.out] at h4
 rcases h4 with ⟨_, q, _⟩ | ⟨_, gv, t, T, ao, co, hok⟩
 ·
  cases q
 obtain rfl := hok.ret
 have HX4 := hid (show TX w w4 T r R2 g c gv ⟨c, 1, false⟩ t 0 from TX.start HVF.out HCD.out HSG.out hok)
 clear hok HVF HCD HE1 HE2 HRO
 go_wp2_with fail
 go_loopw [13] (fun tt wr => ∃ i : Nat, tt = .int .i64 i ∧ i ≤ 3 ∧ ∃ R j, TX w wr T r R g c gv ⟨c, 1 + (i : Int), false⟩ t i ∧ VH R c m true j (lostF c i) ∧ TI c (1 + (i : Int)) j (lostF c i) (lostL i)) (fun t _ => 3 - (intOf t).toNat)
 case atStart => exact ⟨0, rfl, by omega, _, _, HX4.out, HV2.out, HTI.out⟩
 case round =>
  clear HX4 HV2 HTI
  obtain ⟨i, rfl, hi, R, j, hx, hvh, hti⟩ := hrel
  have HX := hid hx; have HVH := hid hvh; have HTI := hid hti
  clear hx hvh hti
  by_cases hlt : i < 3
  ·
   have i1 : (i : Int) < 3 := by omega
   have hby : ∀ y ∈ [i, 9], y < 256 := by intro y hy; simp at hy; omega
   have HBY := hid hby
   obtain ⟨R', j', ha, hv, ht⟩ := HTI.out.append_f HVH.out HM.out.symm HK4.out HN6.out (by omega) (by rw [lostL_len, HST.out]; show i < 4; omega) (es := [[i, 9]]) (by rw [HKT.out]; exact lost_fits kk i k1) (by intro x hx; simp at hx; subst hx; exact HBY.out)
   rw [lostL_len] at ha hv ht
   rw [lostL_succ] at ht
   have HA := hid ha
   have HVN := hid (show VH R' c m true j' (lostF c (i + 1)) from by
    have := hv
    rw [show 1 + (i : Int) + 1 = 2 + (i : Int) by omega] at this
    exact this)
   have HTN := hid (show TI c (1 + ((i + 1 : Nat) : Int)) j' (lostF c (i + 1)) (lostL (i + 1)) from by
    have := ht
    rw [show 1 + (i : Int) + 1 = 2 + (i : Int) by omega] at this
    rw [show 1 + ((i + 1 : Nat) : Int) = 2 + (i : Int) by omega]
    exact this)
   clear ha hv ht hby HVH HTI
   obtain ⟨WA5, hWA5⟩ : ∃ Y, wr.alloc (.cells #[.int .u8 (i : Int), .int .u8 9] 5) = Y := ⟨_, rfl⟩
   have xA5 : Ext wr WA5 := hWA5 ▸ (Ext.refl wr).alloc _
   have hA5 : WA5.heap[wr.heap.size]? = some (.cells #[.int .u8 (i : Int), .int .u8 9] 5 (0, 0)) := hWA5 ▸ heap_alloc_new _ _
   obtain ⟨W5, hW5⟩ : ∃ Y, WA5.alloc (.cells #[.slice (some ⟨wr.heap.size, 0, none⟩) 2 2] 66) = Y := ⟨_, rfl⟩
   have xB5 : Ext WA5 W5 := hW5 ▸ (Ext.refl WA5).alloc _
   have hB5 : W5.heap[WA5.heap.size]? = some (.cells #[.slice (some ⟨wr.heap.size, 0, none⟩) 2 2] 66 (0, 0)) := hW5 ▸ heap_alloc_new _ _
   have hs5 : WA5.heap.size = wr.heap.size + 1 := by rw [← hWA5]; simp
   rw [hs5] at hB5
   have HX5 := hid (Ext.trans xA5 xB5)
   have HE5 := hid (show EntsAt W5 (some ⟨wr.heap.size + 1, 0, none⟩) [[i, 9]] from EntsAt.one (x := [i, 9]) (xB5.at (by rw [Zb8]; exact hA5)) hB5 HBY.out (by show 2 ≤ 1000; omega))
   have HWA5 := hid hWA5; have HW5 := hid hW5
   clear hWA5 xA5 hA5 hW5 xB5 hB5 hs5
   have HXV := hid (HX.out.more HX5.out)
   have ta := hid (tappend_c HXV.out.rack HXV.out.vx.vol HXV.out.tape HXV.out.vx.gS HXV.out.tS HXV.out.tg (show (0 : Int) ≤ 1 + (i : Int) by omega) HGD.out (by omega) [[i, 9]] (by show 1 ≤ 100; omega) _ 1 HE5.out)
   rw [HA.out, show ([[i, 9]] : List (List Nat)).length = 1 from rfl] at ta
   clear HX HA
   go_wp2_with fail
   rw [HWA5.out, HW5.out]
   refine ta.out.mono ?_
   rintro e w6 h6
   obtain rfl := h6.ret
   have HX6 := hid (show TX w w6 T r R' g c gv ⟨c, 1 + ((i + 1 : Nat) : Int), false⟩ t (i + 1) from by
    rw [show 1 + ((i + 1 : Nat) : Int) = 1 + (i : Int) + 1 by omega]
    exact HXV.out.app h6)
   simp only [oErr]
   clear ta h6 HXV HE5 HX5
   go_wp2_with fail
   go_roundw
   case rel => exact ⟨i + 1, by go_num, by omega, R', j', HX6.out, HVN.out, HTN.out⟩
   case measure => simp [intOf]; omega
  ·
   have i1 : ¬ (i : Int) < 3 := by omega
   obtain rfl : i = 3 := by omega
   go_wp2_with fail
   refine (within_c s 0 1 _ (by omega) (by omega) (by omega)).mono ?_
   rintro e _ ⟨rfl, rfl⟩
   obtain ⟨s0, s1⟩ := Zcl s 0 1 (by omega)
   obtain ⟨x, hx⟩ := Int.eq_ofNat_of_zero_le s0
   rw [hx] at s0 s1 ⊢
   have hx2 : x < 2 := by omega
   clear hx
   have HFX := hid (lostF_at c x 3 (by omega))
   have HSEC := hid (show ((ssecN c x : Nat) : Int) = 1 + (kk : Int) + (x : Int) from by
    unfold ssecN
    rw [show c.slots.toNat = 1 by rw [HSL.out]; rfl, HKT.out]; omega)
   have HNJ := hid (show ∀ s r, s < c.slots.toNat → j s = some r → 2 ≤ r.seq → r.stripe ≠ (x : Int) from fun s r hs hr h2 hx => by
    have hw := HTI.out.vi.win s r hs hr (by omega)
    have hsl := HSL.out
    obtain ⟨z, z1, z2, z3, z4⟩ := HTI.out.vi.vv.slot s hs
    rw [hr] at z1; cases z1
    obtain ⟨y1, y2, gen, l, y3, y4, _⟩ := z4.resolve_left (by omega)
    rw [show r.stripe.toNat = x by rw [hx]; simp, HFX.out] at y3
    cases y3
    omega)
   have HGT := hid (show GT R c m (fun _ => true) (fun _ => true) (fun _ s _ => j s) (RotT (lostF c 3) x 0) from by
    have := HVH.out.gt HTI.out.vi
    have e : RotT (lostF c 3) x 0 = fun _ t => lostF c 3 t := by
     funext d t; unfold RotT; rw [if_neg (fun v => by omega)]
    rw [e]; exact this)
   have HTV := hid HTI.out.vi
   clear HVH HTI
   generalize hR3 : R = R3 at *
   clear hR3
   have ck : wr.cell? ⟨g, 1, none⟩ = some (.int .i64 kk) := HX.out.vx.c1.trans (by rw [HK.out])
   have hq9 : 0 ≤ nn - kk + 1 := by omega
   go_wp2_with fail
   clear ck
   go_loopw [17] (fun tt wd => ∃ q : Nat, tt = .int .i64 q ∧ q + kk ≤ nn + 1 ∧ ∃ R, GT R c m (fun _ => true) (fun _ => true) (fun _ s _ => j s) (RotT (lostF c 3) x q) ∧ TX w wd T r R g c gv ⟨c, 4, false⟩ t 3) (fun t _ => nn + 1 - (intOf t).toNat)
   case atStart => exact ⟨0, rfl, by have := HKN.out; omega, _, HGT.out, HX.out⟩
   case round =>
    clear HGT HX
    obtain ⟨q, rfl, hq, R, hgt, hx⟩ := hrel
    have HGT := hid hgt; have HX := hid hx
    clear hgt hx
    have ck : wr.cell? ⟨g, 1, none⟩ = some (.int .i64 kk) := HX.out.vx.c1.trans (by rw [HK.out])
    have cn : wr.cell? ⟨g, 2, none⟩ = some (.int .i64 nn) := HX.out.vx.c2.trans (by rw [HN.out])
    have HW1 := hid (w64 (z := (nn : Int) - (kk : Int)) (by omega) (by omega))
    have HW2 := hid (i64w (z := (nn : Int) - (kk : Int)) (by omega) (by omega))
    have HW3 := hid (w64 (z := 1 + (kk : Int)) (by omega) (by omega))
    have HW4 := hid (i64w (z := 1 + (kk : Int)) (by omega) (by omega))
    have HW5 := hid (w64 (z := 1 + (kk : Int) + (x : Int)) (by omega) (by omega))
    have HW6 := hid (i64w (z := 1 + (kk : Int) + (x : Int)) (by omega) (by omega))
    by_cases hqt : q + kk ≤ nn
    ·
     have d1 : (q : Int) ≤ (nn : Int) - (kk : Int) := by omega
     obtain ⟨ho, hg2⟩ := HGT.out.rotn HM.out.symm (by rw [HNT.out]; omega) (by rw [HST.out]; show x < 4; omega) HFX.out
     rw [HSEC.out] at ho hg2
     have HOK := hid ho; have HG2 := hid hg2
     clear ho hg2 HGT
     have hw1 := HW1.out; have hw2 := HW2.out; have hw3 := HW3.out; have hw4 := HW4.out; have hw5 := HW5.out; have hw6 := HW6.out
     go_wp2_with fail
     clear hw1 hw2 hw3 hw4 hw5 hw6
     refine (at_rot HX.out.rack (q : Int) (1 + (kk : Int) + (x : Int)) 5 1 (by omega)).mono ?_
     rintro e w8 ⟨rfl, h8, k8⟩
     rw [HOK.out]
     have HX8 := hid (HX.out.keep h8 k8)
     clear h8 k8 HX ck cn
     go_wp2_with fail
     go_roundw
     case rel => exact ⟨q + 1, by go_num, by omega, _, HG2.out, HX8.out⟩
     case measure => simp [intOf]; omega
    ·
     have d1 : ¬ (q : Int) ≤ (nn : Int) - (kk : Int) := by omega
     have hqe : q = nn + 1 - kk := by omega
     have HLOSS := hid (show R.sget c (x : Int) = ([], 0, some (.fault sSGet x (.loss x ((kk : Int) - 1) kk))) from by
      have := HGT.out.rot_lost (by rw [HST.out]; show x < 4; omega) (by rw [HNT.out]; have := HKN.out; omega) (by rw [HNT.out, HKT.out]; omega) HFX.out (by show 1 ≤ 2 + (x : Int); omega)
      rw [HNT.out, HK.out, show ((nn - q : Nat) : Int) = (kk : Int) - 1 by have := HKN.out; omega] at this
      exact this)
     have HREAD := hid (show ∀ i : Nat, i < 3 → i ≠ x → R.sget c (i : Int) = (Tp.chunks kk (Tp.pack [[i, 9]]), 2 + (i : Int), none) from fun i hi hne => by
      have := HGT.out.rot_read HK4.out HN6.out (t := i) (by rw [HST.out]; show i < 4; omega) hne (lostF_at c i 3 hi)
      rw [HKT.out] at this
      exact this)
     obtain ⟨eo, Ro, hop, hok6, hol⟩ := HGT.out.rot_open HTV.out HK4.out HN6.out (by rw [HST.out]; show x < 4; omega) (by rw [HNT.out]; have := HKN.out; omega) (by rw [HNT.out, HKT.out]; omega) HFX.out HNJ.out
     have HOP := hid (topen_err hop); have HRO := hid (reads_err hop); have HK6 := hid (show (Err.fault sTOpen 0 eo).kind = 6 from hok6)
     clear hop hok6 hol HGT HNJ HTV hqe hqt
     have hw1 := HW1.out; have hw2 := HW2.out; have hw3 := HW3.out; have hw4 := HW4.out; have hw5 := HW5.out; have hw6 := HW6.out
     go_wp2_with fail
     clear hw1 hw2 hw3 hw4 hw5 hw6
     clear ck cn
     go_loopw [18] (fun tt wd => ∃ i : Nat, tt = .int .i64 i ∧ i ≤ 3 ∧ TX w wd T r R g c gv ⟨c, 4, false⟩ t 3) (fun t _ => 3 - (intOf t).toNat)
     case atStart => exact ⟨0, rfl, by omega, HX.out⟩
     case round =>
      clear HX
      obtain ⟨i, rfl, hi, hx⟩ := hrel
      have HX := hid hx
      clear hx
      have ck : wr.cell? ⟨g, 1, none⟩ = some (.int .i64 kk) := HX.out.vx.c1.trans (by rw [HK.out])
      by_cases hlt : i < 3
      ·
       have i1 : (i : Int) < 3 := by omega
       by_cases hix : i = x
       ·
        have HRD := hid (show Vol.read ⟨c, 4, false⟩ R (i : Int) = ([], 0, some (.fault sVRead x (.fault sSGet x (.loss x ((kk : Int) - 1) kk)))) from by
         unfold Vol.read
         rw [if_neg (by simp), hix, HLOSS.out]; rfl)
        have HTG := hid (show Vol.tget ⟨c, 4, false⟩ R 3 (i : Int) 0 = (some (.fault sTGet x (.fault sVRead x (.fault sSGet x (.loss x ((kk : Int) - 1) kk)))), []) from by
         unfold Vol.tget
         rw [if_neg (by omega), HRD.out, hix])
        obtain ⟨er, her⟩ : ∃ er, Err.fault sTGet x (.fault sVRead x (.fault sSGet x (.loss x ((kk : Int) - 1) kk))) = er := ⟨_, rfl⟩
        have HLO : Hid (er.lost = true ∧ er.lossOf = ((x : Int), (kk : Int) - 1, (kk : Int))) := hid (by rw [← her]; exact ⟨rfl, rfl⟩)
        rw [her] at HTG
        have E1 := hid (show ((i : Int) == (x : Int)) = true by simp [hix])
        have E2 := hid (show (i : Int) = (x : Int) by omega)
        obtain ⟨et, ev, hev⟩ := er.iface
        have HEV := hid hev
        have tg := hid (tget_c HX.out.rack HX.out.vx.vol HX.out.tape (i : Int) 0 (fun l gen q => by rw [HRD.out] at q; cases q))
        rw [HTG.out] at tg
        clear her HRD HTG hix
        go_wp2_with fail
        refine tg.out.mono ?_
        rintro e w9 ⟨x9, a9, c9, rfl, _⟩
        have HX9 := hid (HX.out.more x9)
        simp only [oErr, List.length_nil]
        rw [HEV.out]
        clear tg x9 HX ck
        have e1 := E1.out
        go_wp2_with (go_at_call 31; fail)
        refine Calls.mono (by rw [← HEV.out]; exact lost_yes er HLO.out.1 _ (HG.out.only HX9.out.ext (fun x => x))) ?_
        rintro e w11 ⟨rfl, x11⟩
        rw [HLO.out.2]
        simp only [lostV]
        obtain ⟨W11, hW11⟩ : ∃ W, w11.alloc (.cells (lcells ((x : Int), (kk : Int) - 1, (kk : Int))) 70) = W := ⟨_, rfl⟩
        have HXC := hid (hW11 ▸ HX9.out.more (x11.alloc (.cells (lcells ((x : Int), (kk : Int) - 1, (kk : Int))) 70)))
        have HN11 := hid (show W11.heap[w11.heap.size]? = some (.cells (lcells ((x : Int), (kk : Int) - 1, (kk : Int))) 70 (0, 0)) from hW11 ▸ heap_alloc_new _ _)
        have HW11 := hid hW11
        have hbs : (w11.alloc (.cells (lcells (0, 0, 0)) 70)).heap[w11.heap.size]? = some (.cells (lcells (0, 0, 0)) 70 (0, 0)) := Zad
        have HBL := hid (built_loss3 (x : Int) ((kk : Int) - 1) (kk : Int))
        have ck : W11.cell? ⟨g, 1, none⟩ = some (.int .i64 kk) := HXC.out.vx.c1.trans (by rw [HK.out])
        have hw7 := w64 (z := (kk : Int) - 1) (by omega) (by omega)
        have HW8 := hid (i64w (z := (kk : Int) - 1) (by omega) (by omega))
        have hw8 := HW8.out
        clear x11 hW11 HEV HX9
        go_wp2_with (first
         | (guard_target = wpList _ _ _ (⟨none, Op.store _ _ _, _, _, _, none⟩ :: _) _ _; have hb0 := hbs; clear hbs; refine Zaa rfl 70 _ _ rfl w11.heap.size rfl (lcells ((x : Int), (kk : Int) - 1, (kk : Int))) _ rfl 70 (agg_loss _) hb0 rfl (lcells_one _) ?_; rw [Zai, HW11.out])
         | (guard_target = wpList _ _ _ (⟨some _, Op.load _ _, _, _, _, some _⟩ :: _) _ _; refine Zaw 70 _ rfl ⟨w11.heap.size, 0, none⟩ rfl (lcells ((x : Int), (kk : Int) - 1, (kk : Int))) rfl (agg_loss _) (Zah HN11.out) ?_)
         | (guard_target = wpList _ _ _ (⟨some _, Op.build _ _, _, _, _, some _⟩ :: _) _ _; refine wpListG_build_eq 70 _ rfl (lcells ((x : Int), (kk : Int) - 1, (kk : Int))) rfl ?_ ?_; (simp only [List.map_toArray, List.map_cons, List.map_nil, Act.eval]; simp only [Array.getD_eq_getD_getElem?, List.getElem?_toArray, List.getElem?_cons_succ, List.getElem?_cons_zero, Option.getD_some]; exact HBL.out))
         | (guard_target = wpList _ _ _ (⟨some _, Op.binOp _ _ _ _ _, _, _, _, some _⟩ :: _) _ _; refine wpListG_eql .neq 70 _ _ _ rfl (lcells ((x : Int), (kk : Int) - 1, (kk : Int))) (lcells ((x : Int), (kk : Int) - 1, (kk : Int))) rfl rfl (.bool false) rfl (loss_guard _ _ _ _ _ _) (loss_neq _ _) ?_))
        go_roundw
        case rel => exact ⟨i + 1, by go_num, by omega, HXC.out⟩
        case measure => simp [intOf]; omega
       ·
        have E1 := hid (show ((i : Int) == (x : Int)) = false from beq_eq_false_iff_ne.2 (by omega))
        have HRD := hid (Vol.read_of (HREAD.out i hlt hix) 4)
        have hby : ∀ y ∈ [i, 9], y < 256 := by intro y hy; simp at hy; omega
        have HBY := hid hby
        have HTG := hid (show Vol.tget ⟨c, 4, false⟩ R 3 (i : Int) 0 = (none, [i, 9]) from by
         unfold Vol.tget
         rw [if_neg (by omega), HRD.out]
         show (if ((Tp.empty (Tp.chunks kk (Tp.pack [[i, 9]]))).length : Int) ≤ 0 then _ else (none, (Tp.empty (Tp.chunks kk (Tp.pack [[i, 9]]))).getD (0 : Int).toNat [])) = _
         rw [Tp.empty_fill (by omega) (lost_fits kk i k1)]; rfl)
        have tg := hid (tget_c HX.out.rack HX.out.vx.vol HX.out.tape (i : Int) 0 (fun l gen q => by
         rw [HRD.out] at q; cases q
         exact (Tp.chunks_blocks (k := kk) (Tp.pack_byte (by intro x hx; simp at hx; subst hx; exact HBY.out))).four (by omega) (by omega)))
        rw [HTG.out] at tg
        have tg2 : Hid (Calls Tryz.prog 34 #[.pointer (some ⟨t, 0, none⟩), .int .i64 (i : Int), .int .i64 0] wr fun e w'' => Ext wr w'' ∧ ∃ a cc, e = .returned (.tuple #[.slice a 2 cc, .nilIface]) ∧ BytesAt w'' a 2 [i, 9]) := hid (tg.out.mono fun e w'' h => h)
        clear HRD HTG hix hby
        go_wp2_with fail
        refine tg2.out.mono ?_
        rintro e w9 ⟨x9, a9, c9, rfl, hb9⟩
        have HX9 := hid (HX.out.more x9)
        obtain ⟨WA, hWA⟩ : ∃ Y, w9.alloc (.cells #[.int .u8 (i : Int), .int .u8 9] 5) = Y := ⟨_, rfl⟩
        have xA : Ext w9 WA := hWA ▸ (Ext.refl w9).alloc _
        have hA : WA.heap[w9.heap.size]? = some (.cells #[.int .u8 (i : Int), .int .u8 9] 5 (0, 0)) := hWA ▸ heap_alloc_new _ _
        have sm := hid (same_c c9 2 (hb9.ext xA) (bytes_at (l := [i, 9]) (by rw [Zb8]; exact hA) HBY.out (by show 2 ≤ 1000; omega)))
        rw [decide_eq_true rfl, show ([i, 9] : List Nat).length = 2 from rfl] at sm
        have HXA := hid (HX9.out.more xA)
        have HWA := hid hWA
        clear tg tg2 x9 HX hb9 hWA xA hA ck HX9
        have e1 := E1.out
        go_wp2_with fail
        rw [HWA.out]
        refine sm.out.mono ?_
        rintro e w10 ⟨rfl, x10⟩
        have HXB := hid (HXA.out.more x10)
        clear sm x10 HXA
        go_wp2_with fail
        go_roundw
        case rel => exact ⟨i + 1, by go_num, by omega, HXB.out⟩
        case measure => simp [intOf]; omega
      ·
       have i1 : ¬ (i : Int) < 3 := by omega
       clear ck
       go_wp2_with fail
       refine (topen_c HX.out.rack HRO.out).mono ?_
       rintro e w10 h10
       rw [HOP.out] at h10
       rcases h10 with ⟨er, q, hb⟩ | ⟨q, _⟩
       case inr => cases q
       have hq : Err.fault sTOpen 0 eo = er := Option.some.inj q
       have HKE : Hid (er.kind = 6) := hid (by rw [← hq]; exact HK6.out)
       obtain rfl := hb.ret
       have HXB := hid (HX.out.keep hb.rack hb.keep)
       obtain ⟨et, ev, hev⟩ := er.iface
       have HEV := hid hev
       simp only [oErr]
       rw [hev]
       clear hb q hq hev HX HOP
       go_wp2_with (go_at_call 17; fail)
       refine Calls.mono (by rw [← HEV.out]; exact kind_err er _ (HG.out.only HXB.out.ext (fun x => x))) ?_
       rintro e w11 ⟨rfl, x11⟩
       rw [HKE.out]
       have HXC := hid (Ext.trans HXB.out.ext x11)
       clear x11 HXB
       go_wp2_with fail
       refine (tapeRuns_c _).mono ?_
       rintro e w12 ⟨rfl, x12⟩
       have HX12 := hid (Ext.trans HXC.out x12)
       clear x12
       go_wp2
       go_ret
       exact ⟨rfl, HX12.out⟩
end Go.Proofs.YtbdfjiedceaoiaaGreatDoor
namespace Go.Proofs.YtbdfjiedceaoiaaGreatDoor.tapeLost
open Go.ChangeShapes Go.WideShapes Go.ChangeAt Go.RowKit
open Go.ChangeMaps (open_string shut_string)
set_option linter.unusedVariables false
theorem laidOut : laidOutB Tryz.prog = true := by kernel_rfl
theorem walk (a0 : Int) (a1 : Int) (a2 : Int) (w : World) (hg : EtLaid w) (w0 : (Lit.int .i64 a0).wf = true) (w1 : (Lit.int .i64 a1).wf = true) (w2 : (Lit.int .i64 a2).wf = true) :
  Calls Tryz.prog 7 #[.int .i64 a0, .int .i64 a1, .int .i64 a2] w fun e w' => e = .returned (.bool true) ∧ Below w.heap.size w w' :=
 (tapeLost_c a0 a1 a2 w hg).mono fun _ _ ⟨he, hx⟩ => ⟨he, hx.below⟩
set_option maxRecDepth 100000 in
theorem lifted (os : Os) (started : os.Started) (H : Type) (enc : TypeId × Value → H) :
  ReturnsInHanded {} Tryz.checked os 7 .any (fun w args => (Rows.tapeLostSpec.pre enc Tryz.prog Tryz.f7 [] false w args ∧ laidMetH Tryz.prog theLaid w) ∧ sizedMet enc Tryz.prog Tryz.f7 (OpenSpec.ofChange Rows.tapeLostSpec) false w args)
   (Rows.tapeLostSpec.post enc Tryz.prog Tryz.f7 false true false false) := by
 refine returnsInHanded_of_change_and (C := Tryz.checked) (X := fun w _ => laidMetH Tryz.prog theLaid w) (fun _ _ _ hh h => h.of_heap hh) hOwn started (by kernel_rfl) Tryz.func7
  (ChangeSpec.witness_at (enc := enc) (C := Tryz.checked) (os := os) (X := fun w _ => laidMetH Tryz.prog theLaid w) false (laidWorld os) #[.int .i64 0, .int .i64 0, .int .i64 0] 8 rfl (by kernel_rfl) (by kernel_rfl) (by kernel_rfl) (by kernel_rfl) (by kernel_rfl) (laidWorld_met os _)) ?_
 intro W base args ds gs before hval0 hW _ _ hL _
 have hval : ∀ (j : Nat) t v, Tryz.f7.params[j]? = some t → args[j]? = some v → Value.okWide Tryz.prog W .any base t v := hval0
 have hW' := hW
 obtain ⟨p, q, hA0, hV, rfl, hfz, hnd⟩ := hW
 have hA : DataW.TrodAll enc Tryz.prog W 0 (fun _ => true) true Tryz.f7.params.toList args.toList ds p := hA0
 rw [Tryz.params7] at hA hval
 obtain ⟨v0, vs0, d0, ds0, p0, q0, hargs, rfl, rfl, h0, r0⟩ := trodAll_cons hA
 obtain ⟨v1, vs1, d1, ds1, p1, q1, rfl, rfl, rfl, h1, r1⟩ := trodAll_cons r0
 obtain ⟨v2, vs2, d2, ds2, p2, q2, rfl, rfl, rfl, h2, r2⟩ := trodAll_cons r1
 obtain ⟨rfl, rfl, rfl⟩ := trodAll_nil r2
 obtain rfl : args = #[v0, v1, v2] := by cases args; simp_all
 obtain ⟨rfl, rfl⟩ := trodVars_none hV
 obtain ⟨a0, rfl, rfl, rfl, w0⟩ := open_int Tryz.underlying3 (hval 0 3 v0 rfl rfl) h0
 obtain ⟨a1, rfl, rfl, rfl, w1⟩ := open_int Tryz.underlying3 (hval 1 3 v1 rfl rfl) h1
 obtain ⟨a2, rfl, rfl, rfl, w2⟩ := open_int Tryz.underlying3 (hval 2 3 v2 rfl rfl) h2
 have hg := etLaid_of hL
 clear hA0 hval0
 simp only [List.append_nil] at hW'
 refine (walk a0 a1 a2 W hg w0 w1 w2).mono fun e W' ⟨he, bel⟩ => ?_
 subst he
 exact ⟨_, rfl, _, _, _, [], _, [], hW', trodAll_mk1 (shut_bool Tryz.underlying4 _), (trodAll_cons_mk (shut_int Tryz.underlying3 w0) (trodAll_cons_mk (shut_int Tryz.underlying3 w1) (trodAll_cons_mk (shut_int Tryz.underlying3 w2) trodAll_mk0))), rfl, bel.frame _, fun h => by cases h⟩
theorem over : Rows.TapeLostSaid :=
 OpenClaim.holds_of_wide 7 Tryz.f7 rfl rfl rfl rfl rfl rfl rfl ⟨rfl, rfl, rfl, rfl, rfl⟩ rfl rfl rfl rfl rfl (by kernel_rfl) Tryz.func7 (by kernel_rfl)
  (of_decide_eq_true (by kernel_rfl)) (by unfold Func.isWrapper; first | (rw [if_pos (by decide +kernel)]; kernel_rfl) | (rw [if_neg (by decide +kernel)]; exact ⟨rfl, rfl⟩))
  (fun os started H enc _ => lifted os started H enc)
theorem proved : Rows.TapeLostCardSaid :=
 Claim7.holds_tied_plain_at .later [] [.handle] true (true, "5099e9f95494a7ac1d1e9109868c047233c143c307eafd73ed71b9c5778ce599") true
  over (fun _ h => by cases h) (by kernel_rfl) (fun _ h => by cases h) tapeLost_row_tie rfl ⟨rfl, rfl⟩ (by kernel_rfl) rfl
  (fun f fn hf hfn => by
   obtain rfl : f = 7 := Option.some.inj ((show Tryz.prog.funcNamed "stave/stavelaw14.TapeLost" = some 7 by kernel_rfl).symm.trans hf) |>.symm
   obtain rfl : fn = Tryz.f7 := (Option.some.inj (Tryz.func7.symm.trans hfn)).symm
   exact ⟨by kernel_rfl, fun j t ht => by
    rw [Tryz.params7] at ht
    rcases j with _ | _ | _ | j
    ·
     simp at ht; subst ht; kernel_rfl
    ·
     simp at ht; subst ht; kernel_rfl
    ·
     simp at ht; subst ht; kernel_rfl
    ·
     simp at ht⟩)
  (by kernel_rfl)
#print axioms proved
end Go.Proofs.YtbdfjiedceaoiaaGreatDoor.tapeLost
