/- The statement TapeGap, as its tied card: for every input the call of stavelaw14's TapeGap answers true, and its arguments read behind it as they read before. No condition of our own. -/
/- Texts of one proof, joined: WTapeGap, LawTapeGap. -/
import Derived.Test.YtbdfjiedceaoiaaGreatDoorTBD
import Derived.Test.YtbdfjiedceaoiaaGreatDoorTBC
import Derived.Test.YtbdfjiedceaoiaaGreatDoorTX
import Derived.Test.YtbdfjiedceaoiaaGreatDoorTO
import Derived.Test.YtbdfjiedceaoiaaGreatDoorTAC
import Derived.Test.YtbdfjiedceaoiaaGreatDoorCards
import Derived.Test.YtbdfjiedceaoiaaGreatDoorTie
import Derived.Test.YtbdfjiedceaoiaaGreatDoorTC
import Derived.WalkKit
import Derived.ProofKit
import Derived.OpenShut
import Derived.ShutString
import Derived.ChangeOld
import Derived.Below
import Derived.SevenTiedAt
set_option linter.unusedVariables false
set_option linter.unusedSimpArgs false
namespace Go.Proofs.YtbdfjiedceaoiaaGreatDoor
set_option linter.unusedVariables false
open Go Go.RowKit
set_option maxRecDepth 100000 in
set_option maxHeartbeats 1500000 in
theorem tapeGap_c (k n s : Int) (w : World) (hg : EtLaid w) :
  Calls Tryz.prog 5 #[.int .i64 k, .int .i64 n, .int .i64 s] w fun e w' => e = .returned (.bool true) ∧ Ext w w' := by
 have HG := hid hg
 have hzc := zero_cfg
 have hzl := zero_loss
 have HCS := hid Cfg.A_size
 clear hg
 go_enter Tryz.func5, Tryz.ntmps5
 go_wp2_with fail
 refine (kfixed_c k n 5 1 _).mono ?_
 rintro e w1 ⟨rfl, x1⟩
 have HGD := hid (show (keepFixed k n 5 1).Good from keepFixed_good k n 5 1 (by omega) (by omega) (by omega) (by omega))
 have HK4 := hid (keepFixed_k4 k n 5 1)
 have HN6 := hid (keepFixed_n6 k n 5 1)
 have HST := hid (show (keepFixed k n 5 1).stripes = 5 from rfl)
 have HSL := hid (show (keepFixed k n 5 1).slots = 1 from rfl)
 generalize keepFixed k n 5 1 = c at *
 obtain ⟨W1, hW1⟩ : ∃ W, w1.alloc (.cells (Cfg.A c) 24) = W := ⟨_, rfl⟩
 have X1 := hid (show Ext w W1 from hW1 ▸ x1.alloc _)
 have HC := hid (show W1.heap[w1.heap.size]? = some (.cells (Cfg.A c) 24 (0, 0)) from hW1 ▸ heap_alloc_new _ _)
 have hbs : (w1.alloc (.cells (Cfg.A Cfg.zero) 24)).heap[w1.heap.size]? = some (.cells (Cfg.A Cfg.zero) 24 (0, 0)) := Zad
 clear x1
 go_wp2_with (guard_target = wpList _ _ _ (⟨none, Op.store _ _ _, _, _, _, none⟩ :: _) _ _; refine Zaa rfl 24 _ _ rfl w1.heap.size rfl (Cfg.A c) _ rfl 24 ?_ hbs ?_ ?_ ?_; (rw [HCS.out]; exact aggCfg); (rw [HCS.out, HCS.out]); exact Cfg.A_one _)
 rw [Zai, hW1]
 clear hbs hW1
 have HLT := hid (lt_of_block HC.out)
 generalize w1.heap.size = g at *
 obtain ⟨m, hm, m1, m128⟩ := sectors_nat c HGD.out
 obtain ⟨nn, hn⟩ : ∃ nn : Nat, c.n = nn := ⟨c.n.toNat, by have := HGD.out.k0; have := HGD.out.k1; omega⟩
 obtain ⟨kk, hk⟩ : ∃ kk : Nat, c.k = kk := ⟨c.k.toNat, by have := HGD.out.k0; omega⟩
 have HNT := hid (show c.n.toNat = nn by omega)
 have HKT := hid (show c.k.toNat = kk by omega)
 have n1 : 1 ≤ nn := by have := HGD.out.k0; have := HGD.out.k1; omega
 have n8 : nn ≤ 6 := by have := HN6.out; omega
 have k1 : 1 ≤ kk := by have := HGD.out.k0; omega
 have k4 : kk ≤ 4 := by have := HK4.out; omega
 have HKN := hid (show kk ≤ nn by have := HGD.out.k1; omega)
 have HM := hid hm; have HN := hid hn; have HK := hid hk
 have xd : Ext W1 W1.drew := (Ext.refl W1).drew
 have lc : Hid (∀ x : SW Ext W1.drew, ∀ j v, (Cfg.A c).toList[j]? = some v → x.w.cell? ((⟨g, 0, none⟩ : Addr).add j) = some v) := hid fun x => Zah ((Ext.trans xd x.ext).at HC.out)
 have c2 : ∀ x : SW Ext W1.drew, x.w.cell? ⟨g, 2, none⟩ = some (.int .i64 nn) := fun x => (Zae ((Ext.trans xd x.ext).at HC.out)).trans (by rw [Cfg.A2, HN.out])
 have sc : Hid (∀ x : SW Ext W1.drew, Calls Tryz.prog 26 #[.agg (Cfg.A c)] x.w fun e w'' => e = .returned (.int .i64 m) ∧ Ext x.w w'') := hid fun x => by
  have := ksectors_c c HGD.out x.w
  rw [HM.out] at this
  exact this
 have HAG := hid (Zat c)
 clear hm hn hk
 refine Zal (S := Ext) (.one [0, 1, 2, 3] 4 (.fin [5, 6, 7, 8, 9])) (by kernel_rfl) (by kernel_rfl) (fun _ _ d _ _ h => by cases d <;> exact h) ?_
 rw [wpS]
 simp only [opsAt, opA, opB, opC, opD, opE, opF, opG]
 iterate 2 ((refine Zab (fun K hK => ?_); go_simp; refine hK _ ?_; clear hK K))
 refine Zan 24 _ rfl ⟨g, 0, none⟩ rfl (Cfg.A c) rfl HAG.out lc.out ?_
 (refine Zab (fun K hK => ?_); go_simp; (apply Exists.intro; refine ⟨fun x => ?_, hK _ ?_⟩; (exact sc.out x); clear hK K))
 refine Zag ?_
 intro V1 hV1
 refine Zax fun K hK => ?_
 go_wp2_with fail
 refine (at_new nn m n1 (by omega) m1 m128 V1).mono ?_
 rintro e w2 ⟨r, rfl, h2, x2⟩
 go_wp2
 refine hK _ _ x2 ?_
 clear hK K
 rw [wpS]
 simp only [opsAt, opA, opB, opC, opD, opE, opF, opG]
 iterate 5 ((refine Zab (fun K hK => ?_); go_simp; refine hK _ ?_; clear hK K))
 refine Zag ?_
 intro V2 hV2
 obtain ⟨S0, hS0⟩ : ∃ S : Nat → Prop, (fun b => b < W1.heap.size) = S := ⟨_, rfl⟩
 have HJ2 := hid (show SE w V2 S0 r (Rck.new nn m) g c [] from hS0 ▸ ⟨(h2.less fun b hb => Nat.lt_of_lt_of_le hb (Ext.trans xd hV1).size).ext hV2, Ext.trans X1.out (Ext.trans xd (Ext.trans hV1 (Ext.trans x2 hV2))), fun b hb => Nat.lt_of_lt_of_le hb X1.out.size, (Ext.trans xd (Ext.trans hV1 (Ext.trans x2 hV2))).at HC.out, HLT.out, fun p hp => by simp at hp⟩)
 clear h2 x2 hV1 hV2 lc c2 sc xd X1 HC HLT hS0
 obtain ⟨R1, R2, e1, e2, e3, hv2, ti2⟩ := TI.start HGD.out HK4.out HN6.out (m := m) (by rw [HM.out]; exact Int.le_refl _)
 rw [HNT.out] at e1
 have HE1 := hid e1; have HE2 := hid e2; have HRO := hid e3; have HV2 := hid hv2; have HTI := hid ti2
 have HVE := hid (show VE w V2 S0 r (Rck.new nn m) from ⟨HJ2.out.rack, HJ2.out.ext, HJ2.out.low⟩)
 have HCB := hid (show CBlkAt V2 g c from HJ2.out.cfg)
 have HSG := hid HJ2.out.cfgS
 clear e1 e2 e3 hv2 ti2 HJ2
 go_wp2_with (guard_target = wpList _ _ _ (⟨some _, Op.load _ _, _, _, _, some _⟩ :: _) _ _; refine Zaw 24 _ rfl ⟨g, 0, none⟩ rfl (Cfg.A c) rfl (Zat c) (Zah HCB.out) ?_)
 refine (vmake_c HVE.out.rack c).mono ?_
 rintro e w3 ⟨rfl, h3, k3⟩
 rw [HE1.out] at h3 ⊢
 simp only [oErr]
 have HVF := hid (HVE.out.keep h3 k3)
 have HCD := hid (show CBlkAt w3 g c from k3.at HCB.out fun q => q HSG.out)
 clear h3 k3 HVE HCB
 go_wp2_with fail
 refine (topen_c HVF.out.rack HRO.out).mono ?_
 rintro e w4 h4
 rw [HE2.out] at h4
 rcases h4 with ⟨_, q, _⟩ | ⟨_, gv, t, T, ao, co, hok⟩
 ·
  cases q
 obtain rfl := hok.ret
 have HX4 := hid (show TX w w4 T r R2 g c gv ⟨c, 1, false⟩ t 0 from TX.start HVF.out HCD.out HSG.out hok)
 clear hok HVF HCD HE1 HE2 HRO
 go_wp2_with fail
 refine (tvol_c HX4.out.tape).mono ?_
 rintro e _ ⟨rfl, rfl⟩
 obtain ⟨WA5, hWA5⟩ : ∃ Y, w4.alloc (.cells #[.int .u8 1] 5) = Y := ⟨_, rfl⟩
 have xA5 : Ext w4 WA5 := hWA5 ▸ (Ext.refl w4).alloc _
 have hA5 : WA5.heap[w4.heap.size]? = some (.cells #[.int .u8 1] 5 (0, 0)) := hWA5 ▸ heap_alloc_new _ _
 obtain ⟨W5, hW5⟩ : ∃ Y, WA5.alloc (.cells #[.slice (some ⟨w4.heap.size, 0, none⟩) 1 1] 66) = Y := ⟨_, rfl⟩
 have xB5 : Ext WA5 W5 := hW5 ▸ (Ext.refl WA5).alloc _
 have hB5 : W5.heap[WA5.heap.size]? = some (.cells #[.slice (some ⟨w4.heap.size, 0, none⟩) 1 1] 66 (0, 0)) := hW5 ▸ heap_alloc_new _ _
 have hs5 : WA5.heap.size = w4.heap.size + 1 := by rw [← hWA5]; simp
 rw [hs5] at hB5
 have HX5 := hid (Ext.trans xA5 xB5)
 have HE5 := hid (show EntsAt W5 (some ⟨w4.heap.size + 1, 0, none⟩) [[1]] from EntsAt.one (x := [1]) (xB5.at (by rw [Zb8]; exact hA5)) hB5 (by decide) (by decide))
 have HWA5 := hid hWA5; have HW5 := hid hW5
 clear hWA5 xA5 hA5 hW5 xB5 hB5 hs5
 have HFT := hid (show Tp.fits c.k.toNat [[1]] from by rw [HKT.out]; exact ⟨by intro x hx; simp at hx; subst hx; exact ⟨by decide, by show 1 + 2 ≤ kk * 108; omega⟩, by decide, by show 3 ≤ kk * 108; omega⟩)
 obtain ⟨R3, j3, f3, ha3, hv3, ti3⟩ := HTI.out.append HV2.out HM.out.symm HK4.out HN6.out (by decide) (by rw [HST.out]; decide) (es := [[1]]) HFT.out (by decide)
 have HA3 := hid (show Vol.tappend ⟨c, 1, false⟩ R2 0 [[1]] = ⟨none, R3, ⟨c, 2, false⟩, 1⟩ from ha3)
 have HV3 := hid hv3; have HTI3 := hid (show TI c 2 j3 f3 [[[1]]] from ti3)
 have HX5' := hid (HX4.out.more HX5.out)
 have ta := hid (tappend_c HX5'.out.rack HX5'.out.vx.vol HX5'.out.tape HX5'.out.vx.gS HX5'.out.tS HX5'.out.tg (show (0 : Int) ≤ 1 by omega) HGD.out (by omega) [[1]] (by decide) _ 1 HE5.out)
 rw [HA3.out, show ([[1]] : List (List Nat)).length = 1 from rfl] at ta
 clear ha3 hv3 ti3 HV2 HTI HX4
 go_wp2_with fail
 rw [HWA5.out, HW5.out]
 refine ta.out.mono ?_
 rintro e w6 h6
 obtain rfl := h6.ret
 have HX6 := hid (show TX w w6 T r R3 g c gv ⟨c, 2, false⟩ t 1 from HX5'.out.app h6)
 simp only [oErr]
 clear ta h6 HX5' HE5 HX5 HA3
 go_wp2_with fail
 refine (within_c s 2 4 _ (by omega) (by omega) (by omega)).mono ?_
 rintro e _ ⟨rfl, rfl⟩
 obtain ⟨s0, s1⟩ := Zcl s 2 4 (by omega)
 obtain ⟨x, hx⟩ := Int.eq_ofNat_of_zero_le (show 0 ≤ within s 2 4 by omega)
 rw [hx] at s0 s1 ⊢
 clear hx
 go_wp2_with fail
 have xd : Ext w6 w6.drew := (Ext.refl w6).drew
 have HXD := hid xd
 have vc : Hid (∀ y : SW (Only fun b => ¬ T b ∨ b = gv) w6.drew, Calls Tryz.prog 28 #[.pointer (some ⟨t, 0, none⟩)] y.w fun e w'' => e = .returned (.pointer (some ⟨gv, 0, none⟩)) ∧ Ext y.w w'') := hid fun y => (tvol_c (show TapeAt y.w t gv 1 from y.ext.at (HX6.out.tape.ext HXD.out) fun q => q.elim (fun z => z HX6.out.tS) HX6.out.tg)).mono fun e w'' q => ⟨q.1, q.2 ▸ Ext.refl _⟩
 have lc : Hid (∀ y : SW (Only fun b => ¬ T b ∨ b = gv) w6.drew, ∀ j v, (Cfg.A c).toList[j]? = some v → y.w.cell? ((⟨g, 0, none⟩ : Addr).add j) = some v) := hid fun y => Zah (y.ext.at (Ext.at HXD.out HX6.out.vx.cfg) fun q => q.elim (fun z => z HX6.out.vx.cfgS) HX6.out.vx.ne)
 clear xd
 refine Zav (E := Ext) (S := Only fun b => ¬ T b ∨ b = gv) (.one [0, 1, 2, 3] 4 (.one [] 5 (.one [] 6 (.one [] 7 (.fin [8]))))) (by kernel_rfl) (by kernel_rfl) (fun _ _ d _ _ h => by cases d <;> exact h) ?_
 rw [wpS]
 simp only [opsAt, opA, opB, opC, opD, opE, opF, opG]
 (refine Zab (fun K hK => ?_); go_simp; refine hK _ ?_; clear hK K)
 (refine Zab (fun K hK => ?_); go_simp; (apply Exists.intro; refine ⟨fun x => ?_, hK _ ?_⟩; (exact vc.out x); clear hK K))
 (refine Zab (fun K hK => ?_); go_simp; refine hK _ ?_; clear hK K)
 refine Zan 24 _ rfl ⟨g, 0, none⟩ rfl (Cfg.A c) rfl (Zat c) lc.out ?_
 refine Zag ?_
 intro V1 hV1
 have HV1 := hid (Ext.trans HXD.out hV1)
 clear hV1 vc lc HXD
 refine Zax fun Q1 hQ1 => ?_
 go_wp2_with fail
 refine hQ1 _ _ (Ext.only ((Ext.refl V1).alloc _)) ?_
 clear hQ1 Q1
 rw [wpS]
 simp only [opsAt, opA, opB, opC, opD, opE, opF, opG]
 refine Zag ?_
 intro V2 hV2
 have hA2 : V2.heap[V1.heap.size]? = some (.cells #[.int .u8 2] 5 (0, 0)) := Ext.at hV2 Zad
 have HV2' := hid (Ext.trans HV1.out (Ext.trans ((Ext.refl V1).alloc _) hV2))
 generalize V1.heap.size = b1 at *
 clear hV2 HV1
 refine Zax fun Q2 hQ2 => ?_
 go_wp2_with fail
 refine hQ2 _ _ (Ext.only ((Ext.refl V2).alloc _)) ?_
 clear hQ2 Q2
 rw [wpS]
 simp only [opsAt, opA, opB, opC, opD, opE, opF, opG]
 refine Zag ?_
 intro V3 hV3
 have hB3 : V3.heap[V2.heap.size]? = some (.cells #[.slice (some ⟨b1, 0, none⟩) 1 1] 66 (0, 0)) := Ext.at hV3 Zad
 have hA3 := Ext.at (Ext.trans ((Ext.refl V2).alloc _) hV3) hA2
 have HV3' := hid (Ext.trans HV2'.out (Ext.trans ((Ext.refl V2).alloc _) hV3))
 generalize V2.heap.size = b2 at *
 have HE3 := hid (show EntsAt V3 (some ⟨b2, 0, none⟩) [[2]] from EntsAt.one (x := [2]) (by rw [Zb8]; exact hA3) hB3 (by decide) (by decide))
 have tf := hid (tfill_c c HGD.out [[2]] (by decide) (some ⟨b2, 0, none⟩) 1 V3 HE3.out)
 rw [HKT.out, show ([[2]] : List (List Nat)).length = 1 from rfl] at tf
 have HF2 := hid (show Tp.fits kk [[2]] from ⟨by intro x hx; simp at hx; subst hx; exact ⟨by decide, by show 1 + 2 ≤ kk * 108; omega⟩, by decide, by show 3 ≤ kk * 108; omega⟩)
 clear hV3 hA2 hA3 hB3 HV2'
 refine Zax fun Q3 hQ3 => ?_
 go_wp2_with fail
 refine tf.out.mono ?_
 rintro e w7 ⟨x7, hf⟩
 rcases hf with ⟨q, _⟩ | ⟨_, gb, rfl, hgb, hbk⟩
 ·
  exact absurd HF2.out q
 have HB7 := hid hbk
 have HX7' := hid (Ext.trans HV3'.out x7)
 have HGB := hid (show w6.heap.size ≤ gb from Nat.le_trans HV3'.out.size hgb)
 clear tf hgb hbk
 go_wp2
 refine hQ3 _ _ (Ext.only x7) ?_
 clear hQ3 Q3 x7 HV3' HE3
 rw [wpS]
 simp only [opsAt, opA, opB, opC, opD, opE, opF, opG]
 refine Zag ?_
 intro V8 hV8
 have HX8 := hid (Ext.trans HX7'.out hV8)
 have HB8 := hid (HB7.out.ext hV8)
 obtain ⟨bs, hbs⟩ : ∃ bs, Tp.chunks kk (Tp.pack [[2]]) = bs := ⟨_, rfl⟩
 have BSC := hid (show Cd.Blocks c.k.toNat 108 bs from by rw [HKT.out, ← hbs]; exact Tp.chunks_blocks (Tp.pack_byte (by decide)))
 have BS8 := hid (show ∀ b ∈ bs, b.length = 108 from hbs ▸ Tp.chunks_108 kk _)
 have BSB := hid (show ∀ b ∈ bs, ∀ x ∈ b, x < 256 from hbs ▸ Tp.chunks_byte (Tp.pack_byte (by decide)))
 have BSL := hid (show bs.length = kk from hbs ▸ Tp.chunks_len kk _)
 rw [hbs] at HB8
 clear hbs hV8 HX7' HB7
 obtain ⟨a9, R4, hcm, hv4, vi4⟩ := HV3.out.commit_on HTI3.out.vi HM.out.symm HK4.out HN6.out (by decide) (s := x) (by rw [HST.out]; show x < 5; omega) BSC.out
 have HCM := hid (show Vol.commit ⟨c, 2, false⟩ R3 (x : Int) bs = (none, R4, ⟨c, 3, false⟩) from hcm)
 obtain ⟨R5, v5, hop, hro⟩ := HTI3.out.topen_gap (x := x) hv4 vi4 HK4.out HN6.out (by show 1 < x; omega) (by rw [HST.out]; show x < 5; omega) (by show (2 : Int) + 1 ≠ 1; omega)
 have HOP := hid hop; have HRO := hid hro
 obtain ⟨T8, hT8⟩ : ∃ S', wideS T w6 V8 = S' := ⟨_, rfl⟩
 have HXW := hid (show TX w V8 T8 r R3 g c gv ⟨c, 2, false⟩ t 1 from hT8 ▸ HX6.out.wide HX8.out)
 have HT8 := hid (show ∀ b, T b → T8 b from fun b hb => hT8 ▸ .inl hb)
 have HGB8 := hid (show T8 gb ∧ gb ≠ gv from ⟨hT8 ▸ .inr ⟨HGB.out, HB8.out.lt (fun q => by have h1 := BSL.out; rw [q] at h1; simp at h1; omega) gb rfl⟩, by have := lt_of_block HX6.out.vx.vol; have := HGB.out; omega⟩)
 have vcc := hid (vcommit_c HXW.out.rack HXW.out.vx.vol HXW.out.vx.gS (show (0 : Int) ≤ 2 by omega) (x : Int) bs BS8.out BSB.out (some ⟨gb, 0, none⟩) kk HB8.out (fun b q => by cases q; exact HGB8.out))
 rw [BSL.out, HCM.out] at vcc
 clear hcm hv4 vi4 hop hro hT8 HCM HB8 HV3 HTI3
 refine Zax fun Q4 hQ4 => ?_
 go_wp2_with fail
 refine vcc.out.mono ?_
 rintro e w9 h9
 obtain rfl := h9.ret
 have HX9 := hid (show VX w w9 T8 r R4 g c gv ⟨c, 3, false⟩ from HXW.out.vx.commit h9)
 have HK9 := hid (show Only (fun b => ¬ T b ∨ b = gv) V8 w9 from Only.trans (Only.refl _ V8) h9.only (fun b _ hb => hb.elim (fun z => .inl fun q => z (HT8.out b q)) .inr))
 simp only [oErr]
 clear h9 vcc HXW HX6
 go_wp2
 refine hQ4 _ _ HK9.out ?_
 clear hQ4 Q4 HK9
 rw [wpS]
 simp only [opsAt, opA, opB, opC, opD, opE, opF, opG]
 (refine Zab (fun K hK => ?_); go_simp; refine hK _ ?_; clear hK K)
 refine Zag ?_
 intro V9 hV9
 have HXA := hid (HX9.out.more hV9)
 clear hV9 HX9
 go_wp2_with fail
 refine (topen_c HXA.out.rack HRO.out).mono ?_
 rintro e w10 h10
 rw [HOP.out] at h10
 rcases h10 with ⟨er, q, hb⟩ | ⟨q, _⟩
 case inr => cases q
 have hq : Err.fault sTOpen 0 (.loss x 0 1) = er := Option.some.inj q
 have HLO : Hid (er.lost = true ∧ er.lossOf = ((x : Int), (0 : Int), (1 : Int))) := hid (by rw [← hq]; exact ⟨rfl, rfl⟩)
 obtain rfl := hb.ret
 have HXB := hid (HXA.out.keep hb.rack hb.keep)
 obtain ⟨et, ev, hev⟩ := er.iface
 have HEV := hid hev
 simp only [oErr]
 rw [hev]
 clear hb q hq hev HXA HOP
 go_wp2_with (go_at_call 31; fail)
 refine Calls.mono (by rw [← HEV.out]; exact lost_yes er HLO.out.1 _ (HG.out.only HXB.out.ext (fun x => x))) ?_
 rintro e w11 ⟨rfl, x11⟩
 rw [HLO.out.2]
 simp only [lostV]
 obtain ⟨W11, hW11⟩ : ∃ W, w11.alloc (.cells (lcells ((x : Int), (0 : Int), (1 : Int))) 70) = W := ⟨_, rfl⟩
 have HXC := hid (hW11 ▸ HXB.out.more (x11.alloc (.cells (lcells ((x : Int), (0 : Int), (1 : Int))) 70)))
 have HN11 := hid (show W11.heap[w11.heap.size]? = some (.cells (lcells ((x : Int), (0 : Int), (1 : Int))) 70 (0, 0)) from hW11 ▸ heap_alloc_new _ _)
 have HW11 := hid hW11
 have hbs : (w11.alloc (.cells (lcells (0, 0, 0)) 70)).heap[w11.heap.size]? = some (.cells (lcells (0, 0, 0)) 70 (0, 0)) := Zad
 have HBL := hid (show Tryz.prog.built 70 [(0, .int .i64 (x : Int)), (2, .int .i64 1)] = some (lcells ((x : Int), (0 : Int), (1 : Int))) from built_loss2 (x : Int))
 clear x11 hW11 HEV HXB
 go_wp2_with (first
  | (guard_target = wpList _ _ _ (⟨none, Op.store _ _ _, _, _, _, none⟩ :: _) _ _; have hb0 := hbs; clear hbs; refine Zaa rfl 70 _ _ rfl w11.heap.size rfl (lcells ((x : Int), (0 : Int), (1 : Int))) _ rfl 70 (agg_loss _) hb0 rfl (lcells_one _) ?_; rw [Zai, HW11.out])
  | (guard_target = wpList _ _ _ (⟨some _, Op.load _ _, _, _, _, some _⟩ :: _) _ _; refine Zaw 70 _ rfl ⟨w11.heap.size, 0, none⟩ rfl (lcells ((x : Int), (0 : Int), (1 : Int))) rfl (agg_loss _) (Zah HN11.out) ?_)
  | (guard_target = wpList _ _ _ (⟨some _, Op.build _ _, _, _, _, some _⟩ :: _) _ _; refine wpListG_build_eq 70 _ rfl (lcells ((x : Int), (0 : Int), (1 : Int))) rfl ?_ ?_; (simp only [List.map_toArray, List.map_cons, List.map_nil, Act.eval]; simp only [Array.getD_eq_getD_getElem?, List.getElem?_toArray, List.getElem?_cons_succ, List.getElem?_cons_zero, Option.getD_some]; exact HBL.out))
  | (guard_target = wpList _ _ _ (⟨some _, Op.binOp _ _ _ _ _, _, _, _, some _⟩ :: _) _ _; refine wpListG_eql .eql 70 _ _ _ rfl (lcells ((x : Int), (0 : Int), (1 : Int))) (lcells ((x : Int), (0 : Int), (1 : Int))) rfl rfl (.bool true) rfl (loss_guard _ _ _ _ _ _) (loss_eql _ _) ?_)
  | (go_at_call 32; fail))
 refine (tapeRuns_c _).mono ?_
 rintro e w12 ⟨rfl, x12⟩
 have HX12 := hid (Ext.trans HXC.out.ext x12)
 clear x12
 go_wp2
 go_ret
 exact ⟨rfl, HX12.out⟩
end Go.Proofs.YtbdfjiedceaoiaaGreatDoor
namespace Go.Proofs.YtbdfjiedceaoiaaGreatDoor.tapeGap
open Go.ChangeShapes Go.WideShapes Go.ChangeAt Go.RowKit
open Go.ChangeMaps (open_string shut_string)
set_option linter.unusedVariables false
theorem laidOut : laidOutB Tryz.prog = true := by kernel_rfl
theorem walk (a0 : Int) (a1 : Int) (a2 : Int) (w : World) (hg : EtLaid w) (w0 : (Lit.int .i64 a0).wf = true) (w1 : (Lit.int .i64 a1).wf = true) (w2 : (Lit.int .i64 a2).wf = true) :
  Calls Tryz.prog 5 #[.int .i64 a0, .int .i64 a1, .int .i64 a2] w fun e w' => e = .returned (.bool true) ∧ Below w.heap.size w w' :=
 (tapeGap_c a0 a1 a2 w hg).mono fun _ _ ⟨he, hx⟩ => ⟨he, hx.below⟩
set_option maxRecDepth 100000 in
theorem lifted (os : Os) (started : os.Started) (H : Type) (enc : TypeId × Value → H) :
  ReturnsInHanded {} Tryz.checked os 5 .any (fun w args => (Rows.tapeGapSpec.pre enc Tryz.prog Tryz.f5 [] false w args ∧ laidMetH Tryz.prog theLaid w) ∧ sizedMet enc Tryz.prog Tryz.f5 (OpenSpec.ofChange Rows.tapeGapSpec) false w args)
   (Rows.tapeGapSpec.post enc Tryz.prog Tryz.f5 false true false false) := by
 refine returnsInHanded_of_change_and (C := Tryz.checked) (X := fun w _ => laidMetH Tryz.prog theLaid w) (fun _ _ _ hh h => h.of_heap hh) hOwn started (by kernel_rfl) Tryz.func5
  (ChangeSpec.witness_at (enc := enc) (C := Tryz.checked) (os := os) (X := fun w _ => laidMetH Tryz.prog theLaid w) false (laidWorld os) #[.int .i64 0, .int .i64 0, .int .i64 0] 8 rfl (by kernel_rfl) (by kernel_rfl) (by kernel_rfl) (by kernel_rfl) (by kernel_rfl) (laidWorld_met os _)) ?_
 intro W base args ds gs before hval0 hW _ _ hL _
 have hval : ∀ (j : Nat) t v, Tryz.f5.params[j]? = some t → args[j]? = some v → Value.okWide Tryz.prog W .any base t v := hval0
 have hW' := hW
 obtain ⟨p, q, hA0, hV, rfl, hfz, hnd⟩ := hW
 have hA : DataW.TrodAll enc Tryz.prog W 0 (fun _ => true) true Tryz.f5.params.toList args.toList ds p := hA0
 rw [Tryz.params5] at hA hval
 obtain ⟨v0, vs0, d0, ds0, p0, q0, hargs, rfl, rfl, h0, r0⟩ := trodAll_cons hA
 obtain ⟨v1, vs1, d1, ds1, p1, q1, rfl, rfl, rfl, h1, r1⟩ := trodAll_cons r0
 obtain ⟨v2, vs2, d2, ds2, p2, q2, rfl, rfl, rfl, h2, r2⟩ := trodAll_cons r1
 obtain ⟨rfl, rfl, rfl⟩ := trodAll_nil r2
 obtain rfl : args = #[v0, v1, v2] := by cases args; simp_all
 obtain ⟨rfl, rfl⟩ := trodVars_none hV
 obtain ⟨a0, rfl, rfl, rfl, w0⟩ := open_int Tryz.underlying3 (hval 0 3 v0 rfl rfl) h0
 obtain ⟨a1, rfl, rfl, rfl, w1⟩ := open_int Tryz.underlying3 (hval 1 3 v1 rfl rfl) h1
 obtain ⟨a2, rfl, rfl, rfl, w2⟩ := open_int Tryz.underlying3 (hval 2 3 v2 rfl rfl) h2
 have hg := etLaid_of hL
 clear hA0 hval0
 simp only [List.append_nil] at hW'
 refine (walk a0 a1 a2 W hg w0 w1 w2).mono fun e W' ⟨he, bel⟩ => ?_
 subst he
 exact ⟨_, rfl, _, _, _, [], _, [], hW', trodAll_mk1 (shut_bool Tryz.underlying4 _), (trodAll_cons_mk (shut_int Tryz.underlying3 w0) (trodAll_cons_mk (shut_int Tryz.underlying3 w1) (trodAll_cons_mk (shut_int Tryz.underlying3 w2) trodAll_mk0))), rfl, bel.frame _, fun h => by cases h⟩
theorem over : Rows.TapeGapSaid :=
 OpenClaim.holds_of_wide 5 Tryz.f5 rfl rfl rfl rfl rfl rfl rfl ⟨rfl, rfl, rfl, rfl, rfl⟩ rfl rfl rfl rfl rfl (by kernel_rfl) Tryz.func5 (by kernel_rfl)
  (of_decide_eq_true (by kernel_rfl)) (by unfold Func.isWrapper; first | (rw [if_pos (by decide +kernel)]; kernel_rfl) | (rw [if_neg (by decide +kernel)]; exact ⟨rfl, rfl⟩))
  (fun os started H enc _ => lifted os started H enc)
theorem proved : Rows.TapeGapCardSaid :=
 Claim7.holds_tied_plain_at .later [] [.handle] true (true, "5099e9f95494a7ac1d1e9109868c047233c143c307eafd73ed71b9c5778ce599") true
  over (fun _ h => by cases h) (by kernel_rfl) (fun _ h => by cases h) tapeGap_row_tie rfl ⟨rfl, rfl⟩ (by kernel_rfl) rfl
  (fun f fn hf hfn => by
   obtain rfl : f = 5 := Option.some.inj ((show Tryz.prog.funcNamed "stave/stavelaw14.TapeGap" = some 5 by kernel_rfl).symm.trans hf) |>.symm
   obtain rfl : fn = Tryz.f5 := (Option.some.inj (Tryz.func5.symm.trans hfn)).symm
   exact ⟨by kernel_rfl, fun j t ht => by
    rw [Tryz.params5] at ht
    rcases j with _ | _ | _ | j
    ·
     simp at ht; subst ht; kernel_rfl
    ·
     simp at ht; subst ht; kernel_rfl
    ·
     simp at ht; subst ht; kernel_rfl
    ·
     simp at ht⟩)
  (by kernel_rfl)
#print axioms proved
end Go.Proofs.YtbdfjiedceaoiaaGreatDoor.tapeGap
