/- The statement VolumeFew, as its tied card: for every input the call of stavelaw12's VolumeFew answers true, and its arguments read behind it as they read before. No condition of our own. -/
/- Texts of one proof, joined: WVolumeFew, LawVolumeFew. -/
import Derived.Test.YthopnbklmlopkaaGreatDoorQW
import Derived.Test.YthopnbklmlopkaaGreatDoorQX
import Derived.Test.YthopnbklmlopkaaGreatDoorQZ
import Derived.Test.YthopnbklmlopkaaGreatDoorQAA
import Derived.Test.YthopnbklmlopkaaGreatDoorQC
import Derived.Test.YthopnbklmlopkaaGreatDoorCards
import Derived.Test.YthopnbklmlopkaaGreatDoorTie
import Derived.WalkKit
import Derived.ProofKit
import Derived.OpenShut
import Derived.ShutString
import Derived.ChangeOld
import Derived.Below
import Derived.SevenTiedAt
import Derived.Test.YthopnbklmlopkaaGreatDoorQLW
set_option linter.unusedVariables false
set_option linter.unusedSimpArgs false
namespace Go.Proofs.YthopnbklmlopkaaGreatDoor
set_option linter.unusedVariables false
open Go Go.RowKit
set_option maxRecDepth 100000 in
set_option maxHeartbeats 600000 in
theorem volumeFew_c (k n s a0 : Int) (w : World) (hg : EtLaid w) :
  Calls Tryz.prog 5 #[.int .i64 k, .int .i64 n, .int .i64 s, .int .i64 a0] w fun e w' => e = .returned (.bool true) ∧ Ext w w' := by
 have HG := hid hg
 have hzc := Zcs
 have HCS := hid Cfg.A_size
 clear hg
 go_enter Tryz.func5, Tryz.ntmps5
 go_wp2_with fail
 refine (kfixed_c k n 2 2 _).mono ?_
 rintro e w1 ⟨rfl, x1⟩
 have HGD := hid (show (keepFixed k n 2 2).Good from keepFixed_good k n 2 2 (by omega) (by omega) (by omega) (by omega))
 have HK4 := hid (keepFixed_k4 k n 2 2)
 have HN6 := hid (keepFixed_n6 k n 2 2)
 have HST := hid (show (keepFixed k n 2 2).stripes = 2 from rfl)
 have HSL := hid (show (keepFixed k n 2 2).slots = 2 from rfl)
 generalize keepFixed k n 2 2 = c at *
 obtain ⟨W1, hW1⟩ : ∃ W, w1.alloc (.cells (Cfg.A c) 23) = W := ⟨_, rfl⟩
 have X1 := hid (show Ext w W1 from hW1 ▸ x1.alloc _)
 have HC := hid (show W1.heap[w1.heap.size]? = some (.cells (Cfg.A c) 23 (0, 0)) from hW1 ▸ heap_alloc_new _ _)
 have hbs : (w1.alloc (.cells (Cfg.A Cfg.zero) 23)).heap[w1.heap.size]? = some (.cells (Cfg.A Cfg.zero) 23 (0, 0)) := Zad
 clear x1
 have HW1 := hid hW1
 clear hW1
 obtain ⟨m, hm, m1, m128⟩ := sectors_nat c HGD.out
 obtain ⟨nn, hn⟩ : ∃ nn : Nat, c.n = nn := ⟨c.n.toNat, by have := HGD.out.k0; have := HGD.out.k1; omega⟩
 obtain ⟨kk, hk⟩ : ∃ kk : Nat, c.k = kk := ⟨c.k.toNat, by have := HGD.out.k0; omega⟩
 have HNT := hid (show c.n.toNat = nn by omega)
 have HKT := hid (show c.k.toNat = kk by omega)
 have n1 : 1 ≤ nn := by have := HGD.out.k0; have := HGD.out.k1; omega
 have n8 : nn ≤ 6 := by have := HN6.out; omega
 have k1 : 1 ≤ kk := by have := HGD.out.k0; omega
 have k4 : kk ≤ 4 := by have := HK4.out; omega
 have HKN := hid (show kk ≤ nn by have := HGD.out.k1; omega)
 have HM := hid hm; have HN := hid hn; have HK := hid hk
 obtain ⟨R1, R2, e1, e2, h2, v2⟩ := VH.start HGD.out HK4.out HN6.out (m := m) (by rw [HM.out]; exact Int.le_refl _)
 rw [HNT.out] at e1
 have HV2 := hid h2; have HVV2 := hid v2
 have HE1 := hid e1; have HE2 := hid e2
 clear hm hn hk e1 e2 h2 v2
 go_wp2_with (first
  | (guard_target = wpList _ _ _ (⟨none, Op.store _ _ _, _, _, _, none⟩ :: _) _ _; have hb0 := hbs; clear hbs; refine Zaa rfl 23 _ _ rfl w1.heap.size rfl (Cfg.A c) _ rfl 23 ?_ hb0 ?_ ?_ ?_; (rw [HCS.out]; exact aggCfg); (rw [HCS.out, HCS.out]); exact Cfg.A_one _; rw [Zai, HW1.out])
  | (guard_target = wpList _ _ _ (⟨some _, Op.load _ _, _, _, _, none⟩ :: _) _ _; refine Zac rfl 23 _ rfl ⟨w1.heap.size, 0, none⟩ rfl (Cfg.A c) (Zat c) (Zah HC.out) ?_))
 have HLT := hid (lt_of_block HC.out)
 generalize w1.heap.size = gc at *
 refine (opened_c c HGD.out nn m HN.out HM.out m1 m128 HE1.out HE2.out W1).mono ?_
 rintro e w2 ⟨r, g, T, ho⟩
 obtain rfl := ho.ret
 have HX2 := hid (show VX w w2 T r R2 gc c g ⟨c, 1, false⟩ from ⟨⟨ho.ve.rack, Ext.trans X1.out ho.ve.ext, fun b hb => ho.ve.low b (Nat.lt_of_lt_of_le hb X1.out.size)⟩, ho.ve.ext.at HC.out, ho.ve.low gc HLT.out, ho.vol, ho.gT, Nat.le_trans X1.out.size ho.new, fun q => by have := ho.new; have := HLT.out; omega⟩)
 clear ho HE1 HE2 HC X1 HLT
 obtain ⟨la, hla⟩ : ∃ l, blocksOf kk a0 = l := ⟨_, rfl⟩
 have La8 := hid (hla ▸ blocksOf_108 kk a0)
 have LaB := hid (hla ▸ blocksOf_bytes kk a0)
 have LaN := hid (show la.length ≤ 8 by rw [← hla, Zcf]; omega)
 have La0 := hid (show la ≠ [] from hla ▸ (by intro q; have := congrArg List.length q; rw [Zcf] at this; simp at this; omega))
 have LaF := hid (show Cd.Blocks c.k.toNat 108 la by rw [HKT.out, ← hla]; exact blocksOf_Blocks kk a0)
 have HLa := hid hla
 clear hla
 obtain ⟨s1, R3, hcm, h3, v3⟩ := HV2.out.commit_on (VI.new HGD.out) HM.out.symm HK4.out HN6.out (by decide) (s := 0) (by rw [HST.out]; decide) LaF.out
 rw [show (1 : Int) + 1 = 2 by omega] at hcm v3 h3
 have HCM := hid (show Vol.commit ⟨c, 1, false⟩ R2 0 la = (none, R3, ⟨c, 2, false⟩) from hcm)
 have HV3 := hid h3
 clear hcm h3 v3 HV2 HVV2
 have ck : w2.cell? ⟨gc, 1, none⟩ = some (.int .i64 kk) := HX2.out.c1.trans (by rw [HK.out])
 go_wp2_with fail
 refine (kblocks_c kk (by omega) a0 w2).mono ?_
 rintro e w3 ⟨v, rfl, hown, x3⟩
 rw [HLa.out] at hown
 obtain ⟨a3, c3, rfl, hbk, hab⟩ := kblocks_at La8.out hown
 obtain ⟨S3, hS⟩ : ∃ S', wideS T w2 w3 = S' := ⟨_, rfl⟩
 have HX3 := hid (hS ▸ HX2.out.wide x3)
 have HSS3 := hid (show ∀ b, T b → S3 b from fun b hb => hS ▸ .inl hb)
 have HE3 := hid x3
 have HB3 := hid hbk
 have HP3 := hid (show ∀ b, a3 = some ⟨b, 0, none⟩ → S3 b ∧ b ≠ g ∧ w.heap.size ≤ b from fun b q => ⟨hS ▸ HX2.out.ve.blk x3 hbk La0.out hab b q, by have := hab b q; have := lt_of_block HX2.out.vol; omega, Nat.le_trans HX2.out.ext.size (hab b q)⟩)
 clear hown x3 hbk hab hS ck
 go_wp2_with fail
 refine (vcommit_c HX3.out.rack HX3.out.vol HX3.out.gS (show (0 : Int) ≤ 1 by omega) 0 la La8.out LaB.out a3 c3 HB3.out (fun b q => ⟨(HP3.out b q).1, (HP3.out b q).2.1⟩)).mono ?_
 rintro e w4 h4
 rw [HCM.out] at h4
 obtain rfl := h4.ret
 have HX4 := hid (show VX w w4 S3 r R3 gc c g ⟨c, 2, false⟩ from HX3.out.commit h4)
 simp only [oErr]
 clear h4 HX3 HB3 HX2 HCM
 go_wp2_with fail
 refine (vseq_c HX4.out.vol).mono ?_
 rintro e _ ⟨rfl, rfl⟩
 go_wp2_with fail
 have xd : Ext w4 w4.drew := (Ext.refl w4).drew
 have HXD := hid (HX4.out.more xd)
 have hw1 : wrap64 ((kk : Int) + 1) = (kk : Int) + 1 := by unfold wrap64; omega
 have hw2 : IntKind.i64.wrap ((kk : Int) + 1) = (kk : Int) + 1 := by rw [IntKind.wrap_i64]; omega
 have ck : ∀ y : SW (Only fun b => ¬ S3 b ∨ b = g) w4.drew, y.w.cell? ⟨gc, 1, none⟩ = some (.int .i64 kk) := fun y => Only.cell y.ext (HXD.out.c1.trans (by rw [HK.out])) (fun q => q.elim (fun z => z HXD.out.cfgS) HXD.out.ne)
 have cs : ∀ y : SW (Only fun b => ¬ S3 b ∨ b = g) w4.drew, y.w.cell? ⟨gc, 3, none⟩ = some (.int .i64 2) := fun y => Only.cell y.ext ((Zaf HXD.out.cfg).trans ((Cfg.A3 c).trans (by rw [HST.out]))) (fun q => q.elim (fun z => z HXD.out.cfgS) HXD.out.ne)
 clear xd HX4
 refine Zaw (E := Ext) (S := Only fun b => ¬ S3 b ∨ b = g) (.one [0, 1, 2, 3, 4, 5] 6 (.one [] 7 (.one [] 8 (.one [9, 10, 11, 12, 13, 14, 15] 16 (.one [] 17 (.one [] 18 (.one [19, 20, 21, 22, 24] 23 (.fin [25, 26])))))))) (by kernel_rfl) (by kernel_rfl) (fun _ _ d _ _ h => by cases d <;> exact h) ?_
 rw [wpS]
 simp only [opsAt, opA, opB, opC, opD, opE, opF, opG]
 iterate 6 ((refine Zab (fun K hK => ?_); go_simp; refine hK _ ?_; clear hK K))
 refine Zag ?_
 intro V3 hV3
 have HX5 := hid (HXD.out.more hV3)
 clear ck cs hV3 HXD
 refine Zav fun Q1 hQ1 => ?_
 go_wp2_with fail
 refine (kblocks_c kk (by omega) a0 V3).mono ?_
 rintro e w5 ⟨v, rfl, hown, x5⟩
 rw [HLa.out] at hown
 obtain ⟨a5, c5, rfl, hbk, hab⟩ := kblocks_at La8.out hown
 obtain ⟨S5, hS⟩ : ∃ S', wideS S3 V3 w5 = S' := ⟨_, rfl⟩
 have HX6 := hid (hS ▸ HX5.out.wide x5)
 have HS5 := hid (show ∀ b, S3 b → S5 b from fun b hb => hS ▸ .inl hb)
 have HB5 := hid hbk
 have HP5 := hid (show ∀ b, a5 = some ⟨b, 0, none⟩ → S5 b ∧ b ≠ g from fun b q => ⟨hS ▸ HX5.out.ve.blk x5 hbk La0.out hab b q, by have := hab b q; have := lt_of_block HX5.out.vol; omega⟩)
 clear hown hbk hab hS
 go_wp2
 refine hQ1 _ _ (Ext.only x5) ?_
 have HEA0 := hid x5
 clear hQ1 Q1 x5
 rw [wpS]
 simp only [opsAt, opA, opB, opC, opD, opE, opF, opG]
 refine Zag ?_
 intro V4 hV4
 have HEA := hid (Ext.trans HEA0.out hV4)
 have HX7 := hid (HX6.out.more hV4)
 have HB7 := hid (HB5.out.ext hV4)
 clear hV4 HX6 HB5
 refine Zav fun Q2 hQ2 => ?_
 go_wp2_with fail
 refine (vcommit_c HX7.out.rack HX7.out.vol HX7.out.gS (show (0 : Int) ≤ 2 by omega) 2 la La8.out LaB.out a5 c5 HB7.out HP5.out).mono ?_
 rintro e w6 h6
 rw [show Vol.commit ⟨c, 2, false⟩ R3 2 la = _ from Vol.commit_arg _ _ _ _ (.inr (.inl (by show c.stripes ≤ 2; rw [HST.out]; exact Int.le_refl _)))] at h6
 obtain rfl := h6.ret
 have HX8 := hid (show VX w w6 S3 r R3 gc c g ⟨c, 2, false⟩ from (HX7.out.commit h6).less HS5.out (fun b hb => HX5.out.ve.low b hb) HX5.out.cfgS HX5.out.gS)
 have HK6 := hid (show Only (fun b => ¬ S3 b ∨ b = g) V4 w6 from Only.trans (Only.refl _ V4) h6.only (fun b _ hb => hb.elim (fun z => .inl fun q => z (HS5.out b q)) .inr))
 obtain ⟨er, her⟩ : ∃ er, Err.fault sVCommit 2 (.no 1) = er := ⟨_, rfl⟩
 have HLO : Hid (er.lost = false ∧ er.kind = 1) := hid (by rw [← her]; exact ⟨rfl, rfl⟩)
 rw [her]
 simp only [oErr]
 clear h6 HX7 HB7 her HP5 HS5
 go_wp2
 refine hQ2 _ _ HK6.out ?_
 have HKY := hid (Only.trans (Ext.only HEA.out) HK6.out (fun _ _ q => q))
 clear hQ2 Q2 HK6 HEA HEA0
 rw [wpS]
 simp only [opsAt, opA, opB, opC, opD, opE, opF, opG]
 refine Zag ?_
 intro V6 hV6
 have HEB := hid hV6
 have HX9 := hid (HX8.out.more hV6)
 clear hV6 HX8
 refine Zav fun Q3 hQ3 => ?_
 go_wp2_with fail
 refine (kind_no er HLO.out.1 _ (HG.out.only HX9.out.ext (fun x => x))).mono ?_
 rintro e w7 ⟨rfl, x7⟩
 rw [HLO.out.2]
 have HXA := hid (HX9.out.more x7)
 go_wp2
 refine hQ3 _ _ (Ext.only x7) ?_
 have HKZ := hid (Only.ext HKY.out (Ext.trans HEB.out x7))
 clear hQ3 Q3 x7 HX9 HLO HKY HEB
 rw [wpS]
 simp only [opsAt, opA, opB, opC, opD, opE, opF, opG]
 have ck : ∀ y : SW (Only fun b => ¬ S3 b ∨ b = g) w7, y.w.cell? ⟨gc, 1, none⟩ = some (.int .i64 kk) := fun y => Only.cell y.ext (HXA.out.c1.trans (by rw [HK.out])) (fun q => q.elim (fun z => z HXA.out.cfgS) HXA.out.ne)
 iterate 7 ((refine Zab (fun K hK => ?_); go_simp; refine hK _ ?_; clear hK K))
 refine Zag ?_
 intro V7 hV7
 have HXB := hid (HXA.out.more hV7)
 clear hV7 HXA ck
 obtain ⟨lc, hlc⟩ : ∃ l, blocksOf (kk + 1) a0 = l := ⟨_, rfl⟩
 have Lc8 := hid (hlc ▸ blocksOf_108 (kk + 1) a0)
 have LcB := hid (hlc ▸ blocksOf_bytes (kk + 1) a0)
 have Lc0 := hid (show lc ≠ [] from hlc ▸ (by intro q; have := congrArg List.length q; rw [Zcf] at this; simp at this))
 have LcN := hid (show (lc.length : Int) ≠ c.k by rw [← hlc, Zcf, HK.out]; omega)
 have HLc := hid hlc
 have hkb := kblocks_c (kk + 1) (by omega) a0 V7
 rw [show ((kk + 1 : Nat) : Int) = (kk : Int) + 1 by omega] at hkb
 clear hlc
 refine Zav fun Q1 hQ1 => ?_
 go_wp2_with fail
 refine hkb.mono ?_
 rintro e w5 ⟨v, rfl, hown, x5⟩
 rw [HLc.out] at hown
 obtain ⟨a5, c5, rfl, hbk, hab⟩ := kblocks_at Lc8.out hown
 obtain ⟨S5, hS⟩ : ∃ S', wideS S3 V7 w5 = S' := ⟨_, rfl⟩
 have HX6 := hid (hS ▸ HXB.out.wide x5)
 have HS5 := hid (show ∀ b, S3 b → S5 b from fun b hb => hS ▸ .inl hb)
 have HB5 := hid hbk
 have HP5 := hid (show ∀ b, a5 = some ⟨b, 0, none⟩ → S5 b ∧ b ≠ g from fun b q => ⟨hS ▸ HXB.out.ve.blk x5 hbk Lc0.out hab b q, by have := hab b q; have := lt_of_block HXB.out.vol; omega⟩)
 clear hown hbk hab hS
 go_wp2
 refine hQ1 _ _ (Ext.only x5) ?_
 have HEA0 := hid x5
 clear hQ1 Q1 x5
 rw [wpS]
 simp only [opsAt, opA, opB, opC, opD, opE, opF, opG]
 refine Zag ?_
 intro V8 hV8
 have HEA := hid (Ext.trans HEA0.out hV8)
 have HX7 := hid (HX6.out.more hV8)
 have HB7 := hid (HB5.out.ext hV8)
 clear hV8 HX6 HB5
 refine Zav fun Q2 hQ2 => ?_
 go_wp2_with fail
 refine (vcommit_c HX7.out.rack HX7.out.vol HX7.out.gS (show (0 : Int) ≤ 2 by omega) 0 lc Lc8.out LcB.out a5 c5 HB7.out HP5.out).mono ?_
 rintro e w6 h6
 rw [show Vol.commit ⟨c, 2, false⟩ R3 0 lc = _ from Vol.commit_arg _ _ _ _ (.inr (.inr LcN.out))] at h6
 obtain rfl := h6.ret
 have HX8 := hid (show VX w w6 S3 r R3 gc c g ⟨c, 2, false⟩ from (HX7.out.commit h6).less HS5.out (fun b hb => HXB.out.ve.low b hb) HXB.out.cfgS HXB.out.gS)
 have HK6 := hid (show Only (fun b => ¬ S3 b ∨ b = g) V8 w6 from Only.trans (Only.refl _ V8) h6.only (fun b _ hb => hb.elim (fun z => .inl fun q => z (HS5.out b q)) .inr))
 obtain ⟨er, her⟩ : ∃ er, Err.fault sVCommit 0 (.no 1) = er := ⟨_, rfl⟩
 have HLO : Hid (er.lost = false ∧ er.kind = 1) := hid (by rw [← her]; exact ⟨rfl, rfl⟩)
 rw [her]
 simp only [oErr]
 clear h6 HX7 HB7 her HP5 HS5
 go_wp2
 refine hQ2 _ _ HK6.out ?_
 have HKY := hid (Only.trans (Ext.only HEA.out) HK6.out (fun _ _ q => q))
 clear hQ2 Q2 HK6 HEA HEA0
 rw [wpS]
 simp only [opsAt, opA, opB, opC, opD, opE, opF, opG]
 refine Zag ?_
 intro V9 hV9
 have HEB := hid hV9
 have HX9 := hid (HX8.out.more hV9)
 clear hV9 HX8
 refine Zav fun Q3 hQ3 => ?_
 go_wp2_with fail
 refine (kind_no er HLO.out.1 _ (HG.out.only HX9.out.ext (fun x => x))).mono ?_
 rintro e w7 ⟨rfl, x7⟩
 rw [HLO.out.2]
 have HXA := hid (HX9.out.more x7)
 go_wp2
 refine hQ3 _ _ (Ext.only x7) ?_
 have HKZ := hid (Only.ext HKY.out (Ext.trans HEB.out x7))
 clear hQ3 Q3 x7 HX9 HLO HKY HEB
 rw [wpS]
 simp only [opsAt, opA, opB, opC, opD, opE, opF, opG]
 iterate 5 ((refine Zab (fun K hK => ?_); go_simp; refine hK _ ?_; clear hK K))
 refine Zag ?_
 intro VA hVA
 have HXC := hid (HXA.out.more hVA)
 clear hVA HXA hkb
 refine Zav fun Q4 hQ4 => ?_
 go_wp2_with fail
 refine (vseq_c HXC.out.vol).mono ?_
 rintro e _ ⟨rfl, rfl⟩
 go_wp2
 refine hQ4 _ _ (Only.refl _ _) ?_
 clear hQ4 Q4
 rw [wpS]
 simp only [opsAt, opA, opB, opC, opD, opE, opF, opG]
 iterate 2 ((refine Zab (fun K hK => ?_); go_simp; refine hK _ ?_; clear hK K))
 refine Zag ?_
 intro VB hVB
 have HXE := hid (HXC.out.more hVB)
 have HFW := hid (Fewer.start (c := c) HV3.out.pow.live)
 have HAL := hid (fun d (hd : d < c.n.toNat) => (HV3.out.dsk d hd).alive)
 rw [HKT.out] at HFW
 have ck : VB.cell? ⟨gc, 1, none⟩ = some (.int .i64 kk) := HXE.out.c1.trans (by rw [HK.out])
 have hw3 : wrap64 ((kk : Int) - 1) = (kk : Int) - 1 := by unfold wrap64; omega
 have hw4 : IntKind.i64.wrap ((kk : Int) - 1) = (kk : Int) - 1 := by rw [IntKind.wrap_i64]; omega
 clear hVB HXC HV3 hw1 hw2
 go_wp2_with fail
 clear ck
 go_loopw [13] (fun t wr => ∃ i : Nat, t = .int .i64 i ∧ kk - 1 ≤ i ∧ i ≤ nn ∧ ∃ Rd, Fewer R3 Rd c m i ∧ VX w wr S3 r Rd gc c g ⟨c, 2, false⟩) (fun t _ => nn - (intOf t).toNat)
 case atStart => exact ⟨kk - 1, by rw [show ((kk - 1 : Nat) : Int) = (kk : Int) - 1 by omega], by omega, by have := HKN.out; omega, _, HFW.out, HXE.out⟩
 case round =>
  clear HFW HXE
  obtain ⟨i, rfl, hki, hi, Rd, hfw, hx⟩ := hrel
  have HFW := hid hfw; have HX := hid hx
  clear hfw hx
  have cn : wr.cell? ⟨gc, 2, none⟩ = some (.int .i64 nn) := HX.out.c2.trans (by rw [HN.out])
  by_cases hlt : i < nn
  ·
   have i1 : (i : Int) < (nn : Int) := by omega
   go_wp2_with fail
   refine (at_die HX.out.rack i).mono ?_
   rintro e w16 ⟨rfl, h16, k16⟩
   have HX16 := hid (HX.out.keep h16 k16)
   have HFW' := hid (HFW.out.die (by rw [HNT.out]; exact hlt) (by rw [HKT.out]; exact hki))
   clear h16 k16 HX cn
   go_wp2_with fail
   go_roundw
   case rel => exact ⟨i + 1, by go_num, by omega, by omega, _, HFW'.out, HX16.out⟩
   case measure => simp [intOf]; omega
  ·
   obtain rfl : i = nn := by omega
   have HFN := hid (HNT.out.symm ▸ HFW.out : Fewer R3 Rd c m c.n.toNat)
   have hbd : i * m ≤ 768 := Nat.le_trans (Nat.mul_le_mul n8 m128) (by omega)
   have HBD := hid hbd
   obtain ⟨hf, hhf⟩ : ∃ hf : Nat → List Nat, (fun q => (Rd.dsk ((q / m : Nat) : Int)).read (q % m)) = hf := ⟨_, rfl⟩
   have HHF := hid (show ∀ d i : Nat, i < m → hf (d * m + i) = (Rd.dsk (d : Int)).read i from fun d i hi => by
    rw [← hhf]
    show (Rd.dsk (((d * m + i) / m : Nat) : Int)).read ((d * m + i) % m) = _
    have e1 : (d * m + i) / m = d := by rw [Nat.mul_comm, Nat.mul_add_div (by omega), Nat.div_eq_of_lt hi]; rfl
    have e2 : (d * m + i) % m = i := by rw [Nat.mul_comm, Nat.mul_add_mod, Nat.mod_eq_of_lt hi]
    rw [e1, e2])
   have HDM := hid (show ∀ d : Nat, d < i → d * m + m ≤ 768 from fun d hd => by
    have := Nat.mul_le_mul_right m (show d + 1 ≤ i by omega)
    rw [Nat.add_mul] at this
    omega)
   have HKI := hid hki
   clear hbd hhf hki hlt HFW
   generalize i = nn at *
   obtain ⟨W7, hW7⟩ : ∃ W, W = wr := ⟨_, rfl⟩
   subst hW7
   have HSM := hid (show Rd.sectors = m from HFN.out.live.sectors)
   have HRE := hid (show ∀ d i : Nat, d + 1 < kk → i < m → Rd.readE d i = none from fun d i h1 h2 => HFN.out.readE HAL.out (by rw [HNT.out]; have := HKN.out; omega) (by rw [HKT.out]; omega) h2)
   go_wp2_with fail
   clear cn
   go_loopw [15, 14] (fun t v wd => ∃ d : Nat, t = .int .i64 d ∧ d + 1 ≤ kk ∧ ∃ bk cp, HadAt wd W7.heap.size v (d * m) hf bk cp ∧ Ext W7 wd) (fun t _ _ => kk - (intOf t).toNat)
   case atStart => exact ⟨0, rfl, by omega, _, _, by rw [Nat.zero_mul]; exact HadAt.nil _ _ _, Ext.refl _⟩
   case round =>
    obtain ⟨d, rfl, hd, bk, cp, hh, hx⟩ := hrel
    have ck : wr.cell? ⟨gc, 1, none⟩ = some (.int .i64 kk) := (HX.out.more hx).c1.trans (by rw [HK.out])
    by_cases hdl : d + 1 < kk
    ·
     have d1 : (d : Int) < (kk : Int) - 1 := by omega
     have HH := hid hh; have HX0 := hid hx
     clear hh hx
     go_wp2_with fail
     go_loopw [16, 14] (fun t v wd => ∃ i : Nat, t = .int .i64 i ∧ i ≤ m ∧ ∃ bk cp, HadAt wd W7.heap.size v (d * m + i) hf bk cp ∧ Ext W7 wd) (fun t _ _ => m - (intOf t).toNat)
     case atStart => exact ⟨0, rfl, by omega, bk, cp, HH.out, HX0.out⟩
     case round =>
      clear HH HX0 ck
      obtain ⟨i, rfl, hi, bk, cp, hh, hx⟩ := hrel
      have HJI := hid (HX.out.more hx)
      have HH := hid hh; have HX0 := hid hx
      clear hh hx
      go_wp2_with fail
      refine (at_sectors HJI.out.rack).mono ?_
      rintro e w8 ⟨rfl, rfl⟩
      rw [HSM.out]
      by_cases him : i < m
      ·
       have h1 : (i : Int) < (m : Int) := by omega
       go_wp2_with fail
       refine (at_read HJI.out.rack d i).mono ?_
       rintro e w9 (⟨er, he, rfl, x9⟩ | ⟨he, p, rfl, hp, hs, x9⟩)
       ·
        rw [HRE.out d i hdl him] at he; cases he
       have hsz := Nat.le_trans HX0.out.size (Nat.le_refl wr.heap.size)
       obtain ⟨v', w10, bk', cp', hap, hh', hx'⟩ := HH.out.push (W := w9) x9 (b := p.blk) (c := p.cap) (by rw [HHF.out d i him]; simpa using hs.bytes) hp (by have := HDM.out d (by have := HKN.out; omega); omega) hsz
       have HAPP := hid hap
       have HH2 := hid hh'
       have HX2 := hid (hx' W7 (Nat.le_refl _) (Ext.trans HX0.out x9))
       have HSV := hid (show (secV p.blk p.cap).size = 1 from rfl)
       clear he hp hs x9 hap hh' hx' hsz HH HX0 HJI
       go_wp2_with (first
        | (guard_target = wpList _ _ _ (⟨some _, Op.buildSlice _ _ _, _, _, _, none⟩ :: _) _ _; refine Zal rfl 55 56 _ rfl (secV p.blk p.cap) _ _ 1 24 Tryz.underlying55 infoRow (by omega) (by omega) rfl rfl HSV.out ?_)
        | (at_builtin; refine Zaj rfl _ _ _ rfl _ _ _ _ rfl rfl HAPP.out ?_))
       go_roundw
       case rel => exact ⟨i + 1, by go_num, by omega, bk', cp', HH2.out, HX2.out⟩
       case measure => simp [intOf]; omega
      ·
       obtain rfl : m = i := by omega
       have HH2 := hid (show HadAt wr W7.heap.size _ ((d + 1) * m) hf bk cp from by rw [Nat.add_mul, Nat.one_mul]; exact HH.out)
       go_wp2_with fail
       go_roundw
       case rel => exact ⟨d + 1, by go_num, by omega, bk, cp, HH2.out, HX0.out⟩
       case measure => simp [intOf]; omega
    ·
     have d1 : ¬ (d : Int) < (kk : Int) - 1 := by omega
     have hdk : d + 1 = kk := by omega
     have HDK := hid hdk
     clear hdl hd hdk
     obtain ⟨S8, hS8⟩ : ∃ S, wideS S3 W7 wr = S := ⟨_, rfl⟩
     have HX8 := hid (hS8 ▸ HX.out.wide hx)
     have HS8 := hid (show ∀ b, W7.heap.size ≤ b → b < wr.heap.size → S8 b from fun b h1 h2 => hS8 ▸ .inr ⟨h1, h2⟩)
     have HGW := hid (show g < W7.heap.size from lt_of_block HX.out.vol)
     have HH := hid hh
     clear hh hx hS8 HX
     by_cases hd0 : d = 0
     ·
      have HZ := hid hd0
      clear hd0
      go_wp2_with fail
      clear ck
      have xd : Ext wr wr.drew := (Ext.refl wr).drew
      have HXD := hid (HX8.out.more xd)
      have HXE := hid xd
      obtain ⟨q0, q1⟩ := Zbc s 0 1 (by omega)
      obtain ⟨sx, hsx⟩ := Int.eq_ofNat_of_zero_le q0
      have hs2 : sx < 2 := by omega
      have wi : Hid (∀ y : SW (Only fun b => ¬ S8 b ∨ b = g) wr.drew, Calls Tryz.prog 27 #[.int .i64 s, .int .i64 0, .int .i64 1] y.w fun e w'' => e = .returned (.int .i64 (sx : Int)) ∧ Ext y.w w'') := hid fun y => (Zb7 s 0 1 y.w (by omega) (by omega) (by omega)).mono fun e w'' q => ⟨by rw [q.1, hsx], q.2 ▸ Ext.refl _⟩
      have ck : ∀ y : SW (Only fun b => ¬ S8 b ∨ b = g) wr.drew, y.w.cell? ⟨gc, 1, none⟩ = some (.int .i64 kk) := fun y => Only.cell y.ext (HXD.out.c1.trans (by rw [HK.out])) (fun q => q.elim (fun z => z HXD.out.cfgS) HXD.out.ne)
      clear xd HX8 q0 q1 hsx
      refine Zaw (E := Ext) (S := Only fun b => ¬ S8 b ∨ b = g) (.one [0, 1, 2, 3, 4, 5, 6] 7 (.one [] 8 (.one [] 9 (.one [10, 11, 12, 14] 13 (.one [15, 16, 17, 18] 19 (.fin [20])))))) (by kernel_rfl) (by kernel_rfl) (fun _ _ d _ _ h => by cases d <;> exact h) ?_
      rw [wpS]
      simp only [opsAt, opA, opB, opC, opD, opE, opF, opG]
      iterate 2 ((refine Zab (fun K hK => ?_); go_simp; refine hK _ ?_; clear hK K))
      (refine Zab (fun K hK => ?_); go_simp; (apply Exists.intro; refine ⟨fun x => ?_, hK _ ?_⟩; (exact wi.out x); clear hK K))
      iterate 4 ((refine Zab (fun K hK => ?_); go_simp; refine hK _ ?_; clear hK K))
      refine Zag ?_
      intro V3 hV3
      have HX5 := hid (HXD.out.more hV3)
      have HEX := hid (Ext.trans HXE.out hV3)
      generalize IntKind.i64.wrap (a0 + 1) = a1 at *
      clear ck hV3 HXD wi HXE
      obtain ⟨lb, hlb⟩ : ∃ l, blocksOf kk a1 = l := ⟨_, rfl⟩
      have Lb8 := hid (hlb ▸ blocksOf_108 kk a1)
      have LbB := hid (hlb ▸ blocksOf_bytes kk a1)
      have LbN := hid (show lb.length ≤ 8 by rw [← hlb, Zcf]; omega)
      have Lb0 := hid (show lb ≠ [] from hlb ▸ (by intro q; have := congrArg List.length q; rw [Zcf] at this; simp at this; omega))
      have LbF := hid (show Cd.Blocks c.k.toNat 108 lb by rw [HKT.out, ← hlb]; exact blocksOf_Blocks kk a1)
      have HLb := hid hlb
      clear hlb
      refine Zav fun Q1 hQ1 => ?_
      go_wp2_with fail
      refine (kblocks_c kk (by omega) a1 V3).mono ?_
      rintro e w5 ⟨v, rfl, hown, x5⟩
      rw [HLb.out] at hown
      obtain ⟨a5, c5, rfl, hbk, hab⟩ := kblocks_at Lb8.out hown
      obtain ⟨S5, hS⟩ : ∃ S', wideS S8 V3 w5 = S' := ⟨_, rfl⟩
      have HX6 := hid (hS ▸ HX5.out.wide x5)
      have HS5 := hid (show ∀ b, S8 b → S5 b from fun b hb => hS ▸ .inl hb)
      have HB5 := hid hbk
      have HP5 := hid (show ∀ b, a5 = some ⟨b, 0, none⟩ → S5 b ∧ b ≠ g from fun b q => ⟨hS ▸ HX5.out.ve.blk x5 hbk Lb0.out hab b q, by have := hab b q; have := lt_of_block HX5.out.vol; omega⟩)
      clear hown hbk hab hS
      go_wp2
      refine hQ1 _ _ (Ext.only x5) ?_
      have HEA0 := hid x5
      clear hQ1 Q1 x5
      rw [wpS]
      simp only [opsAt, opA, opB, opC, opD, opE, opF, opG]
      refine Zag ?_
      intro V4 hV4
      have HEA := hid (Ext.trans HEA0.out hV4)
      have HX7 := hid (HX6.out.more hV4)
      have HB7 := hid (HB5.out.ext hV4)
      clear hV4 HX6 HB5
      refine Zav fun Q2 hQ2 => ?_
      go_wp2_with fail
      refine (vcommit_c HX7.out.rack HX7.out.vol HX7.out.gS (show (0 : Int) ≤ 2 by omega) sx lb Lb8.out LbB.out a5 c5 HB7.out HP5.out).mono ?_
      rintro e w6 h6
      rw [show Vol.commit ⟨c, 2, false⟩ Rd sx lb = _ from HFN.out.commit HGD.out 2 (by rw [HST.out]; show sx < 2; exact hs2) (by rw [HK.out]; have := LbF.out.n; have := HKT.out; omega)] at h6
      obtain rfl := h6.ret
      have HX8 := hid (show VX w w6 S8 r Rd gc c g ⟨c, 2, false⟩ from (HX7.out.commit h6).less HS5.out (fun b hb => HX5.out.ve.low b hb) HX5.out.cfgS HX5.out.gS)
      have HK6 := hid (show Only (fun b => ¬ S8 b ∨ b = g) V4 w6 from Only.trans (Only.refl _ V4) h6.only (fun b _ hb => hb.elim (fun z => .inl fun q => z (HS5.out b q)) .inr))
      obtain ⟨er, her⟩ : ∃ er, Err.fault sVCommit sx (.no 7) = er := ⟨_, rfl⟩
      have HLO : Hid (er.lost = false ∧ er.kind = 7) := hid (by rw [← her]; exact ⟨rfl, rfl⟩)
      rw [her]
      simp only [oErr]
      clear h6 HX7 HB7 her HP5 HS5
      go_wp2
      refine hQ2 _ _ HK6.out ?_
      have HKY := hid (Only.trans (Ext.only HEA.out) HK6.out (fun _ _ q => q))
      clear hQ2 Q2 HK6 HEA HEA0
      rw [wpS]
      simp only [opsAt, opA, opB, opC, opD, opE, opF, opG]
      refine Zag ?_
      intro V6 hV6
      have HEB := hid hV6
      have HX9 := hid (HX8.out.more hV6)
      clear hV6 HX8
      refine Zav fun Q3 hQ3 => ?_
      go_wp2_with fail
      refine (kind_no er HLO.out.1 _ (HG.out.only HX9.out.ext (fun x => x))).mono ?_
      rintro e w7 ⟨rfl, x7⟩
      rw [HLO.out.2]
      have HXA := hid (HX9.out.more x7)
      go_wp2
      refine hQ3 _ _ (Ext.only x7) ?_
      have HKZ := hid (Only.ext HKY.out (Ext.trans HEB.out x7))
      clear hQ3 Q3 x7 HX9 HLO HKY HEB
      rw [wpS]
      simp only [opsAt, opA, opB, opC, opD, opE, opF, opG]
      iterate 4 ((refine Zab (fun K hK => ?_); go_simp; refine hK _ ?_; clear hK K))
      refine Zag ?_
      intro V7 hV7
      have HXB := hid (HXA.out.more hV7)
      have HKB := hid (Only.ext (Only.trans (Ext.only HEX.out) HKZ.out (fun _ _ q => q)) hV7)
      clear hV7 HXA HKZ HEX
      refine Zav fun Q4 hQ4 => ?_
      go_wp2_with fail
      refine (vseq_c HXB.out.vol).mono ?_
      rintro e _ ⟨rfl, rfl⟩
      go_wp2
      refine hQ4 _ _ (Only.refl _ _) ?_
      clear hQ4 Q4
      rw [wpS]
      simp only [opsAt, opA, opB, opC, opD, opE, opF, opG]
      iterate 4 ((refine Zab (fun K hK => ?_); go_simp; refine hK _ ?_; clear hK K))
      refine Zag ?_
      intro V8 hV8
      have HXC := hid (HXB.out.more hV8)
      have HKC := hid (Only.ext HKB.out hV8)
      clear hV8 HXB HKB
      refine Zav fun Q5 hQ5 => ?_
      go_wp2_with fail
      refine (vdown_c HXC.out.vol).mono ?_
      rintro e _ ⟨rfl, rfl⟩
      go_wp2
      refine hQ5 _ _ (Only.refl _ _) ?_
      clear hQ5 Q5
      rw [wpS]
      simp only [opsAt, opA, opB, opC, opD, opE, opF, opG]
      (refine Zab (fun K hK => ?_); go_simp; refine hK _ ?_; clear hK K)
      refine Zag ?_
      intro V9 hV9
      have HJV := hid (HXC.out.more hV9)
      have HKV := hid (Only.ext HKC.out hV9)
      clear hV9 HXC HKC HX5
      have hk1 : kk = 1 := by have := HDK.out; have := HZ.out; omega
      have d1 : ¬ (0 : Int) < (kk : Int) - 1 := by omega
      go_wp2_with fail
      go_loopw [20] (fun t wd => t = .int .i64 0 ∧ Ext V9 wd) (fun t _ => 0)
      case atStart => exact ⟨rfl, Ext.refl _⟩
      case round =>
       obtain ⟨rfl, hx⟩ := hrel
       have ck : wr.cell? ⟨gc, 1, none⟩ = some (.int .i64 kk) := (HJV.out.more hx).c1.trans (by rw [HK.out])
       have HX1 := hid hx
       clear hx
       go_wp2_with fail
       refine (volumeRuns_c _ (HG.out.only (HJV.out.more HX1.out).ext (fun x => x))).mono ?_
       rintro e w13 ⟨rfl, x13⟩
       have HX13 := hid (Ext.trans (HJV.out.more HX1.out).ext x13)
       clear x13
       go_wp2
       go_ret
       exact ⟨rfl, HX13.out⟩
     ·
      have hN0 : 0 < d * m := Nat.mul_pos (by omega) (by omega)
      obtain ⟨N, hN⟩ : ∃ N, d * m = N := ⟨_, rfl⟩
      have hh := HH.out
      rw [hN] at hh
      obtain ⟨hg0, hc0, rfl, hcells⟩ := hh.slice (by omega)
      have HNM := hid hN
      have N8 : (N : Int) ≤ 768 := by have := HDM.out (d - 1) (by have := HDK.out; have := HKN.out; omega); have e : (d - 1) * m + m = d * m := (by rw [← Nat.succ_mul]; congr 1; omega); omega
      have HHG := hid (hh.own.lt hg0 rfl)
      have HCE := hid hcells
      have HH1 := hid hh
      clear hh hcells hN hd0 hN0 HH
      go_wp2_with fail
      clear ck
      have xd : Ext wr wr.drew := (Ext.refl wr).drew
      have HXD := hid (HX8.out.more xd)
      have HXE := hid xd
      obtain ⟨q0, q1⟩ := Zbc s 0 1 (by omega)
      obtain ⟨sx, hsx⟩ := Int.eq_ofNat_of_zero_le q0
      have hs2 : sx < 2 := by omega
      have wi : Hid (∀ y : SW (Only fun b => ¬ S8 b ∨ b = g) wr.drew, Calls Tryz.prog 27 #[.int .i64 s, .int .i64 0, .int .i64 1] y.w fun e w'' => e = .returned (.int .i64 (sx : Int)) ∧ Ext y.w w'') := hid fun y => (Zb7 s 0 1 y.w (by omega) (by omega) (by omega)).mono fun e w'' q => ⟨by rw [q.1, hsx], q.2 ▸ Ext.refl _⟩
      have ck : ∀ y : SW (Only fun b => ¬ S8 b ∨ b = g) wr.drew, y.w.cell? ⟨gc, 1, none⟩ = some (.int .i64 kk) := fun y => Only.cell y.ext (HXD.out.c1.trans (by rw [HK.out])) (fun q => q.elim (fun z => z HXD.out.cfgS) HXD.out.ne)
      clear xd HX8 q0 q1 hsx
      refine Zaw (E := Ext) (S := Only fun b => ¬ S8 b ∨ b = g) (.one [0, 1, 2, 3, 4, 5, 6] 7 (.one [] 8 (.one [] 9 (.one [10, 11, 12, 14] 13 (.one [15, 16, 17, 18] 19 (.fin [20])))))) (by kernel_rfl) (by kernel_rfl) (fun _ _ d _ _ h => by cases d <;> exact h) ?_
      rw [wpS]
      simp only [opsAt, opA, opB, opC, opD, opE, opF, opG]
      iterate 2 ((refine Zab (fun K hK => ?_); go_simp; refine hK _ ?_; clear hK K))
      (refine Zab (fun K hK => ?_); go_simp; (apply Exists.intro; refine ⟨fun x => ?_, hK _ ?_⟩; (exact wi.out x); clear hK K))
      iterate 4 ((refine Zab (fun K hK => ?_); go_simp; refine hK _ ?_; clear hK K))
      refine Zag ?_
      intro V3 hV3
      have HX5 := hid (HXD.out.more hV3)
      have HEX := hid (Ext.trans HXE.out hV3)
      generalize IntKind.i64.wrap (a0 + 1) = a1 at *
      clear ck hV3 HXD wi HXE
      obtain ⟨lb, hlb⟩ : ∃ l, blocksOf kk a1 = l := ⟨_, rfl⟩
      have Lb8 := hid (hlb ▸ blocksOf_108 kk a1)
      have LbB := hid (hlb ▸ blocksOf_bytes kk a1)
      have LbN := hid (show lb.length ≤ 8 by rw [← hlb, Zcf]; omega)
      have Lb0 := hid (show lb ≠ [] from hlb ▸ (by intro q; have := congrArg List.length q; rw [Zcf] at this; simp at this; omega))
      have LbF := hid (show Cd.Blocks c.k.toNat 108 lb by rw [HKT.out, ← hlb]; exact blocksOf_Blocks kk a1)
      have HLb := hid hlb
      clear hlb
      refine Zav fun Q1 hQ1 => ?_
      go_wp2_with fail
      refine (kblocks_c kk (by omega) a1 V3).mono ?_
      rintro e w5 ⟨v, rfl, hown, x5⟩
      rw [HLb.out] at hown
      obtain ⟨a5, c5, rfl, hbk, hab⟩ := kblocks_at Lb8.out hown
      obtain ⟨S5, hS⟩ : ∃ S', wideS S8 V3 w5 = S' := ⟨_, rfl⟩
      have HX6 := hid (hS ▸ HX5.out.wide x5)
      have HS5 := hid (show ∀ b, S8 b → S5 b from fun b hb => hS ▸ .inl hb)
      have HB5 := hid hbk
      have HP5 := hid (show ∀ b, a5 = some ⟨b, 0, none⟩ → S5 b ∧ b ≠ g from fun b q => ⟨hS ▸ HX5.out.ve.blk x5 hbk Lb0.out hab b q, by have := hab b q; have := lt_of_block HX5.out.vol; omega⟩)
      clear hown hbk hab hS
      go_wp2
      refine hQ1 _ _ (Ext.only x5) ?_
      have HEA0 := hid x5
      clear hQ1 Q1 x5
      rw [wpS]
      simp only [opsAt, opA, opB, opC, opD, opE, opF, opG]
      refine Zag ?_
      intro V4 hV4
      have HEA := hid (Ext.trans HEA0.out hV4)
      have HX7 := hid (HX6.out.more hV4)
      have HB7 := hid (HB5.out.ext hV4)
      clear hV4 HX6 HB5
      refine Zav fun Q2 hQ2 => ?_
      go_wp2_with fail
      refine (vcommit_c HX7.out.rack HX7.out.vol HX7.out.gS (show (0 : Int) ≤ 2 by omega) sx lb Lb8.out LbB.out a5 c5 HB7.out HP5.out).mono ?_
      rintro e w6 h6
      rw [show Vol.commit ⟨c, 2, false⟩ Rd sx lb = _ from HFN.out.commit HGD.out 2 (by rw [HST.out]; show sx < 2; exact hs2) (by rw [HK.out]; have := LbF.out.n; have := HKT.out; omega)] at h6
      obtain rfl := h6.ret
      have HX8 := hid (show VX w w6 S8 r Rd gc c g ⟨c, 2, false⟩ from (HX7.out.commit h6).less HS5.out (fun b hb => HX5.out.ve.low b hb) HX5.out.cfgS HX5.out.gS)
      have HK6 := hid (show Only (fun b => ¬ S8 b ∨ b = g) V4 w6 from Only.trans (Only.refl _ V4) h6.only (fun b _ hb => hb.elim (fun z => .inl fun q => z (HS5.out b q)) .inr))
      obtain ⟨er, her⟩ : ∃ er, Err.fault sVCommit sx (.no 7) = er := ⟨_, rfl⟩
      have HLO : Hid (er.lost = false ∧ er.kind = 7) := hid (by rw [← her]; exact ⟨rfl, rfl⟩)
      rw [her]
      simp only [oErr]
      clear h6 HX7 HB7 her HP5 HS5
      go_wp2
      refine hQ2 _ _ HK6.out ?_
      have HKY := hid (Only.trans (Ext.only HEA.out) HK6.out (fun _ _ q => q))
      clear hQ2 Q2 HK6 HEA HEA0
      rw [wpS]
      simp only [opsAt, opA, opB, opC, opD, opE, opF, opG]
      refine Zag ?_
      intro V6 hV6
      have HEB := hid hV6
      have HX9 := hid (HX8.out.more hV6)
      clear hV6 HX8
      refine Zav fun Q3 hQ3 => ?_
      go_wp2_with fail
      refine (kind_no er HLO.out.1 _ (HG.out.only HX9.out.ext (fun x => x))).mono ?_
      rintro e w7 ⟨rfl, x7⟩
      rw [HLO.out.2]
      have HXA := hid (HX9.out.more x7)
      go_wp2
      refine hQ3 _ _ (Ext.only x7) ?_
      have HKZ := hid (Only.ext HKY.out (Ext.trans HEB.out x7))
      clear hQ3 Q3 x7 HX9 HLO HKY HEB
      rw [wpS]
      simp only [opsAt, opA, opB, opC, opD, opE, opF, opG]
      iterate 4 ((refine Zab (fun K hK => ?_); go_simp; refine hK _ ?_; clear hK K))
      refine Zag ?_
      intro V7 hV7
      have HXB := hid (HXA.out.more hV7)
      have HKB := hid (Only.ext (Only.trans (Ext.only HEX.out) HKZ.out (fun _ _ q => q)) hV7)
      clear hV7 HXA HKZ HEX
      refine Zav fun Q4 hQ4 => ?_
      go_wp2_with fail
      refine (vseq_c HXB.out.vol).mono ?_
      rintro e _ ⟨rfl, rfl⟩
      go_wp2
      refine hQ4 _ _ (Only.refl _ _) ?_
      clear hQ4 Q4
      rw [wpS]
      simp only [opsAt, opA, opB, opC, opD, opE, opF, opG]
      iterate 4 ((refine Zab (fun K hK => ?_); go_simp; refine hK _ ?_; clear hK K))
      refine Zag ?_
      intro V8 hV8
      have HXC := hid (HXB.out.more hV8)
      have HKC := hid (Only.ext HKB.out hV8)
      clear hV8 HXB HKB
      refine Zav fun Q5 hQ5 => ?_
      go_wp2_with fail
      refine (vdown_c HXC.out.vol).mono ?_
      rintro e _ ⟨rfl, rfl⟩
      go_wp2
      refine hQ5 _ _ (Only.refl _ _) ?_
      clear hQ5 Q5
      rw [wpS]
      simp only [opsAt, opA, opB, opC, opD, opE, opF, opG]
      (refine Zab (fun K hK => ?_); go_simp; refine hK _ ?_; clear hK K)
      refine Zag ?_
      intro V9 hV9
      have HJV := hid (HXC.out.more hV9)
      have HKV := hid (Only.ext HKC.out hV9)
      clear hV9 HXC HKC HX5
      have HHV := hid (HH1.out.only HKV.out fun b h1 h2 q => q.elim (fun z => z (HS8.out b h2 h1)) fun z => by have z : b = g := z; have := HGW.out; omega)
      have HCV := hid (show ∀ i, i < N → V9.cell? ⟨hg0, i, none⟩ = some (.slice (some ⟨bk i, 0, none⟩) 128 (cp i)) from fun i hi => Only.cell HKV.out (HCE.out i hi) fun q => q.elim (fun z => z (HS8.out hg0 HHG.out.1 HHG.out.2)) fun z => by have z : hg0 = g := z; have := HHG.out.1; have := HGW.out; omega)
      clear HH1 HCE HKV
      go_wp2_with fail
      go_loopw [20, 19] (fun t mm wd => ∃ d q : Nat, t = .int .i64 d ∧ d + 1 ≤ kk ∧ mm = .int .i64 q ∧ q = d * m ∧ Ext V9 wd) (fun t _ _ => kk - (intOf t).toNat)
      case atStart => exact ⟨0, 0, rfl, by omega, rfl, by omega, Ext.refl _⟩
      case round =>
       obtain ⟨d2, q, rfl, hd, rfl, hq, hx⟩ := hrel
       have ck : wr.cell? ⟨gc, 1, none⟩ = some (.int .i64 kk) := (HJV.out.more hx).c1.trans (by rw [HK.out])
       by_cases hdl : d2 + 1 < kk
       ·
        have d1 : (d2 : Int) < (kk : Int) - 1 := by omega
        have HX0 := hid hx
        have HQ := hid hq
        clear hx hq
        go_wp2_with fail
        go_loopw [21, 19] (fun t mm wd => ∃ i q : Nat, t = .int .i64 i ∧ i ≤ m ∧ mm = .int .i64 q ∧ q = d2 * m + i ∧ Ext V9 wd) (fun t _ _ => m - (intOf t).toNat)
        case atStart => exact ⟨0, q, rfl, by omega, rfl, by have := HQ.out; omega, HX0.out⟩
        case round =>
         clear HX0 ck HQ
         obtain ⟨i, q, rfl, hi, rfl, hq, hx⟩ := hrel
         have HJI := hid (HJV.out.more hx)
         have HHI := hid (HHV.out.ext hx)
         have HQ := hid hq
         have HX0 := hid hx
         clear hq
         go_wp2_with fail
         refine (at_sectors HJI.out.rack).mono ?_
         rintro e w8 ⟨rfl, rfl⟩
         rw [HSM.out]
         by_cases him : i < m
         ·
          have h1 : (i : Int) < (m : Int) := by omega
          have hq1 : q < N := by
           have h2 := Nat.mul_le_mul_right m (show d2 + 1 ≤ d by have := HDK.out; omega)
           rw [Nat.add_mul, HNM.out] at h2
           have := HQ.out
           omega
          have ch : wr.cell? ⟨hg0, q, none⟩ = some (.slice (some ⟨bk q, 0, none⟩) 128 (cp q)) := Ext.cell hx (HCV.out q hq1)
          clear hx
          go_wp2_with fail
          refine (at_read HJI.out.rack d2 i).mono ?_
          rintro e w9 (⟨er, he, rfl, x9⟩ | ⟨he, p, rfl, hp, hs, x9⟩)
          ·
           rw [HRE.out d2 i hdl him] at he; cases he
          have ch9 : w9.cell? ⟨hg0, q, none⟩ = some (.slice (some ⟨bk q, 0, none⟩) 128 (cp q)) := Ext.cell x9 ch
          have q0 : (0 : Int) ≤ (q : Int) := by omega
          have q1 : (q : Int) < (N : Int) := by omega
          have HB1 := hid hs.bytes
          have HB2 := hid ((HHI.out.at_ q hq1).ext x9)
          have HX9 := hid (Ext.trans HX0.out x9)
          have HEQ := hid (show (Rd.dsk (d2 : Int)).read ((i : Int)).toNat = hf q from by
           rw [HQ.out, HHF.out d2 i him, Int.toNat_natCast])
          clear he hp hs x9 ch HHI HJI
          go_wp2_with fail
          refine (same_c _ _ HB1.out HB2.out).mono ?_
          rintro e w10 ⟨rfl, x10⟩
          rw [decide_eq_true HEQ.out]
          have HX10 := hid (Ext.trans HX9.out x10)
          clear x10
          go_wp2_with fail
          go_roundw
          case rel => exact ⟨i + 1, q + 1, by go_num, by omega, by go_num, by have := HQ.out; omega, HX10.out⟩
          case measure => simp [intOf]; omega
         ·
          obtain rfl : m = i := by omega
          have HQ2 := hid (show q = (d2 + 1) * m by rw [Nat.add_mul, Nat.one_mul]; exact HQ.out)
          go_wp2_with fail
          go_roundw
          case rel => exact ⟨d2 + 1, q, by go_num, by omega, rfl, HQ2.out, HX0.out⟩
          case measure => simp [intOf]; omega
       ·
        have d1 : ¬ (d2 : Int) < (kk : Int) - 1 := by omega
        have HX1 := hid hx
        clear hx hq
        go_wp2_with fail
        refine (volumeRuns_c _ (HG.out.only (HJV.out.more HX1.out).ext (fun x => x))).mono ?_
        rintro e w13 ⟨rfl, x13⟩
        have HX13 := hid (Ext.trans (HJV.out.more HX1.out).ext x13)
        clear x13
        go_wp2
        go_ret
        exact ⟨rfl, HX13.out⟩
end Go.Proofs.YthopnbklmlopkaaGreatDoor
namespace Go.Proofs.YthopnbklmlopkaaGreatDoor.volumeFew
open Go.ChangeShapes Go.WideShapes Go.ChangeAt Go.RowKit
open Go.ChangeMaps (open_string shut_string)
set_option linter.unusedVariables false
theorem laidOut : laidOutB Tryz.prog = true := by kernel_rfl
theorem walk (a0 : Int) (a1 : Int) (a2 : Int) (a3 : Int) (w : World) (hg : EtLaid w) (w0 : (Lit.int .i64 a0).wf = true) (w1 : (Lit.int .i64 a1).wf = true) (w2 : (Lit.int .i64 a2).wf = true) (w3 : (Lit.int .i64 a3).wf = true) :
  Calls Tryz.prog 5 #[.int .i64 a0, .int .i64 a1, .int .i64 a2, .int .i64 a3] w fun e w' => e = .returned (.bool true) ∧ Below w.heap.size w w' :=
 (volumeFew_c a0 a1 a2 a3 w hg).mono fun _ _ ⟨he, hx⟩ => ⟨he, hx.below⟩
set_option maxRecDepth 100000 in
theorem lifted (os : Os) (started : os.Started) (H : Type) (enc : TypeId × Value → H) :
  ReturnsInHanded {} Tryz.checked os 5 .any (fun w args => (Rows.volumeFewSpec.pre enc Tryz.prog Tryz.f5 [] false w args ∧ laidMetH Tryz.prog theLaid w) ∧ sizedMet enc Tryz.prog Tryz.f5 (OpenSpec.ofChange Rows.volumeFewSpec) false w args)
   (Rows.volumeFewSpec.post enc Tryz.prog Tryz.f5 false true false false) := by
 refine returnsInHanded_of_change_and (C := Tryz.checked) (X := fun w _ => laidMetH Tryz.prog theLaid w) (fun _ _ _ hh h => h.of_heap hh) hOwn started (by kernel_rfl) Tryz.func5
  (ChangeSpec.witness_at (enc := enc) (C := Tryz.checked) (os := os) (X := fun w _ => laidMetH Tryz.prog theLaid w) false (laidWorld os) #[.int .i64 0, .int .i64 0, .int .i64 0, .int .i64 0] 8 rfl (by kernel_rfl) (by kernel_rfl) (by kernel_rfl) (by kernel_rfl) (by kernel_rfl) (laidWorld_met os _)) ?_
 intro W base args ds gs before hval0 hW _ _ hL _
 have hval : ∀ (j : Nat) t v, Tryz.f5.params[j]? = some t → args[j]? = some v → Value.okWide Tryz.prog W .any base t v := hval0
 have hW' := hW
 obtain ⟨p, q, hA0, hV, rfl, hfz, hnd⟩ := hW
 have hA : DataW.TrodAll enc Tryz.prog W 0 (fun _ => true) true Tryz.f5.params.toList args.toList ds p := hA0
 rw [Tryz.params5] at hA hval
 obtain ⟨v0, vs0, d0, ds0, p0, q0, hargs, rfl, rfl, h0, r0⟩ := trodAll_cons hA
 obtain ⟨v1, vs1, d1, ds1, p1, q1, rfl, rfl, rfl, h1, r1⟩ := trodAll_cons r0
 obtain ⟨v2, vs2, d2, ds2, p2, q2, rfl, rfl, rfl, h2, r2⟩ := trodAll_cons r1
 obtain ⟨v3, vs3, d3, ds3, p3, q3, rfl, rfl, rfl, h3, r3⟩ := trodAll_cons r2
 obtain ⟨rfl, rfl, rfl⟩ := trodAll_nil r3
 obtain rfl : args = #[v0, v1, v2, v3] := by cases args; simp_all
 obtain ⟨rfl, rfl⟩ := trodVars_none hV
 obtain ⟨a0, rfl, rfl, rfl, w0⟩ := open_int Tryz.underlying3 (hval 0 3 v0 rfl rfl) h0
 obtain ⟨a1, rfl, rfl, rfl, w1⟩ := open_int Tryz.underlying3 (hval 1 3 v1 rfl rfl) h1
 obtain ⟨a2, rfl, rfl, rfl, w2⟩ := open_int Tryz.underlying3 (hval 2 3 v2 rfl rfl) h2
 obtain ⟨a3, rfl, rfl, rfl, w3⟩ := open_int Tryz.underlying3 (hval 3 3 v3 rfl rfl) h3
 have hg := etLaid_of hL
 clear hA0 hval0
 simp only [List.append_nil] at hW'
 refine (walk a0 a1 a2 a3 W hg w0 w1 w2 w3).mono fun e W' ⟨he, bel⟩ => ?_
 subst he
 exact ⟨_, rfl, _, _, _, [], _, [], hW', trodAll_mk1 (shut_bool Tryz.underlying4 _), (trodAll_cons_mk (shut_int Tryz.underlying3 w0) (trodAll_cons_mk (shut_int Tryz.underlying3 w1) (trodAll_cons_mk (shut_int Tryz.underlying3 w2) (trodAll_cons_mk (shut_int Tryz.underlying3 w3) trodAll_mk0)))), rfl, bel.frame _, fun h => by cases h⟩
theorem over : Rows.VolumeFewSaid :=
 OpenClaim.holds_of_wide 5 Tryz.f5 rfl rfl rfl rfl rfl rfl rfl ⟨rfl, rfl, rfl, rfl, rfl⟩ rfl rfl rfl rfl rfl (by kernel_rfl) Tryz.func5 (by kernel_rfl)
  (of_decide_eq_true (by kernel_rfl)) (by unfold Func.isWrapper; first | (rw [if_pos (by decide +kernel)]; kernel_rfl) | (rw [if_neg (by decide +kernel)]; exact ⟨rfl, rfl⟩))
  (fun os started H enc _ => lifted os started H enc)
theorem proved : Rows.VolumeFewCardSaid :=
 Claim7.holds_tied_plain_at .later [] [.handle] true (true, "78ccd102cf05009196ad3b49c15c4e1faf28f1e8affa82089162968d416a4bff") true
  over (fun _ h => by cases h) (by kernel_rfl) (fun _ h => by cases h) volumeFew_row_tie rfl ⟨rfl, rfl⟩ (by kernel_rfl) rfl
  (fun f fn hf hfn => by
   obtain rfl : f = 5 := Option.some.inj ((show Tryz.prog.funcNamed "stave/stavelaw12.VolumeFew" = some 5 by kernel_rfl).symm.trans hf) |>.symm
   obtain rfl : fn = Tryz.f5 := (Option.some.inj (Tryz.func5.symm.trans hfn)).symm
   exact ⟨by kernel_rfl, fun j t ht => by
    rw [Tryz.params5] at ht
    rcases j with _ | _ | _ | _ | j
    ·
     simp at ht; subst ht; kernel_rfl
    ·
     simp at ht; subst ht; kernel_rfl
    ·
     simp at ht; subst ht; kernel_rfl
    ·
     simp at ht; subst ht; kernel_rfl
    ·
     simp at ht⟩)
  (by kernel_rfl)
#print axioms proved
end Go.Proofs.YthopnbklmlopkaaGreatDoor.volumeFew
